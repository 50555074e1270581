/- The document's Calls. -/
import Derived.Test.YthgllaomafhdkaaGreatM5L
namespace Go.Proofs.YthgllaomafhdkaaGreat
open Go Go.RowKit
set_option maxRecDepth 100000
set_option maxHeartbeats 1000000
set_option linter.unusedVariables false
set_option linter.unusedSimpArgs false

/-- The document's Calls at a head of its second loop. -/
structure DRun (w0 wr : World) (lb sg cn base : Nat) (c t f r : Int) (ps : List Pg) (cs : List Cl) (fs : List Nat) (n : Nat) (u : Value) (vh : List (RV × H6)) : Prop where
  row : wr.ownsRow 0 69 7 u n (resC vh)
  apart : ∀ g, u.ownBlock = some g → w0.heap.size < g
  len : vh.length = n
  vs : vh.map (·.1) = (callsN c t f r ps (cs.take n) fs).1
  st : wr.ownsRow base 33 1 (.slice (some ⟨sg, 0, none⟩) fs.length cn) fs.length ((callsN c t f r ps (cs.take n) fs).2.map fl)
  chg : Chg w0 wr (fun k => k = sg)
  rows : ∀ x ∈ vh, ResB wr (fun b => b ≠ sg ∧ u.ownBlock ≠ some b) x
  cfg : wr.heap[w0.heap.size]? = some (.cells #[.int .i64 c, .int .i64 t, .int .i64 f, .int .i64 r] 23 (0, 0))
theorem DRun.next {w0 wr w5 w6 w7 : World} {lb sg cn base : Nat} {c t f r : Int} {ps : List Pg} {cs : List Cl} {fs : List Nat} {n : Nat} {u : Value} {vh : List (RV × H6)} (h : DRun w0 wr lb sg cn base c t f r ps cs fs n u vh) (hlw : sg < w0.heap.size) (hlb : lb ≤ w0.heap.size)
    (D5 : Chg wr w5 (fun k => k = sg)) (bx : Nat) (E6 : Chg w5 w6 (fun k => k = bx)) (x : RV × H6) (hbx : wr.heap.size ≤ bx) (hres : ResB w5 (fun b => (b < lb ∨ wr.heap.size ≤ b) ∧ b ≠ sg ∧ b ≠ bx) x)
    (hst : w5.ownsRow base 33 1 (.slice (some ⟨sg, 0, none⟩) fs.length cn) fs.length (x.1.fs.map fl))
    (hN : callsN c t f r ps (cs.take (n + 1)) fs = ((callsN c t f r ps (cs.take n) fs).1 ++ [x.1], x.1.fs)) (g' cap : Nat)
    (o7 : w7.ownsRow 0 69 7 (.slice (some ⟨g', 0, none⟩) (n + 1) cap) (n + 1) (resC vh ++ res7 x.1 x.2)) (g7 : w6.grownBy w7 u.ownBlock) (hg : u.ownBlock = some g' ∨ w6.heap.size ≤ g') :
    DRun w0 w7 lb sg cn base c t f r ps cs fs (n + 1) (.slice (some ⟨g', 0, none⟩) (n + 1) cap) (vh ++ [x]) := by
  have hz := h.chg.size
  have hz5 := D5.size
  have hz6 := E6.size
  have hcl := blk_lt h.cfg
  have C67 : Chg w6 w7 (fun k => u.ownBlock = some k) := (Chg.refl w6 _).grown g7 (fun k hk => .inr hk)
  have hz7 := C67.size
  have X : Chg w5 w7 (fun k => k = bx ∨ u.ownBlock = some k) := (E6.mono (fun k _ e => .inl e)).trans C67 (fun k _ e => .inr e)
  have hgl : ∀ b, u.ownBlock = some b → w0.heap.size < b ∧ b < wr.heap.size := fun b e => ⟨h.apart _ e, (h.row.lt _ e).2⟩
  have hown : ∀ b, (Value.slice (some ⟨g', 0, none⟩) (n + 1) cap).ownBlock ≠ some b ↔ b ≠ g' := fun b => by
    constructor
    · intro hn e; subst e; exact hn (by simp [Value.ownBlock])
    · intro hn e; apply hn; simpa [Value.ownBlock] using e.symm
  refine ⟨by rw [resC_snoc]; exact o7, ?_, by simp [h.len], by rw [List.map_append, h.vs, hN]; rfl, ?_, ?_, ?_, ?_⟩
  · intro g hgg
    simp [Value.ownBlock] at hgg
    subst hgg
    rcases hg with hg | hg
    · exact h.apart _ hg
    · omega
  · rw [hN]
    refine ownsRow_heap hst (fun k hk => X.block k (hst.lt k hk).2 (fun e => ?_))
    simp [Value.ownBlock] at hk
    subst hk
    rcases e with e | e
    · omega
    · have := (hgl _ e).1; omega
  · exact (h.chg.trans D5 (fun k _ e => e)).trans X (fun k hk e => by
      rcases e with e | e
      · omega
      · have := (hgl _ e).1; omega)
  · intro y hy
    rcases List.mem_append.1 hy with hy | hy
    · refine ((h.rows y hy).chg D5 (B' := fun b => (b ≠ sg ∧ u.ownBlock ≠ some b) ∧ b < wr.heap.size) (fun b hb hl => ⟨⟨hb, hl⟩, hb.1⟩)).chg X (fun b hb _ => ⟨⟨hb.1.1, (hown b).2 (fun e => ?_)⟩, fun e => ?_⟩)
      · rcases hg with hg | hg
        · exact hb.1.2 (e ▸ hg)
        · have := hb.2; omega
      · rcases e with e | e
        · have := hb.2; omega
        · exact hb.1.2 e
    · obtain rfl := List.mem_singleton.1 hy
      refine hres.chg X (fun b hb hl => ⟨⟨hb.2.1, (hown b).2 (fun e => ?_)⟩, fun e => ?_⟩)
      · subst e
        rcases hg with hg | hg
        · have := hgl _ hg; have := hb.1; omega
        · omega
      · rcases e with e | e
        · exact hb.2.2 e
        · have := hgl _ e; have := hb.1; omega
  · have h1 := (D5.block _ hcl (fun g => by omega)).trans h.cfg
    exact (X.block _ (by omega) (fun e => by
      rcases e with e | e
      · omega
      · have := (hgl _ e).1; omega)).trans h1
theorem rrun_m (c t f r tag : Int) (ac : Option Addr) (cc : Nat) (code : List Ins) (aa : Option Addr) (na : Nat) (args : List Nat) (C : Nat → Prop) (sg cs base n : Nat) (fs : List Nat) (w : World)
    (hC : ∀ k, C k → k < w.heap.size ∧ k ≠ sg) (hcode : RRow w C (.slice ac code.length cc) code.length 3 (insV code)) (ha : Sees w aa (args.map fl)) (hx : ∀ i ∈ code, i.2.2 < 18446744073709551616) (hax : ∀ y ∈ args, y < 18446744073709551616) (hfx : ∀ y ∈ fs, y < 18446744073709551616)
    (hrow : w.ownsRow base 33 1 (.slice (some ⟨sg, 0, none⟩) n cs) n (fs.map fl)) (hn : fs.length = n) (v : RV) (hv : v = runV c t f r tag code args fs) :
    Calls Tryz.prog 41 #[.agg #[.int .i64 c, .int .i64 t, .int .i64 f, .int .i64 r], .agg #[.int .i64 tag, .slice ac code.length cc], .slice aa args.length na, .slice (some ⟨sg, 0, none⟩) n cs] w fun e w' => ∃ ao co ar cr aw cw,
      e = .returned (.tuple #[.agg (#[.int .i64 v.how.1, .int .i64 v.how.2.1, .int .i64 v.how.2.2, .slice ao v.out.length co, .slice ar v.reads.length cr, .slice aw v.buf.length cw, .int .i64 (v.used : Int)]), .int .i64 v.err]) ∧
      ResB w' (fun b => (C b ∨ w.heap.size ≤ b) ∧ b ≠ sg) (v, ⟨ao, co, ar, cr, aw, cw⟩) ∧
      w'.ownsRow base 33 1 (.slice (some ⟨sg, 0, none⟩) n cs) n (v.fs.map fl) ∧ Chg w w' (fun k => k = sg) := by
  subst hn
  refine (rrun_any c t f r tag ac cc code aa na args C sg cs base fs w hC hcode ha hx hax hfx hrow v hv).mono ?_
  rintro e w' ⟨ao, co, ar, cr, aw, cw, he, h1, h2, h3, h4⟩
  rw [resA_w] at he
  exact ⟨ao, co, ar, cr, aw, cw, he, ⟨h1, h2, h3⟩, h4⟩
theorem RRow.old5 {w w' : World} {R : Nat → Prop} {v : Value} {n size : Nat} {xs : List Value} (h : RRow w R v n size xs) (hR : ∀ k, R k → k < w.heap.size) (hc : Chg w w' Nothing) : RRow w' R v n size xs :=
  h.move (fun b hb => ⟨hb, hc.block b (hR b hb) id⟩)
set_option maxHeartbeats 4000000 in
theorem rcalls_any (c t f r : Int) (pa : Option Addr) (pc : Nat) (ps : List Pg) (ca : Option Addr) (cc : Nat) (cs : List Cl) (sg cn base : Nat) (fs : List Nat) (w : World) (h : w.ownsRow base 33 1 (.slice (some ⟨sg, 0, none⟩) fs.length cn) fs.length (fs.map fl))
    (w0 : World) (hw0 : Chg w0 w Nothing) (hG : w0.heap.size ≤ sg) (hpl : ps.length ≤ 9223372036854775807) (hcl : cs.length ≤ 9223372036854775807) (hin : ClsIn w0 pa ca ps cs) (hfx : ∀ y ∈ fs, y < 18446744073709551616) :
    Calls Tryz.prog 52 #[.agg #[.int .i64 c, .int .i64 t, .int .i64 f, .int .i64 r], .slice pa ps.length pc, .slice ca cs.length cc, .slice (some ⟨sg, 0, none⟩) fs.length cn] w fun e w' => ∃ a cap vh,
      e = .returned (.tuple #[.slice a vh.length cap, .int .i64 (callsV c t f r ps cs fs).1]) ∧ vh.map (·.1) = (callsV c t f r ps cs fs).2.1 ∧ ResS w' a vh ∧ w'.ownsRow base 33 1 (.slice (some ⟨sg, 0, none⟩) fs.length cn) fs.length ((callsV c t f r ps cs fs).2.2.map fl) ∧ Chg w w' (fun k => k = sg) := by
  have H := Lib.hid h
  have W0 := Lib.hid hw0
  have HG := Lib.hid hG
  have HPL := Lib.hid hpl
  have HCL := Lib.hid hcl
  have HI := Lib.hid hin
  have HFX := Lib.hid hfx
  have SGW := Lib.hid (h.lt sg rfl).2
  clear h hpl hcl hin hfx hw0 hG
  by_cases hmay : CfgOk c t f r ∧ (fs.length : Int) = c
  case neg =>
    have HV := Lib.hid (callsV_may (ps := ps) (cs := cs) hmay)
    have HM := Lib.hid hmay
    clear hmay
    by_cases hcf : CfgOk c t f r
    · have b2 : ((fs.length : Int) != c) = true := by rw [bne_iff_ne]; exact fun e => HM.out ⟨hcf, e⟩
      have b3 : ((fs.length : Int) == c) = false := by rw [beq_eq_false_iff_ne]; exact fun e => HM.out ⟨hcf, e⟩
      have HC := Lib.hid hcf
      clear hcf
      go_enter Tryz.func52, Tryz.ntmps52
      go_wp2_with fail
      refine (rplace_good c t f r _ HC.out).mono ?_
      rintro e w1 ⟨⟨p0, p1, p2, p3, p4, p5, rfl⟩, hc⟩
      have B1 := (hc.block w.heap.size (by simp) id).trans (heap_alloc_new w (.cells #[.int .i64 c, .int .i64 t, .int .i64 f, .int .i64 r] 23))
      have i0 := blk_cell B1 0
      have zw : ¬ w.heap.size = w1.heap.size := by have := blk_lt B1; omega
      have zl : w.heap.size < w1.heap.size := blk_lt B1
      have C1 := Lib.hid ((((Chg.refl w Nothing).alloc _).trans hc (fun _ _ h => h)).alloc (.cells #[.int .i64 p0, .int .i64 p1, .int .i64 p2, .int .i64 p3, .int .i64 p4, .int .i64 p5] 94))
      clear hc B1
      go_wp2_with fail
      go_ret2
      exact ⟨none, 0, [], by rw [HV.out]; rfl, by rw [HV.out]; rfl, ⟨.inl rfl, fun x hx => by simp at hx⟩, by rw [HV.out]; exact ownsRow_heap H.out (fun k hk => C1.out.block k (H.out.lt k hk).2 id), C1.out.mono (fun _ _ h => h.elim)⟩
    · have HC := Lib.hid hcf
      clear hcf
      go_enter Tryz.func52, Tryz.ntmps52
      go_wp2_with fail
      refine (rplace_bad c t f r _ HC.out).mono ?_
      rintro e w1 ⟨⟨p0, p1, p2, p3, p4, p5, rfl⟩, hc⟩
      have C1 := Lib.hid ((((Chg.refl w Nothing).alloc _).trans hc (fun _ _ h => h)).alloc (.cells #[.int .i64 p0, .int .i64 p1, .int .i64 p2, .int .i64 p3, .int .i64 p4, .int .i64 p5] 94))
      clear hc
      go_wp2_with fail
      go_ret2
      exact ⟨none, 0, [], by rw [HV.out]; rfl, by rw [HV.out]; rfl, ⟨.inl rfl, fun x hx => by simp at hx⟩, by rw [HV.out]; exact ownsRow_heap H.out (fun k hk => C1.out.block k (H.out.lt k hk).2 id), C1.out.mono (fun _ _ h => h.elim)⟩
  case pos =>
    have hl64 : fs.length ≤ 256 := by have := hmay.1.1.2; omega
    have HM := Lib.hid hmay
    have HL64 := Lib.hid hl64
    clear hmay hl64
    by_cases hmany : 64 < ps.length ∨ 512 < cs.length
    case pos =>
      have HV := Lib.hid (callsV_many (ps := ps) (cs := cs) HM.out hmany)
      by_cases h64 : 64 < ps.length
      · have g1 : decide ((64 : Int) < (ps.length : Int)) = true := decide_eq_true (by omega)
        clear hmany
        go_enter Tryz.func52, Tryz.ntmps52
        go_wp2_with fail
        refine (rplace_good c t f r _ HM.out.1).mono ?_
        rintro e w1 ⟨⟨p0, p1, p2, p3, p4, p5, rfl⟩, hc⟩
        have B1 := (hc.block w.heap.size (by simp) id).trans (heap_alloc_new w (.cells #[.int .i64 c, .int .i64 t, .int .i64 f, .int .i64 r] 23))
        have i0 := blk_cell B1 0
        have zw : ¬ w.heap.size = w1.heap.size := by have := blk_lt B1; omega
        have zl : w.heap.size < w1.heap.size := blk_lt B1
        have b2 : ((fs.length : Int) != c) = false := by rw [HM.out.2]; simp
        have b3 : ((fs.length : Int) == c) = true := by rw [HM.out.2]; simp
        have C1 := Lib.hid ((((Chg.refl w Nothing).alloc _).trans hc (fun _ _ h => h)).alloc (.cells #[.int .i64 p0, .int .i64 p1, .int .i64 p2, .int .i64 p3, .int .i64 p4, .int .i64 p5] 94))
        clear hc B1
        go_wp2_with fail
        go_ret2
        exact ⟨none, 0, [], by rw [HV.out]; rfl, by rw [HV.out]; rfl, ⟨.inl rfl, fun x hx => by simp at hx⟩, by rw [HV.out]; exact ownsRow_heap H.out (fun k hk => C1.out.block k (H.out.lt k hk).2 id), C1.out.mono (fun _ _ h => h.elim)⟩
      · have g1 : decide ((64 : Int) < (ps.length : Int)) = false := decide_eq_false (by omega)
        have g2 : decide ((512 : Int) < (cs.length : Int)) = true := decide_eq_true (by omega)
        clear hmany
        go_enter Tryz.func52, Tryz.ntmps52
        go_wp2_with fail
        refine (rplace_good c t f r _ HM.out.1).mono ?_
        rintro e w1 ⟨⟨p0, p1, p2, p3, p4, p5, rfl⟩, hc⟩
        have B1 := (hc.block w.heap.size (by simp) id).trans (heap_alloc_new w (.cells #[.int .i64 c, .int .i64 t, .int .i64 f, .int .i64 r] 23))
        have i0 := blk_cell B1 0
        have zw : ¬ w.heap.size = w1.heap.size := by have := blk_lt B1; omega
        have zl : w.heap.size < w1.heap.size := blk_lt B1
        have b2 : ((fs.length : Int) != c) = false := by rw [HM.out.2]; simp
        have b3 : ((fs.length : Int) == c) = true := by rw [HM.out.2]; simp
        have C1 := Lib.hid ((((Chg.refl w Nothing).alloc _).trans hc (fun _ _ h => h)).alloc (.cells #[.int .i64 p0, .int .i64 p1, .int .i64 p2, .int .i64 p3, .int .i64 p4, .int .i64 p5] 94))
        clear hc B1
        go_wp2_with fail
        go_ret2
        exact ⟨none, 0, [], by rw [HV.out]; rfl, by rw [HV.out]; rfl, ⟨.inl rfl, fun x hx => by simp at hx⟩, by rw [HV.out]; exact ownsRow_heap H.out (fun k hk => C1.out.block k (H.out.lt k hk).2 id), C1.out.mono (fun _ _ h => h.elim)⟩
    case neg =>
      have g1 : decide ((64 : Int) < (ps.length : Int)) = false := decide_eq_false (by omega)
      have g2 : decide ((512 : Int) < (cs.length : Int)) = false := decide_eq_false (by omega)
      have HMN := Lib.hid hmany
      have hps : ps.length ≤ 64 := by omega
      have hcs : cs.length ≤ 512 := by omega
      clear hmany
      go_enter Tryz.func52, Tryz.ntmps52
      go_wp2_with fail
      refine (rplace_good c t f r _ HM.out.1).mono ?_
      rintro e w1 ⟨⟨p0, p1, p2, p3, p4, p5, rfl⟩, hc⟩
      have B1 := (hc.block w.heap.size (by simp) id).trans (heap_alloc_new w (.cells #[.int .i64 c, .int .i64 t, .int .i64 f, .int .i64 r] 23))
      have i0 := blk_cell B1 0
      have zw : ¬ w.heap.size = w1.heap.size := by have := blk_lt B1; omega
      have zl : w.heap.size < w1.heap.size := blk_lt B1
      have b2 : ((fs.length : Int) != c) = false := by rw [HM.out.2]; simp
      have b3 : ((fs.length : Int) == c) = true := by rw [HM.out.2]; simp
      have C1 := Lib.hid ((((Chg.refl w Nothing).alloc _).trans hc (fun _ _ h => h)).alloc (.cells #[.int .i64 p0, .int .i64 p1, .int .i64 p2, .int .i64 p3, .int .i64 p4, .int .i64 p5] 94))
      obtain ⟨wP, hwP⟩ : ∃ wP, wP = w1.alloc (.cells #[.int .i64 p0, .int .i64 p1, .int .i64 p2, .int .i64 p3, .int .i64 p4, .int .i64 p5] 94 (0, 0)) := ⟨_, rfl⟩
      have B1 := Lib.hid (show wP.heap[w.heap.size]? = some (.cells #[.int .i64 c, .int .i64 t, .int .i64 f, .int .i64 r] 23 (0, 0)) from by rw [hwP]; exact blk_alloc B1 _)
      have C1 := Lib.hid (show Chg w wP Nothing from by rw [hwP]; exact C1.out)
      have HWP := Lib.hid hwP
      clear hc hwP
      go_wp2_with fail
      rw [← HWP.out]
      go_loopg [43] cs.length (fun k i wr => ∃ n : Nat, n + k = cs.length ∧ i = .int .i64 ((n : Nat) : Int) ∧ Chg wP wr Nothing ∧ ∀ x ∈ cs.take n, ClOk ps x)
      case atStart => exact ⟨0, by simp, rfl, Chg.refl _ _, fun x hx => by simp at hx⟩
      case round =>
        obtain ⟨n, hn, rfl, hc, hall⟩ := hrel
        have XC := Lib.hid hc
        have AL := Lib.hid hall
        clear hc hall
        by_cases hlt : n < cs.length
        · have hd : decide (n < cs.length) = true := by simpa using hlt
          have hd2 : decide ((n : Int) < (cs.length : Int)) = true := decide_eq_true (by omega)
          have hni : (n : Int) < (cs.length : Int) := by omega
          obtain ⟨x, hx⟩ : ∃ x, cs[n]? = some x := ⟨_, List.getElem?_eq_getElem hlt⟩
          obtain ⟨q1, q2⟩ := clV_at cs n x hx
          obtain ⟨b, o, hcav, y1, y2⟩ := sees_pair (HI.out.cls.chg (W0.out.trans (C1.out.trans XC.out (fun _ _ h => h)) (fun _ _ h => h))) q1 q2
          have HX := Lib.hid hx
          have CI := Lib.hid (HI.out.cin x (List.mem_of_getElem? hx))
          clear hx q1 q2
          subst hcav
          have C2 := Lib.hid (XC.out.alloc (.cells #[.int .i64 x.prog, .slice x.av x.args.length x.cap] 140))
          by_cases hok : ClOk ps x
          · obtain ⟨k1, k2, k3⟩ := hok
            have e1 : decide (x.prog < 0) = false := decide_eq_false (by omega)
            have e2 : decide ((ps.length : Int) ≤ x.prog) = false := decide_eq_false (by omega)
            have e3 : decide ((8 : Int) < (x.args.length : Int)) = false := decide_eq_false (by omega)
            have AL2 := Lib.hid (show ∀ y ∈ cs.take (n + 1), ClOk ps y from fun y hy => by
              rw [List.take_add_one, HX.out] at hy
              rcases List.mem_append.1 hy with hy | hy
              · exact AL.out y hy
              · simp at hy; subst hy; exact ⟨k1, k2, k3⟩)
            go_wp2_with fail
            go_roundg (gk - 1)
            case measure => omega
            case rel => exact ⟨n + 1, by omega, by go_num, C2.out, AL2.out⟩
          · have HV := Lib.hid (callsV_bad (c := c) (t := t) (f := f) (r := r) (fs := fs) HM.out HMN.out (fun hh => hok (hh x (List.mem_of_getElem? HX.out))))
            have FIN := Lib.hid (C1.out.trans C2.out (fun _ _ h => h))
            have hno : x.prog < 0 ∨ (0 ≤ x.prog ∧ (ps.length : Int) ≤ x.prog) ∨ (0 ≤ x.prog ∧ x.prog < (ps.length : Int) ∧ 8 < x.args.length) := by unfold ClOk at hok; omega
            clear hok
            rcases hno with k1 | ⟨k1, k2⟩ | ⟨k1, k2, k3⟩
            · have e1 : decide (x.prog < 0) = true := decide_eq_true (by omega)
              go_wp2_with fail
              go_ret2
              exact ⟨none, 0, [], by rw [HV.out]; rfl, by rw [HV.out]; rfl, ⟨.inl rfl, fun x hx => by simp at hx⟩, by rw [HV.out]; exact ownsRow_heap H.out (fun k hk => FIN.out.block k (H.out.lt k hk).2 id), FIN.out.mono (fun _ _ h => h.elim)⟩
            · have e1 : decide (x.prog < 0) = false := decide_eq_false (by omega)
              have e2 : decide ((ps.length : Int) ≤ x.prog) = true := decide_eq_true (by omega)
              go_wp2_with fail
              go_ret2
              exact ⟨none, 0, [], by rw [HV.out]; rfl, by rw [HV.out]; rfl, ⟨.inl rfl, fun x hx => by simp at hx⟩, by rw [HV.out]; exact ownsRow_heap H.out (fun k hk => FIN.out.block k (H.out.lt k hk).2 id), FIN.out.mono (fun _ _ h => h.elim)⟩
            · have e1 : decide (x.prog < 0) = false := decide_eq_false (by omega)
              have e2 : decide ((ps.length : Int) ≤ x.prog) = false := decide_eq_false (by omega)
              have e3 : decide ((8 : Int) < (x.args.length : Int)) = true := decide_eq_true (by omega)
              go_wp2_with fail
              go_ret2
              exact ⟨none, 0, [], by rw [HV.out]; rfl, by rw [HV.out]; rfl, ⟨.inl rfl, fun x hx => by simp at hx⟩, by rw [HV.out]; exact ownsRow_heap H.out (fun k hk => FIN.out.block k (H.out.lt k hk).2 id), FIN.out.mono (fun _ _ h => h.elim)⟩
        · have hd : decide (n < cs.length) = false := by simpa using hlt
          have hd2 : decide ((n : Int) < (cs.length : Int)) = false := decide_eq_false (by omega)
          obtain rfl : n = cs.length := by omega
          have OK := Lib.hid (show ∀ x ∈ cs, ClOk ps x from by have := AL.out; rwa [List.take_length] at this)
          have HV := Lib.hid (callsV_ok (c := c) (t := t) (f := f) (r := r) (fs := fs) HM.out HMN.out OK.out)
          have C2 := Lib.hid (C1.out.trans XC.out (fun _ _ h => h))
          have B2 := Lib.hid ((XC.out.block w.heap.size (blk_lt B1.out) id).trans B1.out)
          clear AL hn hlt hd hd2
          go_wp2_with fail
          go_loopg [14, 66] cs.length (fun k u i wr => ∃ (n : Nat) (vh : List (RV × H6)), n + k = cs.length ∧ i = .int .i64 ((n : Nat) : Int) ∧ DRun w wr w0.heap.size sg cn base c t f r ps cs fs n u vh)
          case atStart => exact ⟨0, [], by simp, rfl, World.ownsRow_nil _ _ _ _, (fun g hg => by simp [Value.ownBlock] at hg), rfl, rfl, ownsRow_heap H.out (fun k hk => C2.out.block k (H.out.lt k hk).2 id), C2.out.mono (fun _ _ h => h.elim), (fun x hx => by simp at hx), B2.out⟩
          case round =>
            obtain ⟨n, vh, hn, rfl, hR⟩ := hrel
            have R := Lib.hid hR
            clear hR
            obtain ⟨wA, rfl⟩ : ∃ wA, wA = wr := ⟨_, rfl⟩
            by_cases hlt : n < cs.length
            · have hd : decide (n < cs.length) = true := by simpa using hlt
              have hd2 : decide ((n : Int) < (cs.length : Int)) = true := decide_eq_true (by omega)
              have hni : (n : Int) < (cs.length : Int) := by omega
              obtain ⟨x, hx⟩ : ∃ x, cs[n]? = some x := ⟨_, List.getElem?_eq_getElem hlt⟩
              obtain ⟨q1, q2⟩ := clV_at cs n x hx
              have CO := Lib.hid (W0.out.trans R.out.chg (fun k hk g => by have := HG.out; omega))
              obtain ⟨b, o, hcav, t1, t2⟩ := sees_pair HI.out.cls q1 q2
              obtain ⟨k1, k2, k3⟩ := OK.out x (List.mem_of_getElem? hx)
              have CI := Lib.hid (HI.out.cin x (List.mem_of_getElem? hx))
              have ST := Lib.hid (callsN_snoc (c := c) (t := t) (f := f) (r := r) (ps := ps) (fs := fs) hx)
              obtain ⟨xp, xav, xargs, xcap⟩ := x
              obtain ⟨j, hj⟩ := Int.eq_ofNat_of_zero_le k1
              dsimp only at hj k2 k3 t1 t2
              subst hj
              have hjl : j < ps.length := by omega
              obtain ⟨pg, hpg⟩ : ∃ pg, ps[j]? = some pg := ⟨_, List.getElem?_eq_getElem hjl⟩
              obtain ⟨q3, q4⟩ := pgV_at ps j pg hpg
              obtain ⟨pb, po, hpav, t3, t4⟩ := sees_pair HI.out.pgs q3 q4
              have HO1 := Lib.hid (fun (X : World) (hX : Chg w0 X Nothing) => hX.cell t1 id)
              have HO2 := Lib.hid (fun (X : World) (hX : Chg w0 X Nothing) => hX.cell t2 id)
              have HO3 := Lib.hid (fun (X : World) (hX : Chg w0 X Nothing) => hX.cell t3 id)
              have HO4 := Lib.hid (fun (X : World) (hX : Chg w0 X Nothing) => hX.cell t4 id)
              have PI := Lib.hid (HI.out.pin pg (List.mem_of_getElem? hpg))
              have FSO := Lib.hid (calls_fs (c := c) (t := t) (f := f) (r := r) HI.out.pin (cs.take n) ([], fs) (fun y hy => HI.out.cin y (List.mem_of_mem_take hy)) HFX.out (fun v hv => by simp at hv))
              obtain ⟨fs', hfs⟩ : ∃ fs', fs' = (callsN c t f r ps (cs.take n) fs).2 := ⟨_, rfl⟩
              have FL := Lib.hid (show fs'.length = fs.length from by rw [hfs]; exact FSO.out.1)
              have FX := Lib.hid (show ∀ y ∈ fs', y < 18446744073709551616 from by rw [hfs]; exact FSO.out.2.1)
              have STA := Lib.hid (show wA.ownsRow base 33 1 (.slice (some ⟨sg, 0, none⟩) fs.length cn) fs.length (fs'.map fl) from by rw [hfs]; exact R.out.st)
              obtain ⟨v, hv⟩ : ∃ v, v = runV c t f r pg.tag pg.code xargs fs' := ⟨_, rfl⟩
              have VE : v.err = 0 := by
                rw [hv]; unfold runV
                rw [if_pos ⟨HM.out.1, by rw [FL.out]; exact HM.out.2, k3⟩]
              have VO := Lib.hid (show v.Ok fs'.length from by rw [hv]; exact runV_ok PI.out.lt CI.out.lt FX.out)
              have ST2 := Lib.hid (show callsN c t f r ps (cs.take (n + 1)) fs = ((callsN c t f r ps (cs.take n) fs).1 ++ [v], v.fs) from by
                rw [ST.out]; unfold cstep callV
                rw [show ((⟨(j : Int), xav, xargs, xcap⟩ : Cl).prog).toNat = j from Int.toNat_natCast j, hpg, ← hfs]
                dsimp only
                rw [← hv])
              have HV2 := Lib.hid hv
              have hwg : ¬ w.heap.size = sg := fun g => by have := SGW.out; omega
              have BA := Lib.hid R.out.cfg
              obtain ⟨wB, hwB⟩ : ∃ wB, wB = wA.alloc (.cells #[.int .i64 (j : Int), .slice xav xargs.length xcap] 140 (0, 0)) := ⟨_, rfl⟩
              have HWB := Lib.hid hwB
              have CAB := Lib.hid (show Chg wA wB (fun k => k = sg) from by rw [hwB]; exact (Chg.refl wA _).alloc _)
              have CABN := Lib.hid (show Chg wA wB Nothing from by rw [hwB]; exact (Chg.refl wA _).alloc _)
              have HZB := Lib.hid (show wB.heap.size = wA.heap.size + 1 from by rw [hwB]; simp)
              have XB := Lib.hid (show wB.heap[wA.heap.size]? = some (.cells #[.int .i64 (j : Int), .slice xav xargs.length xcap] 140 (0, 0)) from by rw [hwB]; exact heap_alloc_new wA _)
              have COB := Lib.hid (CO.out.trans CABN.out (fun _ _ h => h))
              have STB := Lib.hid (ownsRow_heap STA.out (fun k hk => CABN.out.block k (STA.out.lt k hk).2 id))
              have CDR := Lib.hid (code_row PI.out.sees PI.out.cap PI.out.nil)
              have SK := Lib.hid (show ∀ X, Chg wB X (fun k => k = sg) → (X.cell? ⟨w.heap.size, 0, none⟩ = some (.int .i64 c) ∧ X.cell? ⟨w.heap.size, 1, none⟩ = some (.int .i64 t) ∧ X.cell? ⟨w.heap.size, 2, none⟩ = some (.int .i64 f) ∧ X.cell? ⟨w.heap.size, 3, none⟩ = some (.int .i64 r) ∧ X.cell? ⟨wA.heap.size, 0, none⟩ = some (.int .i64 (j : Int)) ∧ X.cell? ⟨wA.heap.size, 1, none⟩ = some (.slice xav xargs.length xcap) ∧ X.cell? ⟨pb, po + j * 2, none⟩ = some (.int .i64 pg.tag) ∧ X.cell? ⟨pb, po + j * 2 + 1, none⟩ = some (.slice pg.av pg.code.length pg.cap)) from fun X hX => by
                have hAX := CAB.out.trans hX (fun k _ h => h)
                have B3 := (hAX.block w.heap.size (blk_lt BA.out) hwg).trans BA.out
                have X3 := (hX.block wA.heap.size (by have := HZB.out; omega) (fun e => by have := SGW.out; have := R.out.chg.size; omega)).trans XB.out
                have HO0 := COB.out.trans hX (fun k hk g => by have := HG.out; omega)
                exact ⟨blk_cell B3 0, blk_cell B3 1, blk_cell B3 2, blk_cell B3 3, blk_cell X3 0, blk_cell X3 1, HO3.out X HO0, HO4.out X HO0⟩)
              have y1 := CO.out.cell t1 id
              have y2 := CO.out.cell t2 id
              obtain ⟨⟨a9, c9, rfl⟩, -⟩ := ownsRow_shape R.out.row
              clear hfs hv ST FSO q1 q2 q3 q4 hx hpg t1 t2 t3 t4 hwB
              subst hcav hpav
              go_wp2_with fail
              rw [← HWB.out]
              refine beginL (fun w' => w'.cell? ⟨w.heap.size, 0, none⟩ = some (.int .i64 c) ∧ w'.cell? ⟨w.heap.size, 1, none⟩ = some (.int .i64 t) ∧ w'.cell? ⟨w.heap.size, 2, none⟩ = some (.int .i64 f) ∧ w'.cell? ⟨w.heap.size, 3, none⟩ = some (.int .i64 r) ∧ w'.cell? ⟨wA.heap.size, 0, none⟩ = some (.int .i64 (j : Int)) ∧ w'.cell? ⟨wA.heap.size, 1, none⟩ = some (.slice xav xargs.length xcap) ∧ w'.cell? ⟨pb, po + j * 2, none⟩ = some (.int .i64 pg.tag) ∧ w'.cell? ⟨pb, po + j * 2 + 1, none⟩ = some (.slice pg.av pg.code.length pg.cap)) 16 (by kernel_rfl) (SK.out _ ((Chg.refl wB (fun k => k = sg)).drew)) (fun hHeld => ?_)
              refine takeL 0 2 (v := ?_) rfl (by kernel_rfl) (fun _ _ _ h => h) (by rfl) (by assumption) ?_ ?_
              rotate_left
              · (intro w hSw; (try dsimp only at hSw); go_simp; try with_reducible rfl)
              try simp only [Act.put, List.setIfInBounds_toArray, List.set_cons_zero, List.set_cons_succ]
              refine takeL 1 2 (v := ?_) rfl (by kernel_rfl) (fun _ _ _ h => h) (by rfl) (by assumption) ?_ ?_
              rotate_left
              · (intro w hSw; (try dsimp only at hSw); go_simp; try with_reducible rfl)
              try simp only [Act.put, List.setIfInBounds_toArray, List.set_cons_zero, List.set_cons_succ]
              refine takeL 2 2 (v := ?_) rfl (by kernel_rfl) (fun _ _ _ h => h) (by rfl) (by assumption) ?_ ?_
              rotate_left
              · (intro w hSw; (try dsimp only at hSw); go_simp; try with_reducible rfl)
              try simp only [Act.put, List.setIfInBounds_toArray, List.set_cons_zero, List.set_cons_succ]
              refine takeL 3 2 (v := ?_) rfl (by kernel_rfl) (fun _ _ _ h => h) (by rfl) (by assumption) ?_ ?_
              rotate_left
              · (intro w hSw; (try dsimp only at hSw); go_simp; try with_reducible rfl)
              try simp only [Act.put, List.setIfInBounds_toArray, List.set_cons_zero, List.set_cons_succ]
              refine takeL 4 2 (v := ?_) rfl (by kernel_rfl) (fun _ _ _ h => h) (by rfl) (by assumption) ?_ ?_
              rotate_left
              · (intro w hSw; (try dsimp only at hSw); go_simp; try with_reducible rfl)
              try simp only [Act.put, List.setIfInBounds_toArray, List.set_cons_zero, List.set_cons_succ]
              refine takeL 5 2 (v := ?_) rfl (by kernel_rfl) (fun _ _ _ h => h) (by rfl) (by assumption) ?_ ?_
              rotate_left
              · (intro w hSw; (try dsimp only at hSw); go_simp; try with_reducible rfl)
              try simp only [Act.put, List.setIfInBounds_toArray, List.set_cons_zero, List.set_cons_succ]
              refine takeL 6 2 (v := ?_) rfl (by kernel_rfl) (fun _ _ _ h => h) (by rfl) (by assumption) ?_ ?_
              rotate_left
              · (intro w hSw; (try dsimp only at hSw); go_simp; try with_reducible rfl)
              try simp only [Act.put, List.setIfInBounds_toArray, List.set_cons_zero, List.set_cons_succ]
              refine takeL 7 2 (v := ?_) rfl (by kernel_rfl) (fun _ _ _ h => h) (by rfl) (by assumption) ?_ ?_
              rotate_left
              · (intro w hSw; (try dsimp only at hSw); go_simp; try with_reducible rfl)
              try simp only [Act.put, List.setIfInBounds_toArray, List.set_cons_zero, List.set_cons_succ]
              refine takeL 8 2 (v := ?_) rfl (by kernel_rfl) (fun _ _ _ h => h) (by rfl) (by assumption) ?_ ?_
              rotate_left
              · (intro w hSw; (try dsimp only at hSw); go_simp; try with_reducible rfl)
              try simp only [Act.put, List.setIfInBounds_toArray, List.set_cons_zero, List.set_cons_succ]
              refine twoL 9 13 rfl rfl (by kernel_rfl) (by rfl) (by rfl) (fun K hK => ?_) (fun K hK => ?_)
              · go_simp
                go_at_call 41
                refine (rrun_m c t f r pg.tag pg.av pg.cap pg.code xav xcap xargs (CodeB pg.av pg.code) sg cn base fs.length fs' _ (fun k hk => ⟨Nat.lt_of_lt_of_le (CDR.out.1 k hk) (COB.out.trans ((Chg.refl wB Nothing).drew) (fun _ _ h => h)).size, fun e => by have := CDR.out.1 k hk; have := HG.out; omega⟩) (CDR.out.2.old5 CDR.out.1 (COB.out.trans ((Chg.refl wB Nothing).drew) (fun _ _ h => h))) ((CI.out.sees.chg COB.out).chg ((Chg.refl wB Nothing).drew)) PI.out.lt CI.out.lt FX.out (ownsRow_heap STB.out (fun k hk => (((Chg.refl wB Nothing).drew)).block k (STB.out.lt k hk).2 id)) FL.out v HV2.out).mono ?_
                rintro e w5 ⟨ao, co, ar, cr, aw, cw, rfl, hres, hst, hc⟩
                have D5 := Lib.hid (show Chg wB w5 (fun k => k = sg) from ((Chg.refl wB (fun k => k = sg)).drew).trans hc (fun k _ h => h))
                have ROW := Lib.hid (show ResB w5 (fun b => (b < w0.heap.size ∨ wA.heap.size ≤ b) ∧ b ≠ sg ∧ b ≠ w5.heap.size) (v, ⟨ao, co, ar, cr, aw, cw⟩) from hres.chg (Chg.refl w5 Nothing) (fun b hb hl => ⟨⟨hb.1.imp (fun h => CDR.out.1 b h) (fun h => by have := HZB.out; simp at h; omega), hb.2, fun e => by have h0 := HZB.out; have h1 := CO.out.size; rcases hb.1 with h | h; (have := CDR.out.1 b h; have := hc.size; simp at this; omega); (simp at h; omega)⟩, id⟩))
                have ST5 := Lib.hid hst
                clear hres hst hc
                go_wp2_with fail
                refine hK.out _ _ (SK.out _ D5.out) (fun hHeld => ?_)
                clear hK K
                try simp only [Act.put, List.setIfInBounds_toArray, List.set_cons_zero, List.set_cons_succ]
                refine takeL 10 2 (v := ?_) rfl (by kernel_rfl) (fun _ _ _ h => h) (by rfl) (by assumption) ?_ ?_
                rotate_left
                · (intro w hSw; (try dsimp only at hSw); go_simp; try with_reducible rfl)
                try simp only [Act.put, List.setIfInBounds_toArray, List.set_cons_zero, List.set_cons_succ]
                refine takeL 11 2 (v := ?_) rfl (by kernel_rfl) (fun _ _ _ h => h) (by rfl) (by assumption) ?_ ?_
                rotate_left
                · (intro w hSw; (try dsimp only at hSw); go_simp; try with_reducible rfl)
                try simp only [Act.put, List.setIfInBounds_toArray, List.set_cons_zero, List.set_cons_succ]
                refine takeL 12 2 (v := ?_) rfl (by kernel_rfl) (fun _ _ _ h => h) (by rfl) (by assumption) ?_ ?_
                rotate_left
                · (intro w hSw; (try dsimp only at hSw); go_simp; try with_reducible rfl)
                try simp only [Act.put, List.setIfInBounds_toArray, List.set_cons_zero, List.set_cons_succ]
                refine oneL 13 rfl (by kernel_rfl) (by rfl) (fun K hK => ?_)
                go_simp
                refine hK.out _ _ (SK.out _ (D5.out.alloc _)) (fun hHeld => ?_)
                clear hK K
                try simp only [Act.put, List.setIfInBounds_toArray, List.set_cons_zero, List.set_cons_succ]
                refine oneL 14 rfl (by kernel_rfl) (by rfl) (fun K hK => ?_)
                go_simp
                refine hK.out _ _ (SK.out _ (D5.out.alloc _)) (fun hHeld => ?_)
                clear hK K
                try simp only [Act.put, List.setIfInBounds_toArray, List.set_cons_zero, List.set_cons_succ]
                refine takeL 15 2 (v := ?_) rfl (by kernel_rfl) (fun _ _ _ h => h) (by rfl) (by assumption) ?_ ?_
                rotate_left
                · (intro w hSw; (try dsimp only at hSw); go_simp; try with_reducible rfl)
                try simp only [Act.put, List.setIfInBounds_toArray, List.set_cons_zero, List.set_cons_succ]
                refine doneL (by kernel_rfl) ?_ _
                have D5A := Lib.hid (show Chg wA w5 (fun k => k = sg) from CAB.out.trans D5.out (fun k _ h => h))
                go_wp2_with (at_builtin; refine append_one rfl _ _ 86 69 rfl (.agg #[.int .i64 0, .int .i64 0, .int .i64 0, .slice none 0 0, .slice none 0 0, .slice none 0 0, .int .i64 0]) 7 104 Tryz.underlying86 (by kernel_rfl) rfl (by decide) _ n (resC vh) rfl ?d1a (w5.heap.size + 1) 1 rfl (res7 v ⟨ao, co, ar, cr, aw, cw⟩) rfl ?d1b (by intro u hu; simp [res7] at hu; rcases hu with rfl | rfl | rfl | rfl | rfl | rfl | rfl <;> rfl) (by unfold maxLen; omega) (by omega) ?d1c)
                case d1a => exact ownsRow_heap R.out.row (fun k hk => ((D5A.out.mono (fun k _ g => Or.inl g)).trans (((Chg.refl w5 (fun k => k = w5.heap.size)).alloc _).alloc _) (fun k _ e => Or.inr e)).block (S := fun k => k = sg ∨ k = w5.heap.size) k (R.out.row.lt k hk).2 (fun e => by have h1 := R.out.apart k hk; have h2 := (R.out.row.lt k hk).2; have h3 := SGW.out; have h4 := HZB.out; have h5 := D5.out.size; rcases e with g | e <;> omega))
                case d1b => exact new7 _ _ (by simp)
                case d1c =>
                  intro g7 c7 w7 o7 gr7 hg7
                  have N1 := Lib.hid (R.out.next SGW.out W0.out.size D5A.out w5.heap.size (((Chg.refl w5 (fun k => k = w5.heap.size)).alloc _).alloc _) (v, ⟨ao, co, ar, cr, aw, cw⟩) (by have := D5.out.size; have := HZB.out; omega) ROW.out ST5.out ST2.out g7 c7 o7 gr7 (hg7.imp id (fun h => by simpa using h)))
                  clear o7 gr7 hg7
                  go_wp2_with fail
                  go_roundg (gk - 1)
                  case measure => omega
                  case rel => exact ⟨n + 1, _, by omega, by go_num, N1.out⟩
              · go_simp
                refine hK.out _ _ (SK.out _ (((Chg.refl wB (fun k => k = sg)).alloc _).drew)) (fun hHeld => ?_)
                clear hK K
                try simp only [Act.put, List.setIfInBounds_toArray, List.set_cons_zero, List.set_cons_succ]
                refine oneL 9 rfl (by kernel_rfl) (by rfl) (fun K hK => ?_)
                go_simp
                go_at_call 41
                refine (rrun_m c t f r pg.tag pg.av pg.cap pg.code xav xcap xargs (CodeB pg.av pg.code) sg cn base fs.length fs' _ (fun k hk => ⟨Nat.lt_of_lt_of_le (CDR.out.1 k hk) (COB.out.trans (((Chg.refl wB Nothing).alloc _).drew) (fun _ _ h => h)).size, fun e => by have := CDR.out.1 k hk; have := HG.out; omega⟩) (CDR.out.2.old5 CDR.out.1 (COB.out.trans (((Chg.refl wB Nothing).alloc _).drew) (fun _ _ h => h))) ((CI.out.sees.chg COB.out).chg (((Chg.refl wB Nothing).alloc _).drew)) PI.out.lt CI.out.lt FX.out (ownsRow_heap STB.out (fun k hk => ((((Chg.refl wB Nothing).alloc _).drew)).block k (STB.out.lt k hk).2 id)) FL.out v HV2.out).mono ?_
                rintro e w5 ⟨ao, co, ar, cr, aw, cw, rfl, hres, hst, hc⟩
                have D5 := Lib.hid (show Chg wB w5 (fun k => k = sg) from (((Chg.refl wB (fun k => k = sg)).alloc _).drew).trans hc (fun k _ h => h))
                have ROW := Lib.hid (show ResB w5 (fun b => (b < w0.heap.size ∨ wA.heap.size ≤ b) ∧ b ≠ sg ∧ b ≠ wB.heap.size) (v, ⟨ao, co, ar, cr, aw, cw⟩) from hres.chg (Chg.refl w5 Nothing) (fun b hb hl => ⟨⟨hb.1.imp (fun h => CDR.out.1 b h) (fun h => by have := HZB.out; simp at h; omega), hb.2, fun e => by have h0 := HZB.out; have h1 := CO.out.size; rcases hb.1 with h | h; (have := CDR.out.1 b h; have := hc.size; simp at this; omega); (simp at h; omega)⟩, id⟩))
                have ST5 := Lib.hid hst
                have E9 := Lib.hid ((hc.block wB.heap.size (by simp) (fun g => by have := SGW.out; have := R.out.chg.size; have := HZB.out; omega)).trans (drew_blk (heap_alloc_new wB (.cells #[.int .i64 0, .int .i64 0, .int .i64 0, .slice none 0 0, .slice none 0 0, .slice none 0 0, .int .i64 0] 69 (0, 0)))))
                clear hres hst hc
                go_wp2_with fail
                refine hK.out _ _ (SK.out _ D5.out) (fun hHeld => ?_)
                clear hK K
                try simp only [Act.put, List.setIfInBounds_toArray, List.set_cons_zero, List.set_cons_succ]
                refine takeL 10 2 (v := ?_) rfl (by kernel_rfl) (fun _ _ _ h => h) (by rfl) (by assumption) ?_ ?_
                rotate_left
                · (intro w hSw; (try dsimp only at hSw); go_simp; try with_reducible rfl)
                try simp only [Act.put, List.setIfInBounds_toArray, List.set_cons_zero, List.set_cons_succ]
                refine takeL 11 2 (v := ?_) rfl (by kernel_rfl) (fun _ _ _ h => h) (by rfl) (by assumption) ?_ ?_
                rotate_left
                · (intro w hSw; (try dsimp only at hSw); go_simp; try with_reducible rfl)
                try simp only [Act.put, List.setIfInBounds_toArray, List.set_cons_zero, List.set_cons_succ]
                refine takeL 12 2 (v := ?_) rfl (by kernel_rfl) (fun _ _ _ h => h) (by rfl) (by assumption) ?_ ?_
                rotate_left
                · (intro w hSw; (try dsimp only at hSw); go_simp; try with_reducible rfl)
                try simp only [Act.put, List.setIfInBounds_toArray, List.set_cons_zero, List.set_cons_succ]
                refine oneL 14 rfl (by kernel_rfl) (by rfl) (fun K hK => ?_)
                have e9 := E9.out
                have x0 := blk_cell e9 0
                have x1 := blk_cell e9 1
                have x2 := blk_cell e9 2
                have x3 := blk_cell e9 3
                have x4 := blk_cell e9 4
                have x5 := blk_cell e9 5
                have x6 := blk_cell e9 6
                have f0 := blk_free e9 0
                have f1 := blk_free e9 1
                have f2 := blk_free e9 2
                have f3 := blk_free e9 3
                have f4 := blk_free e9 4
                have f5 := blk_free e9 5
                have f6 := blk_free e9 6
                clear e9
                have CE := Lib.hid (seven_chg (v0 := .int .i64 v.how.1) (v1 := .int .i64 v.how.2.1) (v2 := .int .i64 v.how.2.2) (v3 := .slice ao v.out.length co) (v4 := .slice ar v.reads.length cr) (v5 := .slice aw v.buf.length cw) (v6 := .int .i64 (v.used : Int)) (Chg.refl w5 (fun k => k = wB.heap.size)) (.inr rfl))
                go_simp
                refine hK.out _ _ (SK.out _ (D5.out.trans CE.out (fun k hk e => by omega))) (fun hHeld => ?_)
                clear hK K
                try simp only [Act.put, List.setIfInBounds_toArray, List.set_cons_zero, List.set_cons_succ]
                refine takeL 15 2 (v := ?_) rfl (by kernel_rfl) (fun _ _ _ h => h) (by rfl) (by assumption) ?_ ?_
                rotate_left
                · (intro w hSw; (try dsimp only at hSw); go_simp; try with_reducible rfl)
                try simp only [Act.put, List.setIfInBounds_toArray, List.set_cons_zero, List.set_cons_succ]
                refine doneL (by kernel_rfl) ?_ _
                have D5A := Lib.hid (show Chg wA w5 (fun k => k = sg) from CAB.out.trans D5.out (fun k _ h => h))
                go_wp2_with (at_builtin; refine append_one rfl _ _ 86 69 rfl (.agg #[.int .i64 0, .int .i64 0, .int .i64 0, .slice none 0 0, .slice none 0 0, .slice none 0 0, .int .i64 0]) 7 104 Tryz.underlying86 (by kernel_rfl) rfl (by decide) _ n (resC vh) rfl ?d2a w5.heap.size 1 rfl (res7 v ⟨ao, co, ar, cr, aw, cw⟩) rfl ?d2b (by intro u hu; simp [res7] at hu; rcases hu with rfl | rfl | rfl | rfl | rfl | rfl | rfl <;> rfl) (by unfold maxLen; omega) (by omega) ?d2c)
                case d2a => exact ownsRow_heap R.out.row (fun k hk => ((D5A.out.mono (fun k _ g => Or.inl g)).trans (CE.out.alloc _) (fun k _ e => Or.inr e)).block (S := fun k => k = sg ∨ k = wB.heap.size) k (R.out.row.lt k hk).2 (fun e => by have h1 := R.out.apart k hk; have h2 := (R.out.row.lt k hk).2; have h3 := SGW.out; have h4 := HZB.out; have h5 := D5.out.size; rcases e with g | e <;> omega))
                case d2b => exact new7 _ _ (by simp)
                case d2c =>
                  intro g7 c7 w7 o7 gr7 hg7
                  have N1 := Lib.hid (R.out.next SGW.out W0.out.size D5A.out wB.heap.size (CE.out.alloc _) (v, ⟨ao, co, ar, cr, aw, cw⟩) (by have := HZB.out; omega) ROW.out ST5.out ST2.out g7 c7 o7 gr7 (hg7.imp id (fun h => by simpa using h)))
                  clear o7 gr7 hg7
                  go_wp2_with fail
                  go_roundg (gk - 1)
                  case measure => omega
                  case rel => exact ⟨n + 1, _, by omega, by go_num, N1.out⟩
            · have hd : decide (n < cs.length) = false := by simpa using hlt
              have hd2 : decide ((n : Int) < (cs.length : Int)) = false := decide_eq_false (by omega)
              obtain rfl : n = cs.length := by omega
              obtain ⟨⟨a9, c9, rfl⟩, -⟩ := ownsRow_shape R.out.row
              go_wp2_with fail
              go_ret2
              exact ⟨a9, c9, vh, by rw [HV.out, R.out.len]; rfl, by rw [HV.out]; have := R.out.vs; rwa [List.take_length] at this, ⟨Sees.of_owns R.out.row, fun x hx => (R.out.rows x hx).res⟩, by rw [HV.out]; have := R.out.st; rwa [List.take_length] at this, R.out.chg⟩
end Go.Proofs.YthgllaomafhdkaaGreat
