/- alone.Calls. -/
import Derived.Test.YthgllaomafhdkaaGreatM5K
import Derived.Test.YthgllaomafhdkaaGreatSee
import Derived.Test.YthgllaomafhdkaaGreatHeld2
namespace Go.Proofs.YthgllaomafhdkaaGreat
open Go Go.RowKit
set_option maxRecDepth 100000
set_option maxHeartbeats 1000000
set_option linter.unusedVariables false
set_option linter.unusedSimpArgs false

theorem sees_pair {w : World} {a : Option Addr} {xs : List Value} {i : Nat} {u v : Value} (h : Sees w a xs) (h1 : xs[i * 2]? = some u) (h2 : xs[i * 2 + 1]? = some v) : ∃ b o, a = some ⟨b, o, none⟩ ∧ w.cell? ⟨b, o + i * 2, none⟩ = some u ∧ w.cell? ⟨b, o + i * 2 + 1, none⟩ = some v := by
  rcases h with h | ⟨b, o, rfl, hc⟩
  · rw [h] at h1; simp at h1
  · exact ⟨b, o, rfl, hc _ _ h1, by rw [Nat.add_assoc]; exact hc _ _ h2⟩
/-- What of a result may be read lies in such blocks. -/
structure ResB (w : World) (B : Nat → Prop) (x : RV × H6) : Prop where
  out : SeesB w B x.2.ao (x.1.out.map fl)
  reads : SeesB w B x.2.ar (tchV x.1.reads)
  buf : SeesB w B x.2.aw (tchV x.1.buf)
theorem ResB.chg {w w' : World} {B B' F : Nat → Prop} {x : RV × H6} (h : ResB w B x) (hc : Chg w w' F) (hB : ∀ b, B b → b < w.heap.size → B' b ∧ ¬ F b) : ResB w' B' x := ⟨h.out.chg hc hB, h.reads.chg hc hB, h.buf.chg hc hB⟩
theorem ResB.res {w : World} {B : Nat → Prop} {x : RV × H6} (h : ResB w B x) : ResIn w x := ⟨h.out.sees, h.reads.sees, h.buf.sees⟩
theorem SeesB.of_owns {w : World} {base : Nat} {e : TypeId} {size : Nat} {a : Option Addr} {n c : Nat} {xs : List Value} {B : Nat → Prop} (h : w.ownsRow base e size (.slice a n c) n xs) (hB : ∀ g, (Value.slice a n c).ownBlock = some g → B g) : SeesB w B a xs := by
  rcases Sees.of_owns h with h1 | ⟨b, o, rfl, hc⟩
  · exact .inl h1
  · exact .inr ⟨b, o, rfl, hB b (by simp [Value.ownBlock]), hc⟩
/-- Results in memory, in such blocks. -/
structure ResSB (w : World) (B : Nat → Prop) (a : Option Addr) (vh : List (RV × H6)) : Prop where
  sees : SeesB w B a (resC vh)
  all : ∀ x ∈ vh, ResB w B x
theorem ResSB.res {w : World} {B : Nat → Prop} {a : Option Addr} {vh : List (RV × H6)} (h : ResSB w B a vh) : ResS w a vh := ⟨h.sees.sees, fun x hx => (h.all x hx).res⟩
theorem ResSB.chg {w w' : World} {B B' F : Nat → Prop} {a : Option Addr} {vh : List (RV × H6)} (h : ResSB w B a vh) (hc : Chg w w' F) (hB : ∀ b, B b → b < w.heap.size → B' b ∧ ¬ F b) : ResSB w' B' a vh := ⟨h.sees.chg hc hB, fun x hx => (h.all x hx).chg hc hB⟩
/-- A result's rows, apart from what was. -/
structure ResO (base : Nat) (w : World) (x : RV × H6) : Prop where
  out : w.ownsRow base 33 1 (.slice x.2.ao x.1.out.length x.2.co) x.1.out.length (x.1.out.map fl)
  reads : w.ownsRow base 77 2 (.slice x.2.ar x.1.reads.length x.2.cr) x.1.reads.length (tchV x.1.reads)
  buf : w.ownsRow base 77 2 (.slice x.2.aw x.1.buf.length x.2.cw) x.1.buf.length (tchV x.1.buf)
theorem ResO.chg {base : Nat} {w w' : World} {x : RV × H6} {F : Nat → Prop} (h : ResO base w x) (hc : Chg w w' F) (hF : ∀ k, base ≤ k → ¬ F k) : ResO base w' x := ⟨row_chg h.out hc hF, row_chg h.reads hc hF, row_chg h.buf hc hF⟩
theorem ResO.res {base : Nat} {w : World} {x : RV × H6} (h : ResO base w x) : ResB w (fun b => base ≤ b) x := ⟨SeesB.of_owns h.out (fun g hg => (h.out.lt g hg).1), SeesB.of_owns h.reads (fun g hg => (h.reads.lt g hg).1), SeesB.of_owns h.buf (fun g hg => (h.buf.lt g hg).1)⟩
/-- Its blocks. -/
def Blk (x : RV × H6) (k : Nat) : Prop := (Value.slice x.2.ao x.1.out.length x.2.co).ownBlock = some k ∨ (Value.slice x.2.ar x.1.reads.length x.2.cr).ownBlock = some k ∨ (Value.slice x.2.aw x.1.buf.length x.2.cw).ownBlock = some k
theorem ResO.blk {base : Nat} {w : World} {x : RV × H6} (h : ResO base w x) {k : Nat} (hk : Blk x k) : base ≤ k ∧ k < w.heap.size := by
  rcases hk with hk | hk | hk
  · exact h.out.lt k hk
  · exact h.reads.lt k hk
  · exact h.buf.lt k hk
theorem ResO.keep {base : Nat} {w w' : World} {x : RV × H6} {F : Nat → Prop} (h : ResO base w x) (hc : Chg w w' F) (hF : ∀ k, Blk x k → ¬ F k) : ResO base w' x :=
  ⟨ownsRow_heap h.out (fun k hk => hc.block k (h.out.lt k hk).2 (hF k (.inl hk))), ownsRow_heap h.reads (fun k hk => hc.block k (h.reads.lt k hk).2 (hF k (.inr (.inl hk)))), ownsRow_heap h.buf (fun k hk => hc.block k (h.buf.lt k hk).2 (hF k (.inr (.inr hk))))⟩
theorem ResO.base {base base' : Nat} {w : World} {x : RV × H6} (h : ResO base w x) (hb : base' ≤ base) : ResO base' w x := ⟨ownsRow_base h.out hb, ownsRow_base h.reads hb, ownsRow_base h.buf hb⟩
/-- alone.Calls at a head of its second loop. -/
structure CRun (w0 wr : World) (p : Nat) (G : Nat → Prop) (c t f r : Int) (ps : List Pg) (cs : List Cl) (fs : List Nat) (n : Nat) (u : Value) (vh : List (RV × H6)) : Prop where
  row : wr.ownsRow 0 69 7 u n (resC vh)
  apart : ∀ g, u.ownBlock = some g → w0.heap.size < g ∧ ∀ x ∈ vh, ¬ Blk x g
  len : vh.length = n
  vs : vh.map (·.1) = (callsN c t f r ps (cs.take n) fs).1
  st : Sta wr p G ((callsN c t f r ps (cs.take n) fs).2.map fl)
  chg : Chg w0 wr G
  rows : ∀ x ∈ vh, ResO w0.heap.size wr x
  cfg : wr.heap[w0.heap.size]? = some (.cells #[.int .i64 c, .int .i64 t, .int .i64 f, .int .i64 r] 23 (0, 0))
theorem CRun.next {w0 wr w5 w6 w7 : World} {p : Nat} {G : Nat → Prop} {c t f r : Int} {ps : List Pg} {cs : List Cl} {fs : List Nat} {n : Nat} {u : Value} {vh : List (RV × H6)} (h : CRun w0 wr p G c t f r ps cs fs n u vh) (hlw : ∀ k, G k → k < w0.heap.size)
    (D5 : Chg wr w5 G) (bx : Nat) (E6 : Chg w5 w6 (fun k => k = bx)) (x : RV × H6) (hbx : wr.heap.size ≤ bx ∧ ¬ Blk x bx) (hres : ResO wr.heap.size w5 x) (hst : Sta w5 p G (x.1.fs.map fl))
    (hN : callsN c t f r ps (cs.take (n + 1)) fs = ((callsN c t f r ps (cs.take n) fs).1 ++ [x.1], x.1.fs)) (g' cap : Nat)
    (o7 : w7.ownsRow 0 69 7 (.slice (some ⟨g', 0, none⟩) (n + 1) cap) (n + 1) (resC vh ++ res7 x.1 x.2)) (g7 : w6.grownBy w7 u.ownBlock) (hg : u.ownBlock = some g' ∨ w6.heap.size ≤ g') :
    CRun w0 w7 p G c t f r ps cs fs (n + 1) (.slice (some ⟨g', 0, none⟩) (n + 1) cap) (vh ++ [x]) := by
  have hz := h.chg.size
  have hz5 := D5.size
  have hz6 := E6.size
  have hcl := blk_lt h.cfg
  have C67 : Chg w6 w7 (fun k => u.ownBlock = some k) := (Chg.refl w6 _).grown g7 (fun k hk => .inr hk)
  have hz7 := C67.size
  have X : Chg w5 w7 (fun k => k = bx ∨ u.ownBlock = some k) := (E6.mono (fun k _ e => .inl e)).trans C67 (fun k _ e => .inr e)
  refine ⟨by rw [resC_snoc]; exact o7, ?_, by simp [h.len], by rw [List.map_append, h.vs, hN]; rfl, ?_, ?_, ?_, ?_⟩
  · intro g hgg
    simp [Value.ownBlock] at hgg
    subst hgg
    constructor
    · rcases hg with hg | hg
      · exact (h.apart _ hg).1
      · omega
    · intro y hy hb
      rcases List.mem_append.1 hy with hy | hy
      · rcases hg with hg | hg
        · exact (h.apart _ hg).2 y hy hb
        · have := ((h.rows y hy).blk hb).2; omega
      · obtain rfl := List.mem_singleton.1 hy
        rcases hg with hg | hg
        · have := (h.row.lt _ hg).2; have := (hres.blk hb).1; omega
        · have := (hres.blk hb).2; omega
  · rw [hN]
    exact hst.chg X (fun k hk e => by
      have := hlw k hk
      rcases e with e | e
      · omega
      · have := (h.apart _ e).1; omega)
  · exact (h.chg.trans D5 (fun k _ e => e)).trans X (fun k hk e => by
      rcases e with e | e
      · omega
      · have := (h.apart _ e).1; omega)
  · intro y hy
    rcases List.mem_append.1 hy with hy | hy
    · have h1 := (h.rows y hy).keep D5 (fun k hb g => by have := hlw k g; have := ((h.rows y hy).blk hb).1; omega)
      exact h1.keep X (fun k hb e => by
        rcases e with e | e
        · have := ((h.rows y hy).blk hb).2; omega
        · exact (h.apart _ e).2 y hy hb)
    · obtain rfl := List.mem_singleton.1 hy
      refine (hres.keep X (fun k hb e => ?_)).base (by omega)
      rcases e with rfl | e
      · exact hbx.2 hb
      · have := (h.row.lt _ e).2; have := (hres.blk hb).1; omega
  · have h1 := (D5.block _ hcl (fun g => by have := hlw _ g; omega)).trans h.cfg
    exact (X.block _ (by omega) (fun e => by
      rcases e with e | e
      · omega
      · have := (h.apart _ e).1; omega)).trans h1
theorem new7 (W : World) (b : Nat) (hb : b = W.heap.size) {v : RV} {h : H6} : ∀ j u, (res7 v h)[j]? = some u → (W.alloc (.cells #[.int .i64 v.how.1, .int .i64 v.how.2.1, .int .i64 v.how.2.2, .slice h.ao v.out.length h.co, .slice h.ar v.reads.length h.cr, .slice h.aw v.buf.length h.cw, .int .i64 (v.used : Int)] 69 (0, 0))).cell? ⟨b, j, none⟩ = some u := by
  subst hb
  intro j u hu
  match j, hu with
  | 0, hu => injection hu with hu; subst hu; exact blk_cell (heap_alloc_new W _) 0
  | 1, hu => injection hu with hu; subst hu; exact blk_cell (heap_alloc_new W _) 1
  | 2, hu => injection hu with hu; subst hu; exact blk_cell (heap_alloc_new W _) 2
  | 3, hu => injection hu with hu; subst hu; exact blk_cell (heap_alloc_new W _) 3
  | 4, hu => injection hu with hu; subst hu; exact blk_cell (heap_alloc_new W _) 4
  | 5, hu => injection hu with hu; subst hu; exact blk_cell (heap_alloc_new W _) 5
  | 6, hu => injection hu with hu; subst hu; exact blk_cell (heap_alloc_new W _) 6
  | j + 7, hu => cases hu
set_option maxHeartbeats 4000000 in
theorem acalls_any (c t f r : Int) (pa : Option Addr) (pc : Nat) (ps : List Pg) (ca : Option Addr) (cc : Nat) (cs : List Cl) (p : Nat) (G : Nat → Prop) (fs : List Nat) (w : World) (h : Sta w p G (fs.map fl))
    (w0 : World) (hw0 : Chg w0 w Nothing) (hG : ∀ k, G k → w0.heap.size ≤ k) (hpl : ps.length ≤ 9223372036854775807) (hcl : cs.length ≤ 9223372036854775807) (hin : ClsIn w0 pa ca ps cs) (hfx : ∀ y ∈ fs, y < 18446744073709551616) :
    Calls Tryz.prog 51 #[.agg #[.int .i64 c, .int .i64 t, .int .i64 f, .int .i64 r], .slice pa ps.length pc, .slice ca cs.length cc, .pointer (some ⟨p, 0, none⟩)] w fun e w' => ∃ a cap vh,
      e = .returned (.tuple #[.slice a vh.length cap, .int .i64 (callsV c t f r ps cs fs).1]) ∧ vh.map (·.1) = (callsV c t f r ps cs fs).2.1 ∧ ResSB w' (fun b => w.heap.size ≤ b) a vh ∧ Sta w' p G ((callsV c t f r ps cs fs).2.2.map fl) ∧ Chg w w' G := by
  have H := Lib.hid h
  have W0 := Lib.hid hw0
  have HG := Lib.hid hG
  have HPL := Lib.hid hpl
  have HCL := Lib.hid hcl
  have HI := Lib.hid hin
  have HFX := Lib.hid hfx
  clear h hpl hcl hin hfx hw0 hG
  by_cases hmay : CfgOk c t f r ∧ (fs.length : Int) = c
  case neg =>
    have HV := Lib.hid (callsV_may (ps := ps) (cs := cs) hmay)
    have HM := Lib.hid hmay
    clear hmay
    go_enter Tryz.func51, Tryz.ntmps51
    go_wp2_with fail
    refine (may_bad c t f r p G fs _ (H.out.chg ((Chg.refl w Nothing).alloc _) (fun _ _ h => h)) HM.out).mono ?_
    rintro e w1 ⟨rfl, hc⟩
    have C1 := Lib.hid (((Chg.refl w Nothing).alloc _).trans hc (fun _ _ h => h))
    clear hc
    go_wp2_with fail
    go_ret2
    exact ⟨none, 0, [], by rw [HV.out]; rfl, by rw [HV.out]; rfl, ⟨.inl rfl, fun x hx => by simp at hx⟩, by rw [HV.out]; exact H.out.chg C1.out (fun _ _ h => h), C1.out.mono (fun _ _ h => h.elim)⟩
  case pos =>
    have hl64 : fs.length ≤ 256 := by have := hmay.1.1.2; omega
    have HM := Lib.hid hmay
    have HL64 := Lib.hid hl64
    clear hmay hl64
    by_cases hmany : 64 < ps.length ∨ 512 < cs.length
    case pos =>
      have HV := Lib.hid (callsV_many (ps := ps) (cs := cs) HM.out hmany)
      by_cases h64 : 64 < ps.length
      · have g1 : decide ((64 : Int) < (ps.length : Int)) = true := decide_eq_true (by omega)
        clear hmany
        go_enter Tryz.func51, Tryz.ntmps51
        go_wp2_with fail
        refine (may_good c t f r p G fs _ (H.out.chg ((Chg.refl w Nothing).alloc _) (fun _ _ h => h)) HM.out.1 HM.out.2).mono ?_
        rintro e w1 ⟨rfl, hc⟩
        have C1 := Lib.hid (((Chg.refl w Nothing).alloc _).trans hc (fun _ _ h => h))
        clear hc
        go_wp2_with fail
        go_ret2
        exact ⟨none, 0, [], by rw [HV.out]; rfl, by rw [HV.out]; rfl, ⟨.inl rfl, fun x hx => by simp at hx⟩, by rw [HV.out]; exact H.out.chg C1.out (fun _ _ h => h), C1.out.mono (fun _ _ h => h.elim)⟩
      · have g1 : decide ((64 : Int) < (ps.length : Int)) = false := decide_eq_false (by omega)
        have g2 : decide ((512 : Int) < (cs.length : Int)) = true := decide_eq_true (by omega)
        clear hmany
        go_enter Tryz.func51, Tryz.ntmps51
        go_wp2_with fail
        refine (may_good c t f r p G fs _ (H.out.chg ((Chg.refl w Nothing).alloc _) (fun _ _ h => h)) HM.out.1 HM.out.2).mono ?_
        rintro e w1 ⟨rfl, hc⟩
        have C1 := Lib.hid (((Chg.refl w Nothing).alloc _).trans hc (fun _ _ h => h))
        clear hc
        go_wp2_with fail
        go_ret2
        exact ⟨none, 0, [], by rw [HV.out]; rfl, by rw [HV.out]; rfl, ⟨.inl rfl, fun x hx => by simp at hx⟩, by rw [HV.out]; exact H.out.chg C1.out (fun _ _ h => h), C1.out.mono (fun _ _ h => h.elim)⟩
    case neg =>
      have g1 : decide ((64 : Int) < (ps.length : Int)) = false := decide_eq_false (by omega)
      have g2 : decide ((512 : Int) < (cs.length : Int)) = false := decide_eq_false (by omega)
      have HMN := Lib.hid hmany
      have hps : ps.length ≤ 64 := by omega
      have hcs : cs.length ≤ 512 := by omega
      clear hmany
      go_enter Tryz.func51, Tryz.ntmps51
      go_wp2_with fail
      refine (may_good c t f r p G fs _ (H.out.chg ((Chg.refl w Nothing).alloc _) (fun _ _ h => h)) HM.out.1 HM.out.2).mono ?_
      rintro e w1 ⟨rfl, hc⟩
      have B1 := Lib.hid ((hc.block w.heap.size (by simp) id).trans (heap_alloc_new w (.cells #[.int .i64 c, .int .i64 t, .int .i64 f, .int .i64 r] 23)))
      have C1 := Lib.hid (((Chg.refl w Nothing).alloc _).trans hc (fun _ _ h => h))
      clear hc
      go_wp2_with fail
      go_loopg [30] cs.length (fun k i wr => ∃ n : Nat, n + k = cs.length ∧ i = .int .i64 ((n : Nat) : Int) ∧ Chg w1 wr Nothing ∧ ∀ x ∈ cs.take n, ClOk ps x)
      case atStart => exact ⟨0, by simp, rfl, Chg.refl _ _, fun x hx => by simp at hx⟩
      case round =>
        obtain ⟨n, hn, rfl, hc, hall⟩ := hrel
        have XC := Lib.hid hc
        have AL := Lib.hid hall
        clear hc hall
        by_cases hlt : n < cs.length
        · have hd : decide (n < cs.length) = true := by simpa using hlt
          have hd2 : decide ((n : Int) < (cs.length : Int)) = true := decide_eq_true (by omega)
          have hni : (n : Int) < (cs.length : Int) := by omega
          obtain ⟨x, hx⟩ : ∃ x, cs[n]? = some x := ⟨_, List.getElem?_eq_getElem hlt⟩
          obtain ⟨q1, q2⟩ := clV_at cs n x hx
          obtain ⟨b, o, hcav, y1, y2⟩ := sees_pair (HI.out.cls.chg (W0.out.trans (C1.out.trans XC.out (fun _ _ h => h)) (fun _ _ h => h))) q1 q2
          have HX := Lib.hid hx
          have CI := Lib.hid (HI.out.cin x (List.mem_of_getElem? hx))
          clear hx q1 q2
          subst hcav
          have C2 := Lib.hid (XC.out.alloc (.cells #[.int .i64 x.prog, .slice x.av x.args.length x.cap] 140))
          by_cases hok : ClOk ps x
          · obtain ⟨k1, k2, k3⟩ := hok
            have e1 : decide (x.prog < 0) = false := decide_eq_false (by omega)
            have e2 : decide ((ps.length : Int) ≤ x.prog) = false := decide_eq_false (by omega)
            have e3 : decide ((8 : Int) < (x.args.length : Int)) = false := decide_eq_false (by omega)
            have AL2 := Lib.hid (show ∀ y ∈ cs.take (n + 1), ClOk ps y from fun y hy => by
              rw [List.take_add_one, HX.out] at hy
              rcases List.mem_append.1 hy with hy | hy
              · exact AL.out y hy
              · simp at hy; subst hy; exact ⟨k1, k2, k3⟩)
            go_wp2_with fail
            go_roundg (gk - 1)
            case measure => omega
            case rel => exact ⟨n + 1, by omega, by go_num, C2.out, AL2.out⟩
          · have HV := Lib.hid (callsV_bad (c := c) (t := t) (f := f) (r := r) (fs := fs) HM.out HMN.out (fun hh => hok (hh x (List.mem_of_getElem? HX.out))))
            have FIN := Lib.hid (C1.out.trans C2.out (fun _ _ h => h))
            have hno : x.prog < 0 ∨ (0 ≤ x.prog ∧ (ps.length : Int) ≤ x.prog) ∨ (0 ≤ x.prog ∧ x.prog < (ps.length : Int) ∧ 8 < x.args.length) := by unfold ClOk at hok; omega
            clear hok
            rcases hno with k1 | ⟨k1, k2⟩ | ⟨k1, k2, k3⟩
            · have e1 : decide (x.prog < 0) = true := decide_eq_true (by omega)
              go_wp2_with fail
              go_ret2
              exact ⟨none, 0, [], by rw [HV.out]; rfl, by rw [HV.out]; rfl, ⟨.inl rfl, fun x hx => by simp at hx⟩, by rw [HV.out]; exact H.out.chg FIN.out (fun _ _ h => h), FIN.out.mono (fun _ _ h => h.elim)⟩
            · have e1 : decide (x.prog < 0) = false := decide_eq_false (by omega)
              have e2 : decide ((ps.length : Int) ≤ x.prog) = true := decide_eq_true (by omega)
              go_wp2_with fail
              go_ret2
              exact ⟨none, 0, [], by rw [HV.out]; rfl, by rw [HV.out]; rfl, ⟨.inl rfl, fun x hx => by simp at hx⟩, by rw [HV.out]; exact H.out.chg FIN.out (fun _ _ h => h), FIN.out.mono (fun _ _ h => h.elim)⟩
            · have e1 : decide (x.prog < 0) = false := decide_eq_false (by omega)
              have e2 : decide ((ps.length : Int) ≤ x.prog) = false := decide_eq_false (by omega)
              have e3 : decide ((8 : Int) < (x.args.length : Int)) = true := decide_eq_true (by omega)
              go_wp2_with fail
              go_ret2
              exact ⟨none, 0, [], by rw [HV.out]; rfl, by rw [HV.out]; rfl, ⟨.inl rfl, fun x hx => by simp at hx⟩, by rw [HV.out]; exact H.out.chg FIN.out (fun _ _ h => h), FIN.out.mono (fun _ _ h => h.elim)⟩
        · have hd : decide (n < cs.length) = false := by simpa using hlt
          have hd2 : decide ((n : Int) < (cs.length : Int)) = false := decide_eq_false (by omega)
          obtain rfl : n = cs.length := by omega
          have OK := Lib.hid (show ∀ x ∈ cs, ClOk ps x from by have := AL.out; rwa [List.take_length] at this)
          have HV := Lib.hid (callsV_ok (c := c) (t := t) (f := f) (r := r) (fs := fs) HM.out HMN.out OK.out)
          have C2 := Lib.hid (C1.out.trans XC.out (fun _ _ h => h))
          have B2 := Lib.hid ((XC.out.block w.heap.size (blk_lt B1.out) id).trans B1.out)
          clear AL hn hlt hd hd2
          go_wp2_with fail
          go_loopg [12, 56] cs.length (fun k u i wr => ∃ (n : Nat) (vh : List (RV × H6)), n + k = cs.length ∧ i = .int .i64 ((n : Nat) : Int) ∧ CRun w wr p G c t f r ps cs fs n u vh)
          case atStart => exact ⟨0, [], by simp, rfl, World.ownsRow_nil _ _ _ _, (fun g hg => by simp [Value.ownBlock] at hg), rfl, rfl, H.out.chg C2.out (fun _ _ h => h), C2.out.mono (fun _ _ h => h.elim), (fun x hx => by simp at hx), B2.out⟩
          case round =>
            obtain ⟨n, vh, hn, rfl, hR⟩ := hrel
            have R := Lib.hid hR
            clear hR
            obtain ⟨wA, rfl⟩ : ∃ wA, wA = wr := ⟨_, rfl⟩
            by_cases hlt : n < cs.length
            · have hd : decide (n < cs.length) = true := by simpa using hlt
              have hd2 : decide ((n : Int) < (cs.length : Int)) = true := decide_eq_true (by omega)
              have hni : (n : Int) < (cs.length : Int) := by omega
              obtain ⟨x, hx⟩ : ∃ x, cs[n]? = some x := ⟨_, List.getElem?_eq_getElem hlt⟩
              obtain ⟨q1, q2⟩ := clV_at cs n x hx
              have CO := Lib.hid (W0.out.trans R.out.chg (fun k hk g => by have := HG.out k g; omega))
              obtain ⟨b, o, hcav, t1, t2⟩ := sees_pair HI.out.cls q1 q2
              obtain ⟨k1, k2, k3⟩ := OK.out x (List.mem_of_getElem? hx)
              have CI := Lib.hid (HI.out.cin x (List.mem_of_getElem? hx))
              have ST := Lib.hid (callsN_snoc (c := c) (t := t) (f := f) (r := r) (ps := ps) (fs := fs) hx)
              obtain ⟨xp, xav, xargs, xcap⟩ := x
              obtain ⟨j, hj⟩ := Int.eq_ofNat_of_zero_le k1
              dsimp only at hj k2 k3 t1 t2
              subst hj
              have hjl : j < ps.length := by omega
              obtain ⟨pg, hpg⟩ : ∃ pg, ps[j]? = some pg := ⟨_, List.getElem?_eq_getElem hjl⟩
              obtain ⟨q3, q4⟩ := pgV_at ps j pg hpg
              obtain ⟨pb, po, hpav, t3, t4⟩ := sees_pair HI.out.pgs q3 q4
              have HO1 := Lib.hid (fun (X : World) (hX : Chg w0 X Nothing) => hX.cell t1 id)
              have HO2 := Lib.hid (fun (X : World) (hX : Chg w0 X Nothing) => hX.cell t2 id)
              have HO3 := Lib.hid (fun (X : World) (hX : Chg w0 X Nothing) => hX.cell t3 id)
              have HO4 := Lib.hid (fun (X : World) (hX : Chg w0 X Nothing) => hX.cell t4 id)
              have PI := Lib.hid (HI.out.pin pg (List.mem_of_getElem? hpg))
              have FSO := Lib.hid (calls_fs (c := c) (t := t) (f := f) (r := r) HI.out.pin (cs.take n) ([], fs) (fun y hy => HI.out.cin y (List.mem_of_mem_take hy)) HFX.out (fun v hv => by simp at hv))
              obtain ⟨fs', hfs⟩ : ∃ fs', fs' = (callsN c t f r ps (cs.take n) fs).2 := ⟨_, rfl⟩
              have FL := Lib.hid (show fs'.length = fs.length from by rw [hfs]; exact FSO.out.1)
              have FX := Lib.hid (show ∀ y ∈ fs', y < 18446744073709551616 from by rw [hfs]; exact FSO.out.2.1)
              have STA := Lib.hid (show Sta wA p G (fs'.map fl) from by rw [hfs]; exact R.out.st)
              obtain ⟨v, hv⟩ : ∃ v, v = runV c t f r pg.tag pg.code xargs fs' := ⟨_, rfl⟩
              have VE : v.err = 0 := by
                rw [hv]; unfold runV
                rw [if_pos ⟨HM.out.1, by rw [FL.out]; exact HM.out.2, k3⟩]
              have VO := Lib.hid (show v.Ok fs'.length from by rw [hv]; exact runV_ok PI.out.lt CI.out.lt FX.out)
              have ST2 := Lib.hid (show callsN c t f r ps (cs.take (n + 1)) fs = ((callsN c t f r ps (cs.take n) fs).1 ++ [v], v.fs) from by
                rw [ST.out]; unfold cstep callV
                rw [show ((⟨(j : Int), xav, xargs, xcap⟩ : Cl).prog).toNat = j from Int.toNat_natCast j, hpg, ← hfs]
                dsimp only
                rw [← hv])
              have HV2 := Lib.hid hv
              have GL := Lib.hid (fun k hk => STA.out.lt k hk)
              have hwg : ¬ G w.heap.size := fun g => by have := H.out.lt _ g; omega
              have BA := Lib.hid R.out.cfg
              have SK := Lib.hid (show ∀ X, Chg wA X G → (X.cell? ⟨w.heap.size, 0, none⟩ = some (.int .i64 c) ∧ X.cell? ⟨w.heap.size, 1, none⟩ = some (.int .i64 t) ∧ X.cell? ⟨w.heap.size, 2, none⟩ = some (.int .i64 f) ∧ X.cell? ⟨w.heap.size, 3, none⟩ = some (.int .i64 r) ∧ X.cell? ⟨b, o + n * 2, none⟩ = some (.int .i64 (j : Int)) ∧ X.cell? ⟨b, o + n * 2 + 1, none⟩ = some (.slice xav xargs.length xcap) ∧ X.cell? ⟨pb, po + j * 2, none⟩ = some (.int .i64 pg.tag) ∧ X.cell? ⟨pb, po + j * 2 + 1, none⟩ = some (.slice pg.av pg.code.length pg.cap)) from fun X hX => by
                have B3 := (hX.block w.heap.size (blk_lt BA.out) hwg).trans BA.out
                have HO0 := CO.out.trans hX (fun k hk g => by have := HG.out k g; omega)
                exact ⟨blk_cell B3 0, blk_cell B3 1, blk_cell B3 2, blk_cell B3 3, HO1.out X HO0, HO2.out X HO0, HO3.out X HO0, HO4.out X HO0⟩)
              obtain ⟨⟨a9, c9, rfl⟩, -⟩ := ownsRow_shape R.out.row
              clear hfs hv ST FSO q1 q2 q3 q4 hx hpg t1 t2 t3 t4
              subst hcav hpav
              go_wp2_with fail
              refine beginL (fun w' => w'.cell? ⟨w.heap.size, 0, none⟩ = some (.int .i64 c) ∧ w'.cell? ⟨w.heap.size, 1, none⟩ = some (.int .i64 t) ∧ w'.cell? ⟨w.heap.size, 2, none⟩ = some (.int .i64 f) ∧ w'.cell? ⟨w.heap.size, 3, none⟩ = some (.int .i64 r) ∧ w'.cell? ⟨b, o + n * 2, none⟩ = some (.int .i64 (j : Int)) ∧ w'.cell? ⟨b, o + n * 2 + 1, none⟩ = some (.slice xav xargs.length xcap) ∧ w'.cell? ⟨pb, po + j * 2, none⟩ = some (.int .i64 pg.tag) ∧ w'.cell? ⟨pb, po + j * 2 + 1, none⟩ = some (.slice pg.av pg.code.length pg.cap)) 22 (by kernel_rfl) (SK.out _ ((Chg.refl wA G).drew)) (fun hHeld => ?_)
              refine takeL 0 2 (v := ?_) rfl (by kernel_rfl) (fun _ _ _ h => h) (by rfl) (by assumption) ?_ ?_
              rotate_left
              · (intro w hSw; (try dsimp only at hSw); go_simp; try with_reducible rfl)
              try simp only [Act.put, List.setIfInBounds_toArray, List.set_cons_zero, List.set_cons_succ]
              refine takeL 1 2 (v := ?_) rfl (by kernel_rfl) (fun _ _ _ h => h) (by rfl) (by assumption) ?_ ?_
              rotate_left
              · (intro w hSw; (try dsimp only at hSw); go_simp; try with_reducible rfl)
              try simp only [Act.put, List.setIfInBounds_toArray, List.set_cons_zero, List.set_cons_succ]
              refine takeL 2 2 (v := ?_) rfl (by kernel_rfl) (fun _ _ _ h => h) (by rfl) (by assumption) ?_ ?_
              rotate_left
              · (intro w hSw; (try dsimp only at hSw); go_simp; try with_reducible rfl)
              try simp only [Act.put, List.setIfInBounds_toArray, List.set_cons_zero, List.set_cons_succ]
              refine takeL 3 2 (v := ?_) rfl (by kernel_rfl) (fun _ _ _ h => h) (by rfl) (by assumption) ?_ ?_
              rotate_left
              · (intro w hSw; (try dsimp only at hSw); go_simp; try with_reducible rfl)
              try simp only [Act.put, List.setIfInBounds_toArray, List.set_cons_zero, List.set_cons_succ]
              refine takeL 4 2 (v := ?_) rfl (by kernel_rfl) (fun _ _ _ h => h) (by rfl) (by assumption) ?_ ?_
              rotate_left
              · (intro w hSw; (try dsimp only at hSw); go_simp; try with_reducible rfl)
              try simp only [Act.put, List.setIfInBounds_toArray, List.set_cons_zero, List.set_cons_succ]
              refine takeL 5 2 (v := ?_) rfl (by kernel_rfl) (fun _ _ _ h => h) (by rfl) (by assumption) ?_ ?_
              rotate_left
              · (intro w hSw; (try dsimp only at hSw); go_simp; try with_reducible rfl)
              try simp only [Act.put, List.setIfInBounds_toArray, List.set_cons_zero, List.set_cons_succ]
              refine takeL 6 2 (v := ?_) rfl (by kernel_rfl) (fun _ _ _ h => h) (by rfl) (by assumption) ?_ ?_
              rotate_left
              · (intro w hSw; (try dsimp only at hSw); go_simp; try with_reducible rfl)
              try simp only [Act.put, List.setIfInBounds_toArray, List.set_cons_zero, List.set_cons_succ]
              refine takeL 7 2 (v := ?_) rfl (by kernel_rfl) (fun _ _ _ h => h) (by rfl) (by assumption) ?_ ?_
              rotate_left
              · (intro w hSw; (try dsimp only at hSw); go_simp; try with_reducible rfl)
              try simp only [Act.put, List.setIfInBounds_toArray, List.set_cons_zero, List.set_cons_succ]
              refine takeL 8 2 (v := ?_) rfl (by kernel_rfl) (fun _ _ _ h => h) (by rfl) (by assumption) ?_ ?_
              rotate_left
              · (intro w hSw; (try dsimp only at hSw); go_simp; try with_reducible rfl)
              try simp only [Act.put, List.setIfInBounds_toArray, List.set_cons_zero, List.set_cons_succ]
              refine takeL 9 2 (v := ?_) rfl (by kernel_rfl) (fun _ _ _ h => h) (by rfl) (by assumption) ?_ ?_
              rotate_left
              · (intro w hSw; (try dsimp only at hSw); go_simp; try with_reducible rfl)
              try simp only [Act.put, List.setIfInBounds_toArray, List.set_cons_zero, List.set_cons_succ]
              refine takeL 10 2 (v := ?_) rfl (by kernel_rfl) (fun _ _ _ h => h) (by rfl) (by assumption) ?_ ?_
              rotate_left
              · (intro w hSw; (try dsimp only at hSw); go_simp; try with_reducible rfl)
              try simp only [Act.put, List.setIfInBounds_toArray, List.set_cons_zero, List.set_cons_succ]
              refine takeL 11 2 (v := ?_) rfl (by kernel_rfl) (fun _ _ _ h => h) (by rfl) (by assumption) ?_ ?_
              rotate_left
              · (intro w hSw; (try dsimp only at hSw); go_simp; try with_reducible rfl)
              try simp only [Act.put, List.setIfInBounds_toArray, List.set_cons_zero, List.set_cons_succ]
              refine takeL 12 2 (v := ?_) rfl (by kernel_rfl) (fun _ _ _ h => h) (by rfl) (by assumption) ?_ ?_
              rotate_left
              · (intro w hSw; (try dsimp only at hSw); go_simp; try with_reducible rfl)
              try simp only [Act.put, List.setIfInBounds_toArray, List.set_cons_zero, List.set_cons_succ]
              refine takeL 13 2 (v := ?_) rfl (by kernel_rfl) (fun _ _ _ h => h) (by rfl) (by assumption) ?_ ?_
              rotate_left
              · (intro w hSw; (try dsimp only at hSw); go_simp; try with_reducible rfl)
              try simp only [Act.put, List.setIfInBounds_toArray, List.set_cons_zero, List.set_cons_succ]
              refine takeL 14 2 (v := ?_) rfl (by kernel_rfl) (fun _ _ _ h => h) (by rfl) (by assumption) ?_ ?_
              rotate_left
              · (intro w hSw; (try dsimp only at hSw); go_simp; try with_reducible rfl)
              try simp only [Act.put, List.setIfInBounds_toArray, List.set_cons_zero, List.set_cons_succ]
              refine twoL 15 19 rfl rfl (by kernel_rfl) (by rfl) (by rfl) (fun K hK => ?_) (fun K hK => ?_)
              · go_simp
                go_at_call 40
                refine (arun_any c t f r pg.tag pg.av pg.cap pg.code xav xcap xargs p G fs' _ (STA.out.chg ((Chg.refl wA Nothing).drew) (fun _ _ h => h)) (by have := PI.out.bd; omega) ((PI.out.sees.chg CO.out).chg ((Chg.refl wA Nothing).drew)) ((CI.out.sees.chg CO.out).chg ((Chg.refl wA Nothing).drew)) PI.out.lt CI.out.lt FX.out v HV2.out).mono ?_
                rintro e w5 ⟨ao, co, ar, cr, aw, cw, rfl, ho, hr, hw, hst, hc⟩
                rw [resA_w]
                have D5 := Lib.hid (show Chg wA w5 G from ((Chg.refl wA G).drew).trans hc (fun k _ h => h))
                have ROW := Lib.hid (show ResO (wA.heap.size) w5 (v, ⟨ao, co, ar, cr, aw, cw⟩) from ⟨ownsRow_base ho (by simp), ownsRow_base hr (by simp), ownsRow_base hw (by simp)⟩)
                have ST5 := Lib.hid hst
                clear ho hr hw hst hc
                go_wp2_with fail
                refine hK.out _ _ (SK.out _ D5.out) (fun hHeld => ?_)
                clear hK K
                try simp only [Act.put, List.setIfInBounds_toArray, List.set_cons_zero, List.set_cons_succ]
                refine takeL 16 2 (v := ?_) rfl (by kernel_rfl) (fun _ _ _ h => h) (by rfl) (by assumption) ?_ ?_
                rotate_left
                · (intro w hSw; (try dsimp only at hSw); go_simp; try with_reducible rfl)
                try simp only [Act.put, List.setIfInBounds_toArray, List.set_cons_zero, List.set_cons_succ]
                refine takeL 17 2 (v := ?_) rfl (by kernel_rfl) (fun _ _ _ h => h) (by rfl) (by assumption) ?_ ?_
                rotate_left
                · (intro w hSw; (try dsimp only at hSw); go_simp; try with_reducible rfl)
                try simp only [Act.put, List.setIfInBounds_toArray, List.set_cons_zero, List.set_cons_succ]
                refine takeL 18 2 (v := ?_) rfl (by kernel_rfl) (fun _ _ _ h => h) (by rfl) (by assumption) ?_ ?_
                rotate_left
                · (intro w hSw; (try dsimp only at hSw); go_simp; try with_reducible rfl)
                try simp only [Act.put, List.setIfInBounds_toArray, List.set_cons_zero, List.set_cons_succ]
                refine oneL 19 rfl (by kernel_rfl) (by rfl) (fun K hK => ?_)
                go_simp
                refine hK.out _ _ (SK.out _ (D5.out.alloc _)) (fun hHeld => ?_)
                clear hK K
                try simp only [Act.put, List.setIfInBounds_toArray, List.set_cons_zero, List.set_cons_succ]
                refine oneL 20 rfl (by kernel_rfl) (by rfl) (fun K hK => ?_)
                go_simp
                refine hK.out _ _ (SK.out _ (D5.out.alloc _)) (fun hHeld => ?_)
                clear hK K
                try simp only [Act.put, List.setIfInBounds_toArray, List.set_cons_zero, List.set_cons_succ]
                refine takeL 21 2 (v := ?_) rfl (by kernel_rfl) (fun _ _ _ h => h) (by rfl) (by assumption) ?_ ?_
                rotate_left
                · (intro w hSw; (try dsimp only at hSw); go_simp; try with_reducible rfl)
                try simp only [Act.put, List.setIfInBounds_toArray, List.set_cons_zero, List.set_cons_succ]
                refine doneL (by kernel_rfl) ?_ _
                go_wp2_with (at_builtin; refine append_one rfl _ _ 86 69 rfl (.agg #[.int .i64 0, .int .i64 0, .int .i64 0, .slice none 0 0, .slice none 0 0, .slice none 0 0, .int .i64 0]) 7 104 Tryz.underlying86 (by kernel_rfl) rfl (by decide) _ n (resC vh) rfl ?d1a (w5.heap.size + 1) 1 rfl (res7 v ⟨ao, co, ar, cr, aw, cw⟩) rfl ?d1b (by intro u hu; simp [res7] at hu; rcases hu with rfl | rfl | rfl | rfl | rfl | rfl | rfl <;> rfl) (by unfold maxLen; omega) (by omega) ?d1c)
                case d1a => exact ownsRow_heap R.out.row (fun k hk => ((D5.out.mono (fun k _ g => Or.inl g)).trans (((Chg.refl w5 (fun k => k = w5.heap.size)).alloc _).alloc _) (fun k _ e => Or.inr e)).block (S := fun k => G k ∨ k = w5.heap.size) k (R.out.row.lt k hk).2 (fun e => by have h1 := (R.out.apart k hk).1; have h2 := (R.out.row.lt k hk).2; rcases e with g | e; (have := H.out.lt _ g; omega); (have := D5.out.size; omega)))
                case d1b => exact new7 _ _ (by simp)
                case d1c =>
                  intro g7 c7 w7 o7 gr7 hg7
                  have N1 := Lib.hid (R.out.next (fun k g => H.out.lt _ g) D5.out w5.heap.size (((Chg.refl w5 (fun k => k = w5.heap.size)).alloc _).alloc _) (v, ⟨ao, co, ar, cr, aw, cw⟩) ⟨by have := D5.out.size; omega, fun hb => by have := (ROW.out.blk hb).2; omega⟩ ROW.out ST5.out ST2.out g7 c7 o7 gr7 (hg7.imp id (fun h => by simpa using h)))
                  clear o7 gr7 hg7
                  go_wp2_with fail
                  go_roundg (gk - 1)
                  case measure => omega
                  case rel => exact ⟨n + 1, _, by omega, by go_num, N1.out⟩
              · go_simp
                refine hK.out _ _ (SK.out _ (((Chg.refl wA G).alloc _).drew)) (fun hHeld => ?_)
                clear hK K
                try simp only [Act.put, List.setIfInBounds_toArray, List.set_cons_zero, List.set_cons_succ]
                refine oneL 15 rfl (by kernel_rfl) (by rfl) (fun K hK => ?_)
                go_simp
                go_at_call 40
                refine (arun_any c t f r pg.tag pg.av pg.cap pg.code xav xcap xargs p G fs' _ (STA.out.chg (((Chg.refl wA Nothing).alloc _).drew) (fun _ _ h => h)) (by have := PI.out.bd; omega) ((PI.out.sees.chg CO.out).chg (((Chg.refl wA Nothing).alloc _).drew)) ((CI.out.sees.chg CO.out).chg (((Chg.refl wA Nothing).alloc _).drew)) PI.out.lt CI.out.lt FX.out v HV2.out).mono ?_
                rintro e w5 ⟨ao, co, ar, cr, aw, cw, rfl, ho, hr, hw, hst, hc⟩
                rw [resA_w]
                have D5 := Lib.hid (show Chg wA w5 G from (((Chg.refl wA G).alloc _).drew).trans hc (fun k _ h => h))
                have ROW := Lib.hid (show ResO (wA.heap.size + 1) w5 (v, ⟨ao, co, ar, cr, aw, cw⟩) from ⟨ownsRow_base ho (by simp), ownsRow_base hr (by simp), ownsRow_base hw (by simp)⟩)
                have ST5 := Lib.hid hst
                have E9 := Lib.hid ((hc.block wA.heap.size (by simp) (fun g => by have := GL.out _ g; omega)).trans (drew_blk (heap_alloc_new wA (.cells #[.int .i64 0, .int .i64 0, .int .i64 0, .slice none 0 0, .slice none 0 0, .slice none 0 0, .int .i64 0] 69 (0, 0)))))
                clear ho hr hw hst hc
                go_wp2_with fail
                refine hK.out _ _ (SK.out _ D5.out) (fun hHeld => ?_)
                clear hK K
                try simp only [Act.put, List.setIfInBounds_toArray, List.set_cons_zero, List.set_cons_succ]
                refine takeL 16 2 (v := ?_) rfl (by kernel_rfl) (fun _ _ _ h => h) (by rfl) (by assumption) ?_ ?_
                rotate_left
                · (intro w hSw; (try dsimp only at hSw); go_simp; try with_reducible rfl)
                try simp only [Act.put, List.setIfInBounds_toArray, List.set_cons_zero, List.set_cons_succ]
                refine takeL 17 2 (v := ?_) rfl (by kernel_rfl) (fun _ _ _ h => h) (by rfl) (by assumption) ?_ ?_
                rotate_left
                · (intro w hSw; (try dsimp only at hSw); go_simp; try with_reducible rfl)
                try simp only [Act.put, List.setIfInBounds_toArray, List.set_cons_zero, List.set_cons_succ]
                refine takeL 18 2 (v := ?_) rfl (by kernel_rfl) (fun _ _ _ h => h) (by rfl) (by assumption) ?_ ?_
                rotate_left
                · (intro w hSw; (try dsimp only at hSw); go_simp; try with_reducible rfl)
                try simp only [Act.put, List.setIfInBounds_toArray, List.set_cons_zero, List.set_cons_succ]
                refine oneL 20 rfl (by kernel_rfl) (by rfl) (fun K hK => ?_)
                have e9 := E9.out
                have x0 := blk_cell e9 0
                have x1 := blk_cell e9 1
                have x2 := blk_cell e9 2
                have x3 := blk_cell e9 3
                have x4 := blk_cell e9 4
                have x5 := blk_cell e9 5
                have x6 := blk_cell e9 6
                have f0 := blk_free e9 0
                have f1 := blk_free e9 1
                have f2 := blk_free e9 2
                have f3 := blk_free e9 3
                have f4 := blk_free e9 4
                have f5 := blk_free e9 5
                have f6 := blk_free e9 6
                clear e9
                have CE := Lib.hid (seven_chg (v0 := .int .i64 v.how.1) (v1 := .int .i64 v.how.2.1) (v2 := .int .i64 v.how.2.2) (v3 := .slice ao v.out.length co) (v4 := .slice ar v.reads.length cr) (v5 := .slice aw v.buf.length cw) (v6 := .int .i64 (v.used : Int)) (Chg.refl w5 (fun k => k = wA.heap.size)) (.inr rfl))
                go_simp
                refine hK.out _ _ (SK.out _ (D5.out.trans CE.out (fun k hk e => by omega))) (fun hHeld => ?_)
                clear hK K
                try simp only [Act.put, List.setIfInBounds_toArray, List.set_cons_zero, List.set_cons_succ]
                refine takeL 21 2 (v := ?_) rfl (by kernel_rfl) (fun _ _ _ h => h) (by rfl) (by assumption) ?_ ?_
                rotate_left
                · (intro w hSw; (try dsimp only at hSw); go_simp; try with_reducible rfl)
                try simp only [Act.put, List.setIfInBounds_toArray, List.set_cons_zero, List.set_cons_succ]
                refine doneL (by kernel_rfl) ?_ _
                go_wp2_with (at_builtin; refine append_one rfl _ _ 86 69 rfl (.agg #[.int .i64 0, .int .i64 0, .int .i64 0, .slice none 0 0, .slice none 0 0, .slice none 0 0, .int .i64 0]) 7 104 Tryz.underlying86 (by kernel_rfl) rfl (by decide) _ n (resC vh) rfl ?d2a w5.heap.size 1 rfl (res7 v ⟨ao, co, ar, cr, aw, cw⟩) rfl ?d2b (by intro u hu; simp [res7] at hu; rcases hu with rfl | rfl | rfl | rfl | rfl | rfl | rfl <;> rfl) (by unfold maxLen; omega) (by omega) ?d2c)
                case d2a => exact ownsRow_heap R.out.row (fun k hk => ((D5.out.mono (fun k _ g => Or.inl g)).trans (CE.out.alloc _) (fun k _ e => Or.inr e)).block (S := fun k => G k ∨ k = wA.heap.size) k (R.out.row.lt k hk).2 (fun e => by have h1 := (R.out.apart k hk).1; have h2 := (R.out.row.lt k hk).2; rcases e with g | e; (have := H.out.lt _ g; omega); (have := D5.out.size; omega)))
                case d2b => exact new7 _ _ (by simp)
                case d2c =>
                  intro g7 c7 w7 o7 gr7 hg7
                  have N1 := Lib.hid (R.out.next (fun k g => H.out.lt _ g) D5.out wA.heap.size (CE.out.alloc _) (v, ⟨ao, co, ar, cr, aw, cw⟩) ⟨Nat.le_refl _, fun hb => by have := (ROW.out.blk hb).1; omega⟩ (ROW.out.base (by omega)) ST5.out ST2.out g7 c7 o7 gr7 (hg7.imp id (fun h => by simpa using h)))
                  clear o7 gr7 hg7
                  go_wp2_with fail
                  go_roundg (gk - 1)
                  case measure => omega
                  case rel => exact ⟨n + 1, _, by omega, by go_num, N1.out⟩
            · have hd : decide (n < cs.length) = false := by simpa using hlt
              have hd2 : decide ((n : Int) < (cs.length : Int)) = false := decide_eq_false (by omega)
              obtain rfl : n = cs.length := by omega
              obtain ⟨⟨a9, c9, rfl⟩, -⟩ := ownsRow_shape R.out.row
              go_wp2_with fail
              go_ret2
              exact ⟨a9, c9, vh, by rw [HV.out, R.out.len]; rfl, by rw [HV.out]; have := R.out.vs; rwa [List.take_length] at this, ⟨SeesB.of_owns R.out.row (fun g hg => Nat.le_of_lt (R.out.apart g hg).1), fun x hx => (R.out.rows x hx).res⟩, by rw [HV.out]; have := R.out.st; rwa [List.take_length] at this, R.out.chg⟩
end Go.Proofs.YthgllaomafhdkaaGreat
