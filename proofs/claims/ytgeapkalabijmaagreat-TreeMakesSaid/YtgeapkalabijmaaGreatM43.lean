/- alone.Run: the run itself. -/
import Derived.Test.YtgeapkalabijmaaGreatM42
namespace Go.Proofs.YtgeapkalabijmaaGreat
open Go Go.RowKit
set_option maxRecDepth 100000
set_option maxHeartbeats 1000000
set_option linter.unusedVariables false
set_option linter.unusedSimpArgs false

/-- Three boxes: the config, the program, the result. -/
def resBx : Obj := .cells zeroR 58 (0, 0)
theorem run_boxes {w w' : World} {a b : Obj} (h : Chg (((w.alloc a).alloc b).alloc resBx) w' Nothing) : Chg ((w.alloc a).alloc b) w' Nothing ∧ w'.heap[w.heap.size + 1 + 1]? = some resBx ∧ w.heap.size + 1 + 1 < w'.heap.size := by
  have e : w'.heap[w.heap.size + 1 + 1]? = some resBx := (h.block _ (by simp) id).trans three_blk
  exact ⟨((Chg.refl _ Nothing).alloc _).trans h (fun _ _ h => h), e, blk_lt e⟩
/-- The run at a head of its loop. -/
structure Runs (w0 w wr : World) (m : Nat) (p : Nat) (G : Nat → Prop) (s0 : Mc) (fs : List Nat) (k : Nat) (s : Mc) (F : Nat → Prop) : Prop where
  run : Run0 w0 wr m F s
  inr : InR s
  eq : runN k s fs = runP s0 fs
  st : (∃ n, Goes s s0 n ∧ n + k = s0.fuel.toNat + 1) ∨ Over s s0
theorem Runs.next {w0 w wr w' : World} {m p : Nat} {G F F' : Nat → Prop} {s0 s s' : Mc} {fs : List Nat} {k n : Nat} (h : Runs w0 w wr m p G s0 fs k s F) (hg : Goes s s0 n) (hn : n + k = s0.fuel.toNat + 1) (hk : ∃ k', k = k' + 1) (e : oneP s fs = s') (h' : Run0 w0 w' m F' s') : Runs w0 w w' m p G s0 fs (k - 1) s' F' := by
  subst e
  obtain ⟨k', rfl⟩ := hk
  have he : runN (k' + 1 - 1) (oneP s fs) fs = runP s0 fs := by
    rw [Nat.add_sub_cancel, ← h.eq, runN_go (hows hg)]
  rcases one_goes fs hg h.run.fine h.inr with ⟨_, ho⟩ | ⟨hu, hg2, hr2, _⟩
  · exact ⟨h', ho.inr, he, .inr ho⟩
  · exact ⟨h', hr2, he, .inl ⟨n + 1, hg2, by omega⟩⟩
theorem fs_bd {c t f r : Int} {n : Nat} (h : CfgOk c t f r) (e : (n : Int) = c) : n ≤ 256 ∧ 1 ≤ n := by
  obtain ⟨⟨h1, h2⟩, _⟩ := h
  omega
theorem getV_lt {fs : List Nat} (h : ∀ y ∈ fs, y < 18446744073709551616) (c : Int) : getV fs c < 18446744073709551616 := by
  unfold getV
  split
  · rw [List.getD_eq_getElem?_getD]
    cases e : fs[c.toNat]? with
    | none => decide
    | some y => exact h y (List.mem_of_getElem? e)
  · decide
theorem row_chg {W W' : World} {base : Nat} {e : TypeId} {size : Nat} {v : Value} {n : Nat} {xs : List Value} {S : Nat → Prop} (h : W.ownsRow base e size v n xs) (hc : Chg W W' S) (hS : ∀ k, base ≤ k → ¬ S k) : W'.ownsRow base e size v n xs :=
  ownsRow_heap h (fun k hk => hc.block k (h.lt k hk).2 (hS k (h.lt k hk).1))
theorem row_tch {W : World} {base : Nat} {e : TypeId} {a : Option Addr} {n c : Nat} {ts : List (Int × Nat)} (h0 : W.ownsRow base e 2 (.slice a n c) n (tchV ts)) : Tch W a ts := by
  intro i x hx
  obtain ⟨h1, h2⟩ := tchV_at ts i x hx
  rcases Sees.of_owns h0 with h | ⟨b, o, rfl, h⟩
  · rw [h] at h1; simp at h1
  · exact ⟨b, o, rfl, h _ _ h1, by rw [Nat.add_assoc]; exact h _ _ h2⟩
theorem row_low {W : World} {base : Nat} {e : TypeId} {size : Nat} {a : Option Addr} {n c : Nat} {xs : List Value} (h0 : W.ownsRow base e size (.slice a n c) n xs) {b o : Nat} (ha : a = some ⟨b, o, none⟩) : base ≤ b := by
  rcases h0.2 with ⟨hv, _⟩ | ⟨g, cap, cur, hv, hg, _⟩
  · injection hv with h1; rw [ha] at h1; cases h1
  · injection hv with h1
    rw [ha] at h1
    injection h1 with h1
    injection h1 with h1
    omega
theorem apply_in {s s0 : Mc} {fs : List Nat} (h : InR s) (hc : s.cells = (fs.length : Int)) (h1 : s.how.1 = 1) : afterL s fs = applyL fs s.buf := if_pos h1
theorem field_end (a b c : Int) (w : World) : (Instr.field 54 (.agg #[.int .i64 a, .int .i64 b, .int .i64 c]) 0).run Tryz.prog w = .ok (.int .i64 a) w := by kernel_rfl
set_option maxHeartbeats 4000000 in
theorem run_good (c t f r tag : Int) (ac : Option Addr) (cc : Nat) (code : List Ins) (aa : Option Addr) (na : Nat) (args : List Nat) (p : Nat) (G : Nat → Prop) (fs : List Nat) (w : World) (h : Sta w p G (fs.map fl)) (hok : RunOk c t f r args.length fs.length)
    (hb : code.length * 24 ≤ 140737488355328) (hs : Sees w ac (insV code)) (ha : Sees w aa (args.map fl)) (hx : ∀ i ∈ code, i.2.2 < 18446744073709551616) (hax : ∀ y ∈ args, y < 18446744073709551616) (hfx : ∀ y ∈ fs, y < 18446744073709551616) :
    Calls Tryz.prog 28 #[.agg #[.int .i64 c, .int .i64 t, .int .i64 f, .int .i64 r], .agg #[.int .i64 tag, .slice ac code.length cc], .slice aa args.length na, .pointer (some ⟨p, 0, none⟩)] w fun e w' => ∃ s ao co ar cr aw cw, s = runP (mc0 c t f r tag code args) fs ∧ Over s (mc0 c t f r tag code args) ∧ s.Fine ∧ s.buf.length ≤ 32 ∧
      e = .returned (.tuple #[.agg (resA s.how (ao, s.out.length, co) (ar, s.reads.length, cr) (aw, s.buf.length, cw) (s.used : Int)), .int .i64 0]) ∧
      w'.ownsRow w.heap.size 61 1 (.slice ao s.out.length co) s.out.length (s.out.map fl) ∧ w'.ownsRow w.heap.size 152 2 (.slice ar s.reads.length cr) s.reads.length (tchV s.reads) ∧ w'.ownsRow w.heap.size 152 2 (.slice aw s.buf.length cw) s.buf.length (tchV s.buf) ∧
      Sta w' p G ((afterL s fs).map fl) ∧ Chg w w' G := by
  obtain ⟨hcfg, hcl, hal⟩ := hok
  have b1 : decide ((8 : Int) < (args.length : Int)) = false := decide_eq_false (by omega)
  have HCF := Lib.hid hcfg
  have HCL := Lib.hid hcl
  have HAL := Lib.hid hal
  have H := Lib.hid h
  have HB := Lib.hid hb
  have HS := Lib.hid hs
  have HA := Lib.hid ha
  have HX := Lib.hid hx
  have HAX := Lib.hid hax
  have HFX := Lib.hid hfx
  clear h hb hs ha hx hax hfx hcfg hcl hal
  go_enter Tryz.func28, Tryz.ntmps28
  go_wp2_with fail
  with_reducible refine (may_good c t f r p G fs _ (H.out.chg ((((Chg.refl w Nothing).alloc _).alloc _).alloc _) (fun _ _ h => h)) HCF.out HCL.out).mono ?_
  rintro e w1 ⟨rfl, hc1⟩
  have C1 := Lib.hid hc1
  obtain ⟨i0, i1, i2, i3, j0, j1, z0, z1⟩ := law_cells (run_boxes hc1).1
  have z2 := (run_boxes hc1).2.2
  clear hc1
  go_wp2_with fail
  refine (mnew_good c t f r tag ac cc code aa na args _ HCF.out HAL.out HB.out (HS.out.chg (law_old (run_boxes C1.out).1)) (HA.out.chg (law_old (run_boxes C1.out).1))).mono ?_
  rintro e w2 ⟨m, rfl, hm, hc2⟩
  have R2 := Lib.hid (show Run0 (((w.alloc (cfgBx c t f r)).alloc (prgBx tag ac code.length cc)).alloc resBx) w2 m _ (mc0 c t f r tag code args) from ⟨hm, mc0_fine HCF.out HX.out HAX.out, C1.out.trans hc2 (fun _ _ h => h), fun k hk => Nat.le_trans C1.out.size hk.1⟩)
  clear i0 i1 i2 i3 j0 j1 z0 z1 z2 hm hc2 C1
  go_wp2_with fail
  go_loopg [] (f.toNat + 1) (fun k wr => ∃ s F, Runs (((w.alloc (cfgBx c t f r)).alloc (prgBx tag ac code.length cc)).alloc resBx) w wr m p G (mc0 c t f r tag code args) fs k s F)
  case atStart => exact ⟨_, _, R2.out, by intro p hp; exact absurd hp (by show ¬ p ∈ []; simp), rfl, .inl ⟨0, Goes.begin .., by show 0 + (f.toNat + 1) = f.toNat + 1; omega⟩⟩
  case round =>
    obtain ⟨s, F, hR⟩ := hrel
    have R := Lib.hid hR
    clear hR R2
    go_wp2_with fail
    with_reducible refine (mend_any m F s _ R.out.run.ma).mono ?_
    rintro e w3 ⟨rfl, hc3⟩
    have R3 := Lib.hid (R.out.run.quiet hc3)
    clear hc3
    have hfe := field_end s.how.1 s.how.2.1 s.how.2.2
    rcases R.out.st with ⟨n, hg, hn⟩ | hov
    · have h0 := hows hg
      have q0 : (s.how.1 == 0) = true := by rw [h0]; rfl
      have hk : ∃ k', gk = k' + 1 := ⟨f.toNat - n, by have := R.out.run.fine.ok.used; rw [hg.used, hg.facts.2.2.1] at this; have h1 : (n : Int) ≤ f := this; have h2 : n + gk = f.toNat + 1 := hn; omega⟩
      have HG := Lib.hid hg
      have HN := Lib.hid (show n + gk = f.toNat + 1 from hn)
      have HK := Lib.hid hk
      have H0 := Lib.hid h0
      clear h0 hk hg hn
      go_wp2_with fail
      with_reducible refine (mstep_any m F s _ R3.out.ma R3.out.fine).mono ?_
      rintro e w4 ⟨rfl, hS, hf⟩
      have R4 := Lib.hid (R3.out.next hS hf)
      clear hS hf R3
      obtain ⟨ak, acl, ax, afi, hsa⟩ : ∃ ak acl ax afi, (stepP s).2 = ⟨ak, acl, ax, afi⟩ := ⟨_, _, _, _, rfl⟩
      have ea : askV (stepP s).2 = .agg #[.int .i64 ak, .int .i64 acl, fl ax, .bool afi] := by rw [hsa]; rfl
      rw [ea]
      have HSA := Lib.hid hsa
      clear hsa ea
      have R5 := Lib.hid (R4.out.box (.cells #[.int .i64 ak, .int .i64 acl, fl ax, .bool afi] 99))
      clear R4
      by_cases h1 : ak = 1
      · subst h1
        go_wp2_with fail
        with_reducible refine (T6.get_any p G fs acl _ (H.out.chg (law_old (run_boxes R5.out.chg).1) (fun _ _ h => h)) (fs_bd HCF.out HCL.out).1).mono ?_
        rintro e w5 ⟨rfl, rfl⟩
        go_wp2_with fail
        with_reducible refine (mgive_any m _ _ (getV fs acl) _ R5.out.ma R5.out.fine (getV_lt HFX.out acl)).mono ?_
        rintro e w6 ⟨rfl, hS, hf⟩
        have R6 := Lib.hid (R5.out.next hS hf)
        clear hS hf
        go_wp2_with fail
        go_roundg (gk - 1)
        case measure => obtain ⟨k', e⟩ := HK.out; omega
        case rel => exact ⟨_, _, R.out.next HG.out HN.out HK.out (by unfold oneP; rw [HSA.out]; exact if_pos rfl) R6.out⟩
      · have d1 : (ak == 1) = false := beq_eq_false_iff_ne.2 h1
        go_wp2_with fail
        go_roundg (gk - 1)
        case measure => obtain ⟨k', e⟩ := HK.out; omega
        case rel => exact ⟨_, _, R.out.next HG.out HN.out HK.out (by unfold oneP; rw [HSA.out]; exact if_neg (by simpa using d1)) R5.out⟩
    · have hne := overs hov
      have q0 : (s.how.1 == 0) = false := beq_eq_false_iff_ne.2 hne
      have HS' := Lib.hid (show s = runP (mc0 c t f r tag code args) fs by rw [← R.out.eq, runN_over hne])
      have HO := Lib.hid hov
      have hho := hov.how
      have hfin := R.out.run.fine
      have LO := Lib.hid (show s.out.length ≤ 4096 by have := hfin.ok.outs; have := hfin.ok.used; have := hfin.ok.fuel; omega)
      have LR := Lib.hid (show s.reads.length ≤ 4096 by have := hfin.ok.rds; have := hfin.ok.used; have := hfin.ok.fuel; omega)
      have LB := Lib.hid (show s.buf.length ≤ 32 by have := R.out.run.ma.fits; omega)
      have FI := Lib.hid hfin
      have IR := Lib.hid R.out.inr
      clear hov hne hfin R
      obtain ⟨h1, h2, h3, hh⟩ : ∃ h1 h2 h3, s.how = (h1, h2, h3) := ⟨s.how.1, s.how.2.1, s.how.2.2, rfl⟩
      rw [hh] at q0 hho hfe
      have HH := Lib.hid hh
      rw [hh]
      clear hh
      go_wp2_with fail
      with_reducible refine (mend_any m F s _ R3.out.ma).mono ?_
      rw [HH.out]
      rintro e w4 ⟨rfl, hc⟩
      have R4 := Lib.hid (R3.out.quiet hc)
      clear hc R3
      go_wp2_with fail
      with_reducible refine (mout_any m F s _ R4.out.ma LO.out).mono ?_
      rintro e w5 ⟨ao, co, rfl, ho, hc⟩
      have O5 := Lib.hid (ownsRow_base (base' := w.heap.size + 1 + 1 + 1) ho (run_boxes R4.out.chg).2.2)
      have R5 := Lib.hid (R4.out.quiet hc)
      clear hc ho R4
      go_wp2_with fail
      with_reducible refine (mreads_any m F s _ R5.out.ma LR.out).mono ?_
      rintro e w6 ⟨ar, cr, rfl, ho, hc⟩
      have O6 := Lib.hid (ownsRow_base (base' := w.heap.size + 1 + 1 + 1) ho (run_boxes R5.out.chg).2.2)
      have O5 := Lib.hid (row_chg O5.out hc (fun _ _ h => h))
      have R6 := Lib.hid (R5.out.quiet hc)
      clear hc ho R5
      go_wp2_with fail
      with_reducible refine (mwrites_any m F s _ R6.out.ma).mono ?_
      rintro e w7 ⟨aw, cw, rfl, ho, hc⟩
      have O7 := Lib.hid (ownsRow_base (base' := w.heap.size + 1 + 1 + 1) ho (run_boxes R6.out.chg).2.2)
      have O5 := Lib.hid (row_chg O5.out hc (fun _ _ h => h))
      have O6 := Lib.hid (row_chg O6.out hc (fun _ _ h => h))
      have R7 := Lib.hid (R6.out.quiet hc)
      clear hc ho R6
      go_wp2_with fail
      with_reducible refine (mused_any m F s _ R7.out.ma).mono ?_
      rintro e w8 ⟨rfl, hc⟩
      have O5 := Lib.hid (row_chg O5.out hc (fun _ _ h => h))
      have O6 := Lib.hid (row_chg O6.out hc (fun _ _ h => h))
      have O7 := Lib.hid (row_chg O7.out hc (fun _ _ h => h))
      have R8 := Lib.hid (R7.out.quiet hc)
      clear hc R7
      have RB := Lib.hid (run_boxes R8.out.chg)
      have e2 := RB.out.2.1
      have x0 : w8.cell? ⟨w.heap.size + 1 + 1, 0, none⟩ = some (.int .i64 0) := blk_cell e2 0
      have x1 : w8.cell? ⟨w.heap.size + 1 + 1, 1, none⟩ = some (.int .i64 0) := blk_cell e2 1
      have x2 : w8.cell? ⟨w.heap.size + 1 + 1, 2, none⟩ = some (.int .i64 0) := blk_cell e2 2
      have x3 : w8.cell? ⟨w.heap.size + 1 + 1, 3, none⟩ = some (.slice none 0 0) := blk_cell e2 3
      have x4 : w8.cell? ⟨w.heap.size + 1 + 1, 4, none⟩ = some (.slice none 0 0) := blk_cell e2 4
      have x5 : w8.cell? ⟨w.heap.size + 1 + 1, 5, none⟩ = some (.slice none 0 0) := blk_cell e2 5
      have x6 : w8.cell? ⟨w.heap.size + 1 + 1, 6, none⟩ = some (.int .i64 0) := blk_cell e2 6
      have f0 := blk_free e2 0
      have f1 := blk_free e2 1
      have f2 := blk_free e2 2
      have f3 := blk_free e2 3
      have f4 := blk_free e2 4
      have f5 := blk_free e2 5
      have f6 := blk_free e2 6
      have z2 := blk_lt e2
      have E2 := Lib.hid e2
      clear e2
      have C8 := Lib.hid (law_old RB.out.1)
      have GL := Lib.hid H.out.lt
      by_cases hcm : h1 = 1
      · subst hcm
        have AF := Lib.hid (show afterL s fs = applyL fs s.buf from if_pos (by rw [HH.out]))
        go_wp2_with fail
        have BX := Lib.hid (heap_alloc_new w8 (.cells #[.int .i64 1, .int .i64 h2, .int .i64 h3, .slice ao s.out.length co, .slice ar s.reads.length cr, .slice aw s.buf.length cw, .int .i64 (s.used : Int)] 58))
        have CB := Lib.hid ((Chg.refl w8 Nothing).alloc (.cells #[.int .i64 1, .int .i64 h2, .int .i64 h3, .slice ao s.out.length co, .slice ar s.reads.length cr, .slice aw s.buf.length cw, .int .i64 (s.used : Int)] 58))
        with_reducible refine (T6.apply_any p G fs aw cw s.buf _ (H.out.chg (C8.out.trans CB.out (fun _ _ h => h)) (fun _ _ h => h)) (fs_bd HCF.out HCL.out).1 (row_tch (row_chg O7.out CB.out (fun _ _ h => h))) (fun b o hb hG => by have := row_low O7.out hb; have := GL.out b hG; omega) (by have := LB.out; omega)).mono ?_
        rintro e w9 ⟨rfl, hst, hc9⟩
        have hg2 : ¬ G (w.heap.size + 1 + 1) := fun h => by have := GL.out _ h; omega
        have hg8 : ¬ G w8.heap.size := fun h => by have := GL.out _ h; have := C8.out.size; omega
        have e9 : w9.heap[w.heap.size + 1 + 1]? = some resBx := (hc9.block _ (by simp; omega) hg2).trans (blk_alloc E2.out _)
        have b9 := (hc9.block _ (blk_lt BX.out) hg8).trans BX.out
        have x0 : w9.cell? ⟨w.heap.size + 1 + 1, 0, none⟩ = some (.int .i64 0) := blk_cell e9 0
        have x1 : w9.cell? ⟨w.heap.size + 1 + 1, 1, none⟩ = some (.int .i64 0) := blk_cell e9 1
        have x2 : w9.cell? ⟨w.heap.size + 1 + 1, 2, none⟩ = some (.int .i64 0) := blk_cell e9 2
        have x3 : w9.cell? ⟨w.heap.size + 1 + 1, 3, none⟩ = some (.slice none 0 0) := blk_cell e9 3
        have x4 : w9.cell? ⟨w.heap.size + 1 + 1, 4, none⟩ = some (.slice none 0 0) := blk_cell e9 4
        have x5 : w9.cell? ⟨w.heap.size + 1 + 1, 5, none⟩ = some (.slice none 0 0) := blk_cell e9 5
        have x6 : w9.cell? ⟨w.heap.size + 1 + 1, 6, none⟩ = some (.int .i64 0) := blk_cell e9 6
        have f0 := blk_free e9 0
        have f1 := blk_free e9 1
        have f2 := blk_free e9 2
        have f3 := blk_free e9 3
        have f4 := blk_free e9 4
        have f5 := blk_free e9 5
        have f6 := blk_free e9 6
        have z3 := blk_lt e9
        have y0 : w9.cell? ⟨w8.heap.size, 0, none⟩ = some (.int .i64 1) := blk_cell b9 0
        have y1 : w9.cell? ⟨w8.heap.size, 1, none⟩ = some (.int .i64 h2) := blk_cell b9 1
        have y2 : w9.cell? ⟨w8.heap.size, 2, none⟩ = some (.int .i64 h3) := blk_cell b9 2
        have y3 : w9.cell? ⟨w8.heap.size, 3, none⟩ = some (.slice ao s.out.length co) := blk_cell b9 3
        have y4 : w9.cell? ⟨w8.heap.size, 4, none⟩ = some (.slice ar s.reads.length cr) := blk_cell b9 4
        have y5 : w9.cell? ⟨w8.heap.size, 5, none⟩ = some (.slice aw s.buf.length cw) := blk_cell b9 5
        have y6 : w9.cell? ⟨w8.heap.size, 6, none⟩ = some (.int .i64 (s.used : Int)) := blk_cell b9 6
        have E9 := Lib.hid e9
        have ST := Lib.hid hst
        have C9 := Lib.hid hc9
        clear e9 b9 hst hc9 hg2 hg8
        go_wp2_with fail
        have CE := seven_chg (v0 := .int .i64 1) (v1 := .int .i64 h2) (v2 := .int .i64 h3) (v3 := .slice ao s.out.length co) (v4 := .slice ar s.reads.length cr) (v5 := .slice aw s.buf.length cw) (v6 := .int .i64 (s.used : Int)) (Chg.refl w9 (fun k => k = w.heap.size + 1 + 1)) (.inr rfl)
        exact bodyPost_ret (run_results rfl rfl (seven_set E9.out rfl)) rfl ⟨s, ao, co, ar, cr, aw, cw, HS'.out, HO.out, FI.out, LB.out, by rw [HH.out]; rfl, ownsRow_base (row_chg (row_chg (row_chg O5.out CB.out (fun _ _ h => h)) C9.out (fun k hk hG => by have := GL.out k hG; omega)) CE (fun k hk he => by omega)) (by omega), ownsRow_base (row_chg (row_chg (row_chg O6.out CB.out (fun _ _ h => h)) C9.out (fun k hk hG => by have := GL.out k hG; omega)) CE (fun k hk he => by omega)) (by omega), ownsRow_base (row_chg (row_chg (row_chg O7.out CB.out (fun _ _ h => h)) C9.out (fun k hk hG => by have := GL.out k hG; omega)) CE (fun k hk he => by omega)) (by omega), by rw [AF.out]; exact ST.out.chg CE (fun k hG he => by have := GL.out k hG; omega), (((C8.out.trans CB.out (fun _ _ h => h)).mono (fun _ _ h => h.elim)).trans C9.out (fun _ _ h => h)).trans CE (fun k hk he => by omega)⟩
      · have d1 : (h1 == 1) = false := beq_eq_false_iff_ne.2 hcm
        have AF := Lib.hid (show afterL s fs = fs from if_neg (by rw [HH.out]; exact hcm))
        clear hcm
        go_wp2_with fail
        have CE := (seven_chg (v0 := .int .i64 h1) (v1 := .int .i64 h2) (v2 := .int .i64 h3) (v3 := .slice ao s.out.length co) (v4 := .slice ar s.reads.length cr) (v5 := .slice aw s.buf.length cw) (v6 := .int .i64 (s.used : Int)) (Chg.refl w8 (fun k => k = w.heap.size + 1 + 1)) (.inr rfl)).alloc (.cells #[.int .i64 h1, .int .i64 h2, .int .i64 h3, .slice ao s.out.length co, .slice ar s.reads.length cr, .slice aw s.buf.length cw, .int .i64 (s.used : Int)] 58)
        exact bodyPost_ret (run_results rfl rfl (blk_alloc (seven_set E2.out rfl) _)) rfl ⟨s, ao, co, ar, cr, aw, cw, HS'.out, HO.out, FI.out, LB.out, by rw [HH.out]; rfl, ownsRow_base (row_chg O5.out CE (fun k hk he => by omega)) (by omega), ownsRow_base (row_chg O6.out CE (fun k hk he => by omega)) (by omega), ownsRow_base (row_chg O7.out CE (fun k hk he => by omega)) (by omega), by rw [AF.out]; exact (H.out.chg C8.out (fun _ _ h => h)).chg CE (fun k hG he => by have := GL.out k hG; omega), (C8.out.mono (fun _ _ h => h.elim)).trans CE (fun k hk he => by omega)⟩
end Go.Proofs.YtgeapkalabijmaaGreat
