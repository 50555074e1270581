/- A tree's Make: what it answers. Printed by gen/tree3.py. -/
import Derived.Test.YtgeapkalabijmaaGreatDD
namespace Go.Proofs.YtgeapkalabijmaaGreat
open Go Go.RowKit
set_option maxRecDepth 100000
set_option maxHeartbeats 1000000
set_option linter.unusedVariables false
set_option linter.unusedSimpArgs false

/-- The seven programs as they are put together. -/
noncomputable def trAsm (base room : Int) : List Asm := [trDoGet base room ⟨1, [], [], 0, []⟩, trDoPut base room ⟨2, [], [], 0, []⟩, trDoDel base room ⟨2, [], [], 0, []⟩, trDoLeast base room ⟨1, [], [], 0, []⟩, trDoAfter base room ⟨1, [], [], 0, []⟩, trDoLen base room ⟨1, [], [], 0, []⟩, trDoAll base room ⟨1, [], [], 0, []⟩]
def trZero : Array Value := #[.int .i64 0, .slice none 0 0, .int .i64 0, .slice none 0 0, .int .i64 0, .slice none 0 0, .int .i64 0, .slice none 0 0, .int .i64 0, .slice none 0 0, .int .i64 0, .slice none 0 0, .int .i64 0, .slice none 0 0]
theorem trmk_results {tmps : Array Value} {W : World} {r0 : Nat} {ee : Int} {t0 : Int} {a0 : Option Addr} {l0 c0 : Nat} {t1 : Int} {a1 : Option Addr} {l1 c1 : Nat} {t2 : Int} {a2 : Option Addr} {l2 c2 : Nat} {t3 : Int} {a3 : Option Addr} {l3 c3 : Nat} {t4 : Int} {a4 : Option Addr} {l4 c4 : Nat} {t5 : Int} {a5 : Option Addr} {l5 c5 : Nat} {t6 : Int} {a6 : Option Addr} {l6 c6 : Nat} {T : TypeId} {fr : Nat × Nat} (h2 : tmps.getD 4 undef = .pointer (some ⟨r0, 0, none⟩)) (h3 : tmps.getD 5 undef = .int .i64 ee)
    (hb : W.heap[r0]? = some (.cells #[.int .i64 t0, .slice a0 l0 c0, .int .i64 t1, .slice a1 l1 c1, .int .i64 t2, .slice a2 l2 c2, .int .i64 t3, .slice a3 l3 c3, .int .i64 t4, .slice a4 l4 c4, .int .i64 t5, .slice a5 l5 c5, .int .i64 t6, .slice a6 l6 c6] T fr)) :
    (results Tryz.f8 tmps).run Tryz.prog W = .ok (.tuple #[.agg #[.int .i64 t0, .slice a0 l0 c0, .int .i64 t1, .slice a1 l1 c1, .int .i64 t2, .slice a2 l2 c2, .int .i64 t3, .slice a3 l3 c3, .int .i64 t4, .slice a4 l4 c4, .int .i64 t5, .slice a5 l5 c5, .int .i64 t6, .slice a6 l6 c6], .int .i64 ee]) W := by
  have h2' : tmps[4]?.getD undef = .pointer (some ⟨r0, 0, none⟩) := by simpa using h2
  have h3' : tmps[5]?.getD undef = .int .i64 ee := by simpa using h3
  have hl := run_loadVar_row (P := Tryz.prog) W r0 T 28 _ fr _ hb Tryz.underlying28 rfl (by kernel_rfl)
  have k0 : W.cell? ⟨r0, 0, none⟩ = some (.int .i64 t0) := by rw [blk_cell hb]; rfl
  have k1 : W.cell? ⟨r0, 1, none⟩ = some (.slice a0 l0 c0) := by rw [blk_cell hb]; rfl
  have k2 : W.cell? ⟨r0, 2, none⟩ = some (.int .i64 t1) := by rw [blk_cell hb]; rfl
  have k3 : W.cell? ⟨r0, 3, none⟩ = some (.slice a1 l1 c1) := by rw [blk_cell hb]; rfl
  have k4 : W.cell? ⟨r0, 4, none⟩ = some (.int .i64 t2) := by rw [blk_cell hb]; rfl
  have k5 : W.cell? ⟨r0, 5, none⟩ = some (.slice a2 l2 c2) := by rw [blk_cell hb]; rfl
  have k6 : W.cell? ⟨r0, 6, none⟩ = some (.int .i64 t3) := by rw [blk_cell hb]; rfl
  have k7 : W.cell? ⟨r0, 7, none⟩ = some (.slice a3 l3 c3) := by rw [blk_cell hb]; rfl
  have k8 : W.cell? ⟨r0, 8, none⟩ = some (.int .i64 t4) := by rw [blk_cell hb]; rfl
  have k9 : W.cell? ⟨r0, 9, none⟩ = some (.slice a4 l4 c4) := by rw [blk_cell hb]; rfl
  have k10 : W.cell? ⟨r0, 10, none⟩ = some (.int .i64 t5) := by rw [blk_cell hb]; rfl
  have k11 : W.cell? ⟨r0, 11, none⟩ = some (.slice a5 l5 c5) := by rw [blk_cell hb]; rfl
  have k12 : W.cell? ⟨r0, 12, none⟩ = some (.int .i64 t6) := by rw [blk_cell hb]; rfl
  have k13 : W.cell? ⟨r0, 13, none⟩ = some (.slice a6 l6 c6) := by rw [blk_cell hb]; rfl
  simp [results, Tryz.results8, h2', h3', asAddr, hl, k0, k1, k2, k3, k4, k5, k6, k7, k8, k9, k10, k11, k12, k13, go_sem]

set_option maxRecDepth 100000 in
set_option maxHeartbeats 8000000 in
theorem trmake_good (w : World) (base cells : Int) (h0 : 0 ≤ base) (h1 : 7 ≤ cells) (h2 : cells ≤ 256) (h3 : base ≤ 256 - cells) :
    Calls Tryz.prog 8 #[.int .i64 base, .int .i64 cells] w fun e w' => ∃ t0 a0 l0 c0 t1 a1 l1 c1 t2 a2 l2 c2 t3 a3 l3 c3 t4 a4 l4 c4 t5 a5 l5 c5 t6 a6 l6 c6, e = .returned (.tuple #[.agg #[.int .i64 t0, .slice a0 l0 c0, .int .i64 t1, .slice a1 l1 c1, .int .i64 t2, .slice a2 l2 c2, .int .i64 t3, .slice a3 l3 c3, .int .i64 t4, .slice a4 l4 c4, .int .i64 t5, .slice a5 l5 c5, .int .i64 t6, .slice a6 l6 c6], .int .i64 0]) ∧ Chg w w' Nothing ∧ ProgAt w' w.heap.size (trDoGet base (trRoom cells) ⟨1, [], [], 0, []⟩) (.agg #[.int .i64 t0, .slice a0 l0 c0]) ∧ ProgAt w' w.heap.size (trDoPut base (trRoom cells) ⟨2, [], [], 0, []⟩) (.agg #[.int .i64 t1, .slice a1 l1 c1]) ∧ ProgAt w' w.heap.size (trDoDel base (trRoom cells) ⟨2, [], [], 0, []⟩) (.agg #[.int .i64 t2, .slice a2 l2 c2]) ∧ ProgAt w' w.heap.size (trDoLeast base (trRoom cells) ⟨1, [], [], 0, []⟩) (.agg #[.int .i64 t3, .slice a3 l3 c3]) ∧ ProgAt w' w.heap.size (trDoAfter base (trRoom cells) ⟨1, [], [], 0, []⟩) (.agg #[.int .i64 t4, .slice a4 l4 c4]) ∧ ProgAt w' w.heap.size (trDoLen base (trRoom cells) ⟨1, [], [], 0, []⟩) (.agg #[.int .i64 t5, .slice a5 l5 c5]) ∧ ProgAt w' w.heap.size (trDoAll base (trRoom cells) ⟨1, [], [], 0, []⟩) (.agg #[.int .i64 t6, .slice a6 l6 c6]) := by
  have hr1 : 1 ≤ trRoom cells ∧ trRoom cells ≤ 16 := by unfold trRoom; split <;> (try split) <;> omega
  obtain ⟨room, hroom⟩ : ∃ r, r = trRoom cells := ⟨_, rfl⟩
  rw [← hroom] at hr1 ⊢
  have t1 : (room == 0) = false := by simp; omega
  have t2 : decide (base < 0) = false := by simp; omega
  have t3 : decide (256 < cells) = false := by simp; omega
  have t4 : wrap64 (256 - cells) = 256 - cells := IntWalk.wrap64_in _ ⟨by omega, by omega⟩
  have t5 : decide (256 - cells < base) = false := by simp; omega
  have HR := Lib.hid hroom
  have H1 := Lib.hid (And.intro h1 h2)
  have hmf : ∀ (fn : Fn) (first cap : Array Value) (w : World), (Instr.makeFunc fn first cap).run Tryz.prog w = .ok (.func fn first cap) w := fun _ _ _ _ => rfl
  clear h0 h1 h2 h3 hr1 hroom
  obtain ⟨wB, hwB⟩ : ∃ wB, wB = (((w.alloc (.cells #[.int .i64 base] 3)).alloc (.cells #[.int .i64 0, .slice none 0 0, .int .i64 0, .slice none 0 0, .int .i64 0, .slice none 0 0, .int .i64 0, .slice none 0 0, .int .i64 0, .slice none 0 0, .int .i64 0, .slice none 0 0, .int .i64 0, .slice none 0 0] 28)).alloc (.cells #[.int .i64 room] 3)) := ⟨_, rfl⟩
  have CB := Lib.hid (show Chg w wB Nothing from by rw [hwB]; exact (((Chg.refl _ _).alloc _).alloc _).alloc _)
  have ZB := Lib.hid (show wB.heap.size = w.heap.size + 3 from by rw [hwB]; simp)
  have BB := Lib.hid (show wB.cell? ⟨w.heap.size, 0, none⟩ = some (.int .i64 base) from by
    have hb : wB.heap[w.heap.size]? = some (.cells #[.int .i64 base] 3 (0, 0)) := by
      rw [hwB]
      exact (Below.heap_alloc _ _ _ (by simp; omega)).trans ((Below.heap_alloc _ _ _ (by simp)).trans (heap_alloc_new w _))
    exact blk_cell hb 0)
  have BZ := Lib.hid (show wB.heap[w.heap.size + 1]? = some (.cells #[.int .i64 0, .slice none 0 0, .int .i64 0, .slice none 0 0, .int .i64 0, .slice none 0 0, .int .i64 0, .slice none 0 0, .int .i64 0, .slice none 0 0, .int .i64 0, .slice none 0 0, .int .i64 0, .slice none 0 0] 28 (0, 0)) from by
    rw [hwB]
    have h2 := heap_alloc_new (w.alloc (.cells #[.int .i64 base] 3)) (.cells #[.int .i64 0, .slice none 0 0, .int .i64 0, .slice none 0 0, .int .i64 0, .slice none 0 0, .int .i64 0, .slice none 0 0, .int .i64 0, .slice none 0 0, .int .i64 0, .slice none 0 0, .int .i64 0, .slice none 0 0] 28)
    rw [show (w.alloc (.cells #[.int .i64 base] 3)).heap.size = w.heap.size + 1 by simp] at h2
    exact (Below.heap_alloc _ _ _ (by simp)).trans h2)
  have BR := Lib.hid (show wB.cell? ⟨w.heap.size + 2, 0, none⟩ = some (.int .i64 room) from by
    have h2 := heap_alloc_new ((w.alloc (.cells #[.int .i64 base] 3)).alloc (.cells #[.int .i64 0, .slice none 0 0, .int .i64 0, .slice none 0 0, .int .i64 0, .slice none 0 0, .int .i64 0, .slice none 0 0, .int .i64 0, .slice none 0 0, .int .i64 0, .slice none 0 0, .int .i64 0, .slice none 0 0] 28)) (.cells #[.int .i64 room] 3)
    rw [show ((w.alloc (.cells #[.int .i64 base] 3)).alloc (.cells #[.int .i64 0, .slice none 0 0, .int .i64 0, .slice none 0 0, .int .i64 0, .slice none 0 0, .int .i64 0, .slice none 0 0, .int .i64 0, .slice none 0 0, .int .i64 0, .slice none 0 0, .int .i64 0, .slice none 0 0] 28)).heap.size = w.heap.size + 2 by simp] at h2
    rw [hwB]
    exact blk_cell h2 0)
  have WB := Lib.hid hwB
  clear hwB
  go_enter Tryz.func8, Tryz.ntmps8
  go_wp2_with fail
  refine (trroom_any _ cells (by have := H1.out; omega) (by have := H1.out; omega)).mono ?_
  rintro e w1 ⟨he, rfl⟩
  rw [← HR.out] at he
  subst he
  go_upto_region 5 with fail
  rw [← WB.out]
  have C0 := Lib.hid (Chg.refl wB Nothing)
  have D0 := C0
  have Y0 := Lib.hid (Chg.refl wB Nothing)
  go_wp2_with fail
  refine (trMake_Get wB 1 base room _ _ (D0.out.cell BB.out id) (D0.out.cell BR.out id)).mono ?_
  rintro e y0 ⟨t0, a0, l0, c0, rfl, hp, hc⟩
  have C1 := Lib.hid (D0.out.trans hc (fun _ _ h => h))
  have P0 := Lib.hid hp
  have Z0 := Lib.hid (Y0.out.trans hc (fun _ _ h => h))
  have L0 := Lib.hid (show w.heap.size + 1 < wB.heap.size from by have := ZB.out; have := D0.out.size; omega)
  clear hp hc
  have D1 := C1
  have Y1 := Lib.hid (Chg.refl y0 Nothing)
  go_wp2_with fail
  refine (trMake_Put y0 2 base room _ _ (D1.out.cell BB.out id) (D1.out.cell BR.out id)).mono ?_
  rintro e y1 ⟨t1, a1, l1, c1, rfl, hp, hc⟩
  have C2 := Lib.hid (D1.out.trans hc (fun _ _ h => h))
  have P1 := Lib.hid hp
  have Z1 := Lib.hid (Y1.out.trans hc (fun _ _ h => h))
  have L1 := Lib.hid (show w.heap.size + 1 < y0.heap.size from by have := ZB.out; have := D1.out.size; omega)
  clear hp hc
  have D2 := C2
  have Y2 := Lib.hid (Chg.refl y1 Nothing)
  go_wp2_with fail
  refine (trMake_Del y1 2 base room _ _ (D2.out.cell BB.out id) (D2.out.cell BR.out id)).mono ?_
  rintro e y2 ⟨t2, a2, l2, c2, rfl, hp, hc⟩
  have C3 := Lib.hid (D2.out.trans hc (fun _ _ h => h))
  have P2 := Lib.hid hp
  have Z2 := Lib.hid (Y2.out.trans hc (fun _ _ h => h))
  have L2 := Lib.hid (show w.heap.size + 1 < y1.heap.size from by have := ZB.out; have := D2.out.size; omega)
  clear hp hc
  have D3 := C3
  have Y3 := Lib.hid (Chg.refl y2 Nothing)
  go_wp2_with fail
  refine (trMake_Least y2 1 base room _ _ (D3.out.cell BB.out id) (D3.out.cell BR.out id)).mono ?_
  rintro e y3 ⟨t3, a3, l3, c3, rfl, hp, hc⟩
  have C4 := Lib.hid (D3.out.trans hc (fun _ _ h => h))
  have P3 := Lib.hid hp
  have Z3 := Lib.hid (Y3.out.trans hc (fun _ _ h => h))
  have L3 := Lib.hid (show w.heap.size + 1 < y2.heap.size from by have := ZB.out; have := D3.out.size; omega)
  clear hp hc
  have D4 := C4
  have Y4 := Lib.hid (Chg.refl y3 Nothing)
  go_wp2_with fail
  refine (trMake_After y3 1 base room _ _ (D4.out.cell BB.out id) (D4.out.cell BR.out id)).mono ?_
  rintro e y4 ⟨t4, a4, l4, c4, rfl, hp, hc⟩
  have C5 := Lib.hid (D4.out.trans hc (fun _ _ h => h))
  have P4 := Lib.hid hp
  have Z4 := Lib.hid (Y4.out.trans hc (fun _ _ h => h))
  have L4 := Lib.hid (show w.heap.size + 1 < y3.heap.size from by have := ZB.out; have := D4.out.size; omega)
  clear hp hc
  have D5 := C5
  have Y5 := Lib.hid (Chg.refl y4 Nothing)
  go_wp2_with fail
  refine (trMake_Len y4 1 base room _ _ (D5.out.cell BB.out id) (D5.out.cell BR.out id)).mono ?_
  rintro e y5 ⟨t5, a5, l5, c5, rfl, hp, hc⟩
  have C6 := Lib.hid (D5.out.trans hc (fun _ _ h => h))
  have P5 := Lib.hid hp
  have Z5 := Lib.hid (Y5.out.trans hc (fun _ _ h => h))
  have L5 := Lib.hid (show w.heap.size + 1 < y4.heap.size from by have := ZB.out; have := D5.out.size; omega)
  clear hp hc
  have D6 := C6
  have Y6 := Lib.hid (Chg.refl y5 Nothing)
  go_wp2_with fail
  refine (trMake_All y5 1 base room _ _ (D6.out.cell BB.out id) (D6.out.cell BR.out id)).mono ?_
  rintro e y6 ⟨t6, a6, l6, c6, rfl, hp, hc⟩
  have C7 := Lib.hid (D6.out.trans hc (fun _ _ h => h))
  have P6 := Lib.hid hp
  have Z6 := Lib.hid (Y6.out.trans hc (fun _ _ h => h))
  have L6 := Lib.hid (show w.heap.size + 1 < y5.heap.size from by have := ZB.out; have := D6.out.size; omega)
  clear hp hc
  have hbs : y6.heap[w.heap.size + 1]? = some (.cells #[.int .i64 0, .slice none 0 0, .int .i64 0, .slice none 0 0, .int .i64 0, .slice none 0 0, .int .i64 0, .slice none 0 0, .int .i64 0, .slice none 0 0, .int .i64 0, .slice none 0 0, .int .i64 0, .slice none 0 0] 28 (0, 0)) := (C7.out.block _ (by rw [ZB.out]; omega) id).trans BZ.out
  have e0 : y6.cell? ⟨w.heap.size + 1, 0, none⟩ = some (.int .i64 0) := blk_cell hbs 0
  have f0 : y6.frozen? ⟨w.heap.size + 1, 0, none⟩ = false := blk_free hbs 0
  have e1 : y6.cell? ⟨w.heap.size + 1, 1, none⟩ = some (.slice none 0 0) := blk_cell hbs 1
  have f1 : y6.frozen? ⟨w.heap.size + 1, 1, none⟩ = false := blk_free hbs 1
  have e2 : y6.cell? ⟨w.heap.size + 1, 2, none⟩ = some (.int .i64 0) := blk_cell hbs 2
  have f2 : y6.frozen? ⟨w.heap.size + 1, 2, none⟩ = false := blk_free hbs 2
  have e3 : y6.cell? ⟨w.heap.size + 1, 3, none⟩ = some (.slice none 0 0) := blk_cell hbs 3
  have f3 : y6.frozen? ⟨w.heap.size + 1, 3, none⟩ = false := blk_free hbs 3
  have e4 : y6.cell? ⟨w.heap.size + 1, 4, none⟩ = some (.int .i64 0) := blk_cell hbs 4
  have f4 : y6.frozen? ⟨w.heap.size + 1, 4, none⟩ = false := blk_free hbs 4
  have e5 : y6.cell? ⟨w.heap.size + 1, 5, none⟩ = some (.slice none 0 0) := blk_cell hbs 5
  have f5 : y6.frozen? ⟨w.heap.size + 1, 5, none⟩ = false := blk_free hbs 5
  have e6 : y6.cell? ⟨w.heap.size + 1, 6, none⟩ = some (.int .i64 0) := blk_cell hbs 6
  have f6 : y6.frozen? ⟨w.heap.size + 1, 6, none⟩ = false := blk_free hbs 6
  have e7 : y6.cell? ⟨w.heap.size + 1, 7, none⟩ = some (.slice none 0 0) := blk_cell hbs 7
  have f7 : y6.frozen? ⟨w.heap.size + 1, 7, none⟩ = false := blk_free hbs 7
  have e8 : y6.cell? ⟨w.heap.size + 1, 8, none⟩ = some (.int .i64 0) := blk_cell hbs 8
  have f8 : y6.frozen? ⟨w.heap.size + 1, 8, none⟩ = false := blk_free hbs 8
  have e9 : y6.cell? ⟨w.heap.size + 1, 9, none⟩ = some (.slice none 0 0) := blk_cell hbs 9
  have f9 : y6.frozen? ⟨w.heap.size + 1, 9, none⟩ = false := blk_free hbs 9
  have e10 : y6.cell? ⟨w.heap.size + 1, 10, none⟩ = some (.int .i64 0) := blk_cell hbs 10
  have f10 : y6.frozen? ⟨w.heap.size + 1, 10, none⟩ = false := blk_free hbs 10
  have e11 : y6.cell? ⟨w.heap.size + 1, 11, none⟩ = some (.slice none 0 0) := blk_cell hbs 11
  have f11 : y6.frozen? ⟨w.heap.size + 1, 11, none⟩ = false := blk_free hbs 11
  have e12 : y6.cell? ⟨w.heap.size + 1, 12, none⟩ = some (.int .i64 0) := blk_cell hbs 12
  have f12 : y6.frozen? ⟨w.heap.size + 1, 12, none⟩ = false := blk_free hbs 12
  have e13 : y6.cell? ⟨w.heap.size + 1, 13, none⟩ = some (.slice none 0 0) := blk_cell hbs 13
  have f13 : y6.frozen? ⟨w.heap.size + 1, 13, none⟩ = false := blk_free hbs 13
  have BS := Lib.hid hbs
  clear hbs
  have T6 := Lib.hid (Chg.refl y6 Nothing)
  have T5 := Lib.hid (Z6.out.trans T6.out (fun _ _ h => h))
  have T4 := Lib.hid (Z5.out.trans T5.out (fun _ _ h => h))
  have T3 := Lib.hid (Z4.out.trans T4.out (fun _ _ h => h))
  have T2 := Lib.hid (Z3.out.trans T3.out (fun _ _ h => h))
  have T1 := Lib.hid (Z2.out.trans T2.out (fun _ _ h => h))
  have T0 := Lib.hid (Z1.out.trans T1.out (fun _ _ h => h))
  go_wp2_with fail
  have hfin := setAll_block (T := 28) (b := w.heap.size + 1) [.int .i64 t0, .slice a0 l0 c0, .int .i64 t1, .slice a1 l1 c1, .int .i64 t2, .slice a2 l2 c2, .int .i64 t3, .slice a3 l3 c3, .int .i64 t4, .slice a4 l4 c4, .int .i64 t5, .slice a5 l5 c5, .int .i64 t6, .slice a6 l6 c6] y6 [] [.int .i64 0, .slice none 0 0, .int .i64 0, .slice none 0 0, .int .i64 0, .slice none 0 0, .int .i64 0, .slice none 0 0, .int .i64 0, .slice none 0 0, .int .i64 0, .slice none 0 0, .int .i64 0, .slice none 0 0] BS.out rfl
  have cf : ∀ y, Chg y y6 Nothing → Chg y (setAll y6 (w.heap.size + 1) 0 [.int .i64 t0, .slice a0 l0 c0, .int .i64 t1, .slice a1 l1 c1, .int .i64 t2, .slice a2 l2 c2, .int .i64 t3, .slice a3 l3 c3, .int .i64 t4, .slice a4 l4 c4, .int .i64 t5, .slice a5 l5 c5, .int .i64 t6, .slice a6 l6 c6]) (fun k => k = w.heap.size + 1) := fun y hy => setAll_chg (S := fun k => k = w.heap.size + 1) _ (.inr rfl) _ _ _ (hy.mono (fun _ _ h => h.elim))
  have cw := setAll_chg (w.heap.size + 1) (.inl (by omega)) [.int .i64 t0, .slice a0 l0 c0, .int .i64 t1, .slice a1 l1 c1, .int .i64 t2, .slice a2 l2 c2, .int .i64 t3, .slice a3 l3 c3, .int .i64 t4, .slice a4 l4 c4, .int .i64 t5, .slice a5 l5 c5, .int .i64 t6, .slice a6 l6 c6] y6 0 (CB.out.trans C7.out (fun _ _ h => h))
  change bodyPost _ _ _ _ _ (setAll y6 (w.heap.size + 1) 0 [.int .i64 t0, .slice a0 l0 c0, .int .i64 t1, .slice a1 l1 c1, .int .i64 t2, .slice a2 l2 c2, .int .i64 t3, .slice a3 l3 c3, .int .i64 t4, .slice a4 l4 c4, .int .i64 t5, .slice a5 l5 c5, .int .i64 t6, .slice a6 l6 c6])
  have hfin : (setAll y6 (w.heap.size + 1) 0 [.int .i64 t0, .slice a0 l0 c0, .int .i64 t1, .slice a1 l1 c1, .int .i64 t2, .slice a2 l2 c2, .int .i64 t3, .slice a3 l3 c3, .int .i64 t4, .slice a4 l4 c4, .int .i64 t5, .slice a5 l5 c5, .int .i64 t6, .slice a6 l6 c6]).heap[w.heap.size + 1]? = some (.cells #[.int .i64 t0, .slice a0 l0 c0, .int .i64 t1, .slice a1 l1 c1, .int .i64 t2, .slice a2 l2 c2, .int .i64 t3, .slice a3 l3 c3, .int .i64 t4, .slice a4 l4 c4, .int .i64 t5, .slice a5 l5 c5, .int .i64 t6, .slice a6 l6 c6] 28 (0, 0)) := hfin
  generalize setAll y6 (w.heap.size + 1) 0 [.int .i64 t0, .slice a0 l0 c0, .int .i64 t1, .slice a1 l1 c1, .int .i64 t2, .slice a2 l2 c2, .int .i64 t3, .slice a3 l3 c3, .int .i64 t4, .slice a4 l4 c4, .int .i64 t5, .slice a5 l5 c5, .int .i64 t6, .slice a6 l6 c6] = wz at hfin cf cw ⊢
  refine bodyPost_ret (trmk_results rfl rfl hfin) rfl ?_
  exact ⟨_, _, _, _, _, _, _, _, _, _, _, _, _, _, _, _, _, _, _, _, _, _, _, _, _, _, _, _, rfl, cw, (P0.out.far (cf _ T0.out) (fun k hk => by have := L0.out; omega)).low (by have := L0.out; omega), (P1.out.far (cf _ T1.out) (fun k hk => by have := L1.out; omega)).low (by have := L1.out; omega), (P2.out.far (cf _ T2.out) (fun k hk => by have := L2.out; omega)).low (by have := L2.out; omega), (P3.out.far (cf _ T3.out) (fun k hk => by have := L3.out; omega)).low (by have := L3.out; omega), (P4.out.far (cf _ T4.out) (fun k hk => by have := L4.out; omega)).low (by have := L4.out; omega), (P5.out.far (cf _ T5.out) (fun k hk => by have := L5.out; omega)).low (by have := L5.out; omega), (P6.out.far (cf _ T6.out) (fun k hk => by have := L6.out; omega)).low (by have := L6.out; omega)⟩
end Go.Proofs.YtgeapkalabijmaaGreat
