/- A deque's Make: what it answers. Printed by gen/deque3.py. -/
import Derived.Test.YtgeapkalabijmaaGreatD3
namespace Go.Proofs.YtgeapkalabijmaaGreat
open Go Go.RowKit
set_option maxRecDepth 100000
set_option maxHeartbeats 1000000
set_option linter.unusedVariables false
set_option linter.unusedSimpArgs false

/-- The seven programs as they are put together. -/
noncomputable def dqAsm (base room : Int) : List Asm := [(dqPush_ahead1 base room ⟨2, [], [], 0, []⟩).add 20 0, (dqPush_behind base room ⟨2, [], [], 0, []⟩).add 20 0, (dqPop_front base room ⟨2, [], [], 0, []⟩).add 20 0, (dqPop_back base room ⟨2, [], [], 0, []⟩).add 20 0, (dqAt base room ⟨1, [], [], 0, []⟩).add 20 0, (dqLength base room ⟨1, [], [], 0, []⟩).add 20 0, (dqAll base room ⟨1, [], [], 0, []⟩).add 20 0]
def dqZero : Array Value := #[.int .i64 0, .slice none 0 0, .int .i64 0, .slice none 0 0, .int .i64 0, .slice none 0 0, .int .i64 0, .slice none 0 0, .int .i64 0, .slice none 0 0, .int .i64 0, .slice none 0 0, .int .i64 0, .slice none 0 0]
theorem dqmk_results {tmps : Array Value} {W : World} {r0 : Nat} {ee : Int} {t0 : Int} {a0 : Option Addr} {l0 c0 : Nat} {t1 : Int} {a1 : Option Addr} {l1 c1 : Nat} {t2 : Int} {a2 : Option Addr} {l2 c2 : Nat} {t3 : Int} {a3 : Option Addr} {l3 c3 : Nat} {t4 : Int} {a4 : Option Addr} {l4 c4 : Nat} {t5 : Int} {a5 : Option Addr} {l5 c5 : Nat} {t6 : Int} {a6 : Option Addr} {l6 c6 : Nat} {T : TypeId} {fr : Nat × Nat} (h2 : tmps.getD 4 undef = .pointer (some ⟨r0, 0, none⟩)) (h3 : tmps.getD 5 undef = .int .i64 ee)
    (hb : W.heap[r0]? = some (.cells #[.int .i64 t0, .slice a0 l0 c0, .int .i64 t1, .slice a1 l1 c1, .int .i64 t2, .slice a2 l2 c2, .int .i64 t3, .slice a3 l3 c3, .int .i64 t4, .slice a4 l4 c4, .int .i64 t5, .slice a5 l5 c5, .int .i64 t6, .slice a6 l6 c6] T fr)) :
    (results Tryz.f16 tmps).run Tryz.prog W = .ok (.tuple #[.agg #[.int .i64 t0, .slice a0 l0 c0, .int .i64 t1, .slice a1 l1 c1, .int .i64 t2, .slice a2 l2 c2, .int .i64 t3, .slice a3 l3 c3, .int .i64 t4, .slice a4 l4 c4, .int .i64 t5, .slice a5 l5 c5, .int .i64 t6, .slice a6 l6 c6], .int .i64 ee]) W := by
  have h2' : tmps[4]?.getD undef = .pointer (some ⟨r0, 0, none⟩) := by simpa using h2
  have h3' : tmps[5]?.getD undef = .int .i64 ee := by simpa using h3
  have hl := run_loadVar_row (P := Tryz.prog) W r0 T 38 _ fr _ hb Tryz.underlying38 rfl (by kernel_rfl)
  have k0 : W.cell? ⟨r0, 0, none⟩ = some (.int .i64 t0) := by rw [blk_cell hb]; rfl
  have k1 : W.cell? ⟨r0, 1, none⟩ = some (.slice a0 l0 c0) := by rw [blk_cell hb]; rfl
  have k2 : W.cell? ⟨r0, 2, none⟩ = some (.int .i64 t1) := by rw [blk_cell hb]; rfl
  have k3 : W.cell? ⟨r0, 3, none⟩ = some (.slice a1 l1 c1) := by rw [blk_cell hb]; rfl
  have k4 : W.cell? ⟨r0, 4, none⟩ = some (.int .i64 t2) := by rw [blk_cell hb]; rfl
  have k5 : W.cell? ⟨r0, 5, none⟩ = some (.slice a2 l2 c2) := by rw [blk_cell hb]; rfl
  have k6 : W.cell? ⟨r0, 6, none⟩ = some (.int .i64 t3) := by rw [blk_cell hb]; rfl
  have k7 : W.cell? ⟨r0, 7, none⟩ = some (.slice a3 l3 c3) := by rw [blk_cell hb]; rfl
  have k8 : W.cell? ⟨r0, 8, none⟩ = some (.int .i64 t4) := by rw [blk_cell hb]; rfl
  have k9 : W.cell? ⟨r0, 9, none⟩ = some (.slice a4 l4 c4) := by rw [blk_cell hb]; rfl
  have k10 : W.cell? ⟨r0, 10, none⟩ = some (.int .i64 t5) := by rw [blk_cell hb]; rfl
  have k11 : W.cell? ⟨r0, 11, none⟩ = some (.slice a5 l5 c5) := by rw [blk_cell hb]; rfl
  have k12 : W.cell? ⟨r0, 12, none⟩ = some (.int .i64 t6) := by rw [blk_cell hb]; rfl
  have k13 : W.cell? ⟨r0, 13, none⟩ = some (.slice a6 l6 c6) := by rw [blk_cell hb]; rfl
  simp [results, Tryz.results16, h2', h3', asAddr, hl, k0, k1, k2, k3, k4, k5, k6, k7, k8, k9, k10, k11, k12, k13, go_sem]

set_option maxRecDepth 100000 in
set_option maxHeartbeats 8000000 in
theorem dqmake_good (w : World) (base cells : Int) (h0 : 0 ≤ base) (h1 : 3 ≤ cells) (h2 : cells ≤ 256) (h3 : base ≤ 256 - cells) :
    Calls Tryz.prog 16 #[.int .i64 base, .int .i64 cells] w fun e w' => ∃ t0 a0 l0 c0 t1 a1 l1 c1 t2 a2 l2 c2 t3 a3 l3 c3 t4 a4 l4 c4 t5 a5 l5 c5 t6 a6 l6 c6, e = .returned (.tuple #[.agg #[.int .i64 t0, .slice a0 l0 c0, .int .i64 t1, .slice a1 l1 c1, .int .i64 t2, .slice a2 l2 c2, .int .i64 t3, .slice a3 l3 c3, .int .i64 t4, .slice a4 l4 c4, .int .i64 t5, .slice a5 l5 c5, .int .i64 t6, .slice a6 l6 c6], .int .i64 0]) ∧ Chg w w' Nothing ∧ ProgAt w' w.heap.size ((dqPush_ahead1 base (dqRoom cells) ⟨2, [], [], 0, []⟩).add 20 0) (.agg #[.int .i64 t0, .slice a0 l0 c0]) ∧ ProgAt w' w.heap.size ((dqPush_behind base (dqRoom cells) ⟨2, [], [], 0, []⟩).add 20 0) (.agg #[.int .i64 t1, .slice a1 l1 c1]) ∧ ProgAt w' w.heap.size ((dqPop_front base (dqRoom cells) ⟨2, [], [], 0, []⟩).add 20 0) (.agg #[.int .i64 t2, .slice a2 l2 c2]) ∧ ProgAt w' w.heap.size ((dqPop_back base (dqRoom cells) ⟨2, [], [], 0, []⟩).add 20 0) (.agg #[.int .i64 t3, .slice a3 l3 c3]) ∧ ProgAt w' w.heap.size ((dqAt base (dqRoom cells) ⟨1, [], [], 0, []⟩).add 20 0) (.agg #[.int .i64 t4, .slice a4 l4 c4]) ∧ ProgAt w' w.heap.size ((dqLength base (dqRoom cells) ⟨1, [], [], 0, []⟩).add 20 0) (.agg #[.int .i64 t5, .slice a5 l5 c5]) ∧ ProgAt w' w.heap.size ((dqAll base (dqRoom cells) ⟨1, [], [], 0, []⟩).add 20 0) (.agg #[.int .i64 t6, .slice a6 l6 c6]) := by
  have hr1 : 1 ≤ dqRoom cells ∧ dqRoom cells ≤ 16 := by unfold dqRoom; split <;> (try split) <;> omega
  obtain ⟨room, hroom⟩ : ∃ r, r = dqRoom cells := ⟨_, rfl⟩
  rw [← hroom] at hr1 ⊢
  have t1 : (room == 0) = false := by simp; omega
  have t2 : decide (base < 0) = false := by simp; omega
  have t3 : decide (256 < cells) = false := by simp; omega
  have t4 : wrap64 (256 - cells) = 256 - cells := IntWalk.wrap64_in _ ⟨by omega, by omega⟩
  have t5 : decide (256 - cells < base) = false := by simp; omega
  have HR := Lib.hid hroom
  have H1 := Lib.hid (And.intro h1 h2)
  have hmf : ∀ (fn : Fn) (first cap : Array Value) (w : World), (Instr.makeFunc fn first cap).run Tryz.prog w = .ok (.func fn first cap) w := fun _ _ _ _ => rfl
  clear h0 h1 h2 h3 hr1 hroom
  obtain ⟨wB, hwB⟩ : ∃ wB, wB = (((w.alloc (.cells #[.int .i64 base] 3)).alloc (.cells #[.int .i64 0, .slice none 0 0, .int .i64 0, .slice none 0 0, .int .i64 0, .slice none 0 0, .int .i64 0, .slice none 0 0, .int .i64 0, .slice none 0 0, .int .i64 0, .slice none 0 0, .int .i64 0, .slice none 0 0] 38)).alloc (.cells #[.int .i64 room] 3)) := ⟨_, rfl⟩
  have CB := Lib.hid (show Chg w wB Nothing from by rw [hwB]; exact (((Chg.refl _ _).alloc _).alloc _).alloc _)
  have ZB := Lib.hid (show wB.heap.size = w.heap.size + 3 from by rw [hwB]; simp)
  have BB := Lib.hid (show wB.cell? ⟨w.heap.size, 0, none⟩ = some (.int .i64 base) from by
    have hb : wB.heap[w.heap.size]? = some (.cells #[.int .i64 base] 3 (0, 0)) := by
      rw [hwB]
      exact (Below.heap_alloc _ _ _ (by simp; omega)).trans ((Below.heap_alloc _ _ _ (by simp)).trans (heap_alloc_new w _))
    exact blk_cell hb 0)
  have BZ := Lib.hid (show wB.heap[w.heap.size + 1]? = some (.cells #[.int .i64 0, .slice none 0 0, .int .i64 0, .slice none 0 0, .int .i64 0, .slice none 0 0, .int .i64 0, .slice none 0 0, .int .i64 0, .slice none 0 0, .int .i64 0, .slice none 0 0, .int .i64 0, .slice none 0 0] 38 (0, 0)) from by
    rw [hwB]
    have h2 := heap_alloc_new (w.alloc (.cells #[.int .i64 base] 3)) (.cells #[.int .i64 0, .slice none 0 0, .int .i64 0, .slice none 0 0, .int .i64 0, .slice none 0 0, .int .i64 0, .slice none 0 0, .int .i64 0, .slice none 0 0, .int .i64 0, .slice none 0 0, .int .i64 0, .slice none 0 0] 38)
    rw [show (w.alloc (.cells #[.int .i64 base] 3)).heap.size = w.heap.size + 1 by simp] at h2
    exact (Below.heap_alloc _ _ _ (by simp)).trans h2)
  have BR := Lib.hid (show wB.cell? ⟨w.heap.size + 2, 0, none⟩ = some (.int .i64 room) from by
    have h2 := heap_alloc_new ((w.alloc (.cells #[.int .i64 base] 3)).alloc (.cells #[.int .i64 0, .slice none 0 0, .int .i64 0, .slice none 0 0, .int .i64 0, .slice none 0 0, .int .i64 0, .slice none 0 0, .int .i64 0, .slice none 0 0, .int .i64 0, .slice none 0 0, .int .i64 0, .slice none 0 0] 38)) (.cells #[.int .i64 room] 3)
    rw [show ((w.alloc (.cells #[.int .i64 base] 3)).alloc (.cells #[.int .i64 0, .slice none 0 0, .int .i64 0, .slice none 0 0, .int .i64 0, .slice none 0 0, .int .i64 0, .slice none 0 0, .int .i64 0, .slice none 0 0, .int .i64 0, .slice none 0 0, .int .i64 0, .slice none 0 0] 38)).heap.size = w.heap.size + 2 by simp] at h2
    rw [hwB]
    exact blk_cell h2 0)
  have WB := Lib.hid hwB
  clear hwB
  go_enter Tryz.func16, Tryz.ntmps16
  go_wp2_with fail
  refine (dqroom_any _ cells (by have := H1.out; omega) (by have := H1.out; omega)).mono ?_
  rintro e w1 ⟨he, rfl⟩
  rw [← HR.out] at he
  subst he
  go_upto_region 5 with fail
  rw [← WB.out]
  have C0 := Lib.hid (Chg.refl wB Nothing)
  go_wp2_with fail
  refine (dqpush_lit wB (.func 47) _ rfl).mono ?_
  rintro e x0 ⟨rfl, hx⟩
  have D0 := Lib.hid (show Chg wB x0 Nothing from by rw [hx]; exact C0.out.alloc _)
  have Y0 := Lib.hid (show Chg wB x0 Nothing from by rw [hx]; exact (Chg.refl _ _).alloc _)
  have X0 := Lib.hid (show x0.cell? ⟨wB.heap.size, 0, none⟩ = some (.func (.func 47) #[] #[]) from by rw [hx]; exact blk_cell (heap_alloc_new _ _) 0)
  clear hx
  go_wp2_with fail
  refine (dqMake_PushFront x0 2 base room _ _ (D0.out.cell BB.out id) (D0.out.cell BR.out id) _ X0.out).mono ?_
  rintro e y0 ⟨t0, a0, l0, c0, rfl, hp, hc⟩
  have C1 := Lib.hid (D0.out.trans hc (fun _ _ h => h))
  have P0 := Lib.hid hp
  have Z0 := Lib.hid (Y0.out.trans hc (fun _ _ h => h))
  have L0 := Lib.hid (show w.heap.size + 1 < x0.heap.size from by have := ZB.out; have := D0.out.size; omega)
  clear hp hc
  go_wp2_with fail
  refine (dqpush_lit y0 (.func 48) _ rfl).mono ?_
  rintro e x1 ⟨rfl, hx⟩
  have D1 := Lib.hid (show Chg wB x1 Nothing from by rw [hx]; exact C1.out.alloc _)
  have Y1 := Lib.hid (show Chg y0 x1 Nothing from by rw [hx]; exact (Chg.refl _ _).alloc _)
  have X1 := Lib.hid (show x1.cell? ⟨y0.heap.size, 0, none⟩ = some (.func (.func 48) #[] #[]) from by rw [hx]; exact blk_cell (heap_alloc_new _ _) 0)
  clear hx
  go_wp2_with fail
  refine (dqMake_PushBack x1 2 base room _ _ (D1.out.cell BB.out id) (D1.out.cell BR.out id) _ X1.out).mono ?_
  rintro e y1 ⟨t1, a1, l1, c1, rfl, hp, hc⟩
  have C2 := Lib.hid (D1.out.trans hc (fun _ _ h => h))
  have P1 := Lib.hid hp
  have Z1 := Lib.hid (Y1.out.trans hc (fun _ _ h => h))
  have L1 := Lib.hid (show w.heap.size + 1 < x1.heap.size from by have := ZB.out; have := D1.out.size; omega)
  clear hp hc
  go_wp2_with fail
  refine (dqpop_lit y1 (.func 50) _ rfl).mono ?_
  rintro e x2 ⟨rfl, hx⟩
  have D2 := Lib.hid (show Chg wB x2 Nothing from by rw [hx]; exact C2.out.alloc _)
  have Y2 := Lib.hid (show Chg y1 x2 Nothing from by rw [hx]; exact (Chg.refl _ _).alloc _)
  have X2 := Lib.hid (show x2.cell? ⟨y1.heap.size, 0, none⟩ = some (.func (.func 50) #[] #[]) from by rw [hx]; exact blk_cell (heap_alloc_new _ _) 0)
  clear hx
  go_wp2_with fail
  refine (dqMake_PopFront x2 2 base room _ _ (D2.out.cell BB.out id) (D2.out.cell BR.out id) _ X2.out).mono ?_
  rintro e y2 ⟨t2, a2, l2, c2, rfl, hp, hc⟩
  have C3 := Lib.hid (D2.out.trans hc (fun _ _ h => h))
  have P2 := Lib.hid hp
  have Z2 := Lib.hid (Y2.out.trans hc (fun _ _ h => h))
  have L2 := Lib.hid (show w.heap.size + 1 < x2.heap.size from by have := ZB.out; have := D2.out.size; omega)
  clear hp hc
  go_wp2_with fail
  refine (dqpop_lit y2 (.func 51) _ rfl).mono ?_
  rintro e x3 ⟨rfl, hx⟩
  have D3 := Lib.hid (show Chg wB x3 Nothing from by rw [hx]; exact C3.out.alloc _)
  have Y3 := Lib.hid (show Chg y2 x3 Nothing from by rw [hx]; exact (Chg.refl _ _).alloc _)
  have X3 := Lib.hid (show x3.cell? ⟨y2.heap.size, 0, none⟩ = some (.func (.func 51) #[] #[]) from by rw [hx]; exact blk_cell (heap_alloc_new _ _) 0)
  clear hx
  go_wp2_with fail
  refine (dqMake_PopBack x3 2 base room _ _ (D3.out.cell BB.out id) (D3.out.cell BR.out id) _ X3.out).mono ?_
  rintro e y3 ⟨t3, a3, l3, c3, rfl, hp, hc⟩
  have C4 := Lib.hid (D3.out.trans hc (fun _ _ h => h))
  have P3 := Lib.hid hp
  have Z3 := Lib.hid (Y3.out.trans hc (fun _ _ h => h))
  have L3 := Lib.hid (show w.heap.size + 1 < x3.heap.size from by have := ZB.out; have := D3.out.size; omega)
  clear hp hc
  have D4 := C4
  have Y4 := Lib.hid (Chg.refl y3 Nothing)
  go_wp2_with fail
  refine (dqMake_At y3 1 base room _ _ (D4.out.cell BB.out id) (D4.out.cell BR.out id)).mono ?_
  rintro e y4 ⟨t4, a4, l4, c4, rfl, hp, hc⟩
  have C5 := Lib.hid (D4.out.trans hc (fun _ _ h => h))
  have P4 := Lib.hid hp
  have Z4 := Lib.hid (Y4.out.trans hc (fun _ _ h => h))
  have L4 := Lib.hid (show w.heap.size + 1 < y3.heap.size from by have := ZB.out; have := D4.out.size; omega)
  clear hp hc
  have D5 := C5
  have Y5 := Lib.hid (Chg.refl y4 Nothing)
  go_wp2_with fail
  refine (dqMake_Len y4 1 base room _ _ (D5.out.cell BB.out id) (D5.out.cell BR.out id)).mono ?_
  rintro e y5 ⟨t5, a5, l5, c5, rfl, hp, hc⟩
  have C6 := Lib.hid (D5.out.trans hc (fun _ _ h => h))
  have P5 := Lib.hid hp
  have Z5 := Lib.hid (Y5.out.trans hc (fun _ _ h => h))
  have L5 := Lib.hid (show w.heap.size + 1 < y4.heap.size from by have := ZB.out; have := D5.out.size; omega)
  clear hp hc
  have D6 := C6
  have Y6 := Lib.hid (Chg.refl y5 Nothing)
  go_wp2_with fail
  refine (dqMake_All y5 1 base room _ _ (D6.out.cell BB.out id) (D6.out.cell BR.out id)).mono ?_
  rintro e y6 ⟨t6, a6, l6, c6, rfl, hp, hc⟩
  have C7 := Lib.hid (D6.out.trans hc (fun _ _ h => h))
  have P6 := Lib.hid hp
  have Z6 := Lib.hid (Y6.out.trans hc (fun _ _ h => h))
  have L6 := Lib.hid (show w.heap.size + 1 < y5.heap.size from by have := ZB.out; have := D6.out.size; omega)
  clear hp hc
  have hbs : y6.heap[w.heap.size + 1]? = some (.cells #[.int .i64 0, .slice none 0 0, .int .i64 0, .slice none 0 0, .int .i64 0, .slice none 0 0, .int .i64 0, .slice none 0 0, .int .i64 0, .slice none 0 0, .int .i64 0, .slice none 0 0, .int .i64 0, .slice none 0 0] 38 (0, 0)) := (C7.out.block _ (by rw [ZB.out]; omega) id).trans BZ.out
  have e0 : y6.cell? ⟨w.heap.size + 1, 0, none⟩ = some (.int .i64 0) := blk_cell hbs 0
  have f0 : y6.frozen? ⟨w.heap.size + 1, 0, none⟩ = false := blk_free hbs 0
  have e1 : y6.cell? ⟨w.heap.size + 1, 1, none⟩ = some (.slice none 0 0) := blk_cell hbs 1
  have f1 : y6.frozen? ⟨w.heap.size + 1, 1, none⟩ = false := blk_free hbs 1
  have e2 : y6.cell? ⟨w.heap.size + 1, 2, none⟩ = some (.int .i64 0) := blk_cell hbs 2
  have f2 : y6.frozen? ⟨w.heap.size + 1, 2, none⟩ = false := blk_free hbs 2
  have e3 : y6.cell? ⟨w.heap.size + 1, 3, none⟩ = some (.slice none 0 0) := blk_cell hbs 3
  have f3 : y6.frozen? ⟨w.heap.size + 1, 3, none⟩ = false := blk_free hbs 3
  have e4 : y6.cell? ⟨w.heap.size + 1, 4, none⟩ = some (.int .i64 0) := blk_cell hbs 4
  have f4 : y6.frozen? ⟨w.heap.size + 1, 4, none⟩ = false := blk_free hbs 4
  have e5 : y6.cell? ⟨w.heap.size + 1, 5, none⟩ = some (.slice none 0 0) := blk_cell hbs 5
  have f5 : y6.frozen? ⟨w.heap.size + 1, 5, none⟩ = false := blk_free hbs 5
  have e6 : y6.cell? ⟨w.heap.size + 1, 6, none⟩ = some (.int .i64 0) := blk_cell hbs 6
  have f6 : y6.frozen? ⟨w.heap.size + 1, 6, none⟩ = false := blk_free hbs 6
  have e7 : y6.cell? ⟨w.heap.size + 1, 7, none⟩ = some (.slice none 0 0) := blk_cell hbs 7
  have f7 : y6.frozen? ⟨w.heap.size + 1, 7, none⟩ = false := blk_free hbs 7
  have e8 : y6.cell? ⟨w.heap.size + 1, 8, none⟩ = some (.int .i64 0) := blk_cell hbs 8
  have f8 : y6.frozen? ⟨w.heap.size + 1, 8, none⟩ = false := blk_free hbs 8
  have e9 : y6.cell? ⟨w.heap.size + 1, 9, none⟩ = some (.slice none 0 0) := blk_cell hbs 9
  have f9 : y6.frozen? ⟨w.heap.size + 1, 9, none⟩ = false := blk_free hbs 9
  have e10 : y6.cell? ⟨w.heap.size + 1, 10, none⟩ = some (.int .i64 0) := blk_cell hbs 10
  have f10 : y6.frozen? ⟨w.heap.size + 1, 10, none⟩ = false := blk_free hbs 10
  have e11 : y6.cell? ⟨w.heap.size + 1, 11, none⟩ = some (.slice none 0 0) := blk_cell hbs 11
  have f11 : y6.frozen? ⟨w.heap.size + 1, 11, none⟩ = false := blk_free hbs 11
  have e12 : y6.cell? ⟨w.heap.size + 1, 12, none⟩ = some (.int .i64 0) := blk_cell hbs 12
  have f12 : y6.frozen? ⟨w.heap.size + 1, 12, none⟩ = false := blk_free hbs 12
  have e13 : y6.cell? ⟨w.heap.size + 1, 13, none⟩ = some (.slice none 0 0) := blk_cell hbs 13
  have f13 : y6.frozen? ⟨w.heap.size + 1, 13, none⟩ = false := blk_free hbs 13
  have BS := Lib.hid hbs
  clear hbs
  have T6 := Lib.hid (Chg.refl y6 Nothing)
  have T5 := Lib.hid (Z6.out.trans T6.out (fun _ _ h => h))
  have T4 := Lib.hid (Z5.out.trans T5.out (fun _ _ h => h))
  have T3 := Lib.hid (Z4.out.trans T4.out (fun _ _ h => h))
  have T2 := Lib.hid (Z3.out.trans T3.out (fun _ _ h => h))
  have T1 := Lib.hid (Z2.out.trans T2.out (fun _ _ h => h))
  have T0 := Lib.hid (Z1.out.trans T1.out (fun _ _ h => h))
  go_wp2_with fail
  have hfin := setAll_block (T := 38) (b := w.heap.size + 1) [.int .i64 t0, .slice a0 l0 c0, .int .i64 t1, .slice a1 l1 c1, .int .i64 t2, .slice a2 l2 c2, .int .i64 t3, .slice a3 l3 c3, .int .i64 t4, .slice a4 l4 c4, .int .i64 t5, .slice a5 l5 c5, .int .i64 t6, .slice a6 l6 c6] y6 [] [.int .i64 0, .slice none 0 0, .int .i64 0, .slice none 0 0, .int .i64 0, .slice none 0 0, .int .i64 0, .slice none 0 0, .int .i64 0, .slice none 0 0, .int .i64 0, .slice none 0 0, .int .i64 0, .slice none 0 0] BS.out rfl
  have cf : ∀ y, Chg y y6 Nothing → Chg y (setAll y6 (w.heap.size + 1) 0 [.int .i64 t0, .slice a0 l0 c0, .int .i64 t1, .slice a1 l1 c1, .int .i64 t2, .slice a2 l2 c2, .int .i64 t3, .slice a3 l3 c3, .int .i64 t4, .slice a4 l4 c4, .int .i64 t5, .slice a5 l5 c5, .int .i64 t6, .slice a6 l6 c6]) (fun k => k = w.heap.size + 1) := fun y hy => setAll_chg (S := fun k => k = w.heap.size + 1) _ (.inr rfl) _ _ _ (hy.mono (fun _ _ h => h.elim))
  have cw := setAll_chg (w.heap.size + 1) (.inl (by omega)) [.int .i64 t0, .slice a0 l0 c0, .int .i64 t1, .slice a1 l1 c1, .int .i64 t2, .slice a2 l2 c2, .int .i64 t3, .slice a3 l3 c3, .int .i64 t4, .slice a4 l4 c4, .int .i64 t5, .slice a5 l5 c5, .int .i64 t6, .slice a6 l6 c6] y6 0 (CB.out.trans C7.out (fun _ _ h => h))
  change bodyPost _ _ _ _ _ (setAll y6 (w.heap.size + 1) 0 [.int .i64 t0, .slice a0 l0 c0, .int .i64 t1, .slice a1 l1 c1, .int .i64 t2, .slice a2 l2 c2, .int .i64 t3, .slice a3 l3 c3, .int .i64 t4, .slice a4 l4 c4, .int .i64 t5, .slice a5 l5 c5, .int .i64 t6, .slice a6 l6 c6])
  have hfin : (setAll y6 (w.heap.size + 1) 0 [.int .i64 t0, .slice a0 l0 c0, .int .i64 t1, .slice a1 l1 c1, .int .i64 t2, .slice a2 l2 c2, .int .i64 t3, .slice a3 l3 c3, .int .i64 t4, .slice a4 l4 c4, .int .i64 t5, .slice a5 l5 c5, .int .i64 t6, .slice a6 l6 c6]).heap[w.heap.size + 1]? = some (.cells #[.int .i64 t0, .slice a0 l0 c0, .int .i64 t1, .slice a1 l1 c1, .int .i64 t2, .slice a2 l2 c2, .int .i64 t3, .slice a3 l3 c3, .int .i64 t4, .slice a4 l4 c4, .int .i64 t5, .slice a5 l5 c5, .int .i64 t6, .slice a6 l6 c6] 38 (0, 0)) := hfin
  generalize setAll y6 (w.heap.size + 1) 0 [.int .i64 t0, .slice a0 l0 c0, .int .i64 t1, .slice a1 l1 c1, .int .i64 t2, .slice a2 l2 c2, .int .i64 t3, .slice a3 l3 c3, .int .i64 t4, .slice a4 l4 c4, .int .i64 t5, .slice a5 l5 c5, .int .i64 t6, .slice a6 l6 c6] = wz at hfin cf cw ⊢
  refine bodyPost_ret (dqmk_results rfl rfl hfin) rfl ?_
  exact ⟨_, _, _, _, _, _, _, _, _, _, _, _, _, _, _, _, _, _, _, _, _, _, _, _, _, _, _, _, rfl, cw, (P0.out.far (cf _ T0.out) (fun k hk => by have := L0.out; omega)).low (by have := L0.out; omega), (P1.out.far (cf _ T1.out) (fun k hk => by have := L1.out; omega)).low (by have := L1.out; omega), (P2.out.far (cf _ T2.out) (fun k hk => by have := L2.out; omega)).low (by have := L2.out; omega), (P3.out.far (cf _ T3.out) (fun k hk => by have := L3.out; omega)).low (by have := L3.out; omega), (P4.out.far (cf _ T4.out) (fun k hk => by have := L4.out; omega)).low (by have := L4.out; omega), (P5.out.far (cf _ T5.out) (fun k hk => by have := L5.out; omega)).low (by have := L5.out; omega), (P6.out.far (cf _ T6.out) (fun k hk => by have := L6.out; omega)).low (by have := L6.out; omega)⟩
end Go.Proofs.YtgeapkalabijmaaGreat
