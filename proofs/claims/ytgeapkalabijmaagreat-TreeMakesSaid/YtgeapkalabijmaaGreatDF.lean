/- A tree's Make where it does not fit, and TreeNumbers' walk. Printed by gen/tree3.py. -/
import Derived.Test.YtgeapkalabijmaaGreatDE
namespace Go.Proofs.YtgeapkalabijmaaGreat
open Go Go.RowKit
set_option maxRecDepth 100000
set_option maxHeartbeats 1000000
set_option linter.unusedVariables false
set_option linter.unusedSimpArgs false

set_option maxRecDepth 100000 in
set_option maxHeartbeats 4000000 in
theorem trmake_badA (w : World) (base cells room : Int) (hroom : trRoom cells = room) (h1 : -9223372036854775808 ≤ cells) (h2 : cells < 9223372036854775808) (hz : room = 0) :
    Calls Tryz.prog 8 #[.int .i64 base, .int .i64 cells] w fun e w' => e = .returned (.tuple #[.agg #[.int .i64 0, .slice none 0 0, .int .i64 0, .slice none 0 0, .int .i64 0, .slice none 0 0, .int .i64 0, .slice none 0 0, .int .i64 0, .slice none 0 0, .int .i64 0, .slice none 0 0, .int .i64 0, .slice none 0 0], .int .i64 200]) ∧ Chg w w' Nothing := by
  have HZ := Lib.hid hroom
  have H1 := Lib.hid (And.intro h1 h2)
  have q0 : (room == 0) = true := by simp only [beq_iff_eq, beq_eq_false_iff_ne]; first | exact hz | omega
  clear hroom h1 h2 hz
  obtain ⟨wB, hwB⟩ : ∃ wB, wB = ((w.alloc (.cells #[.int .i64 base] 3)).alloc (.cells #[.int .i64 0, .slice none 0 0, .int .i64 0, .slice none 0 0, .int .i64 0, .slice none 0 0, .int .i64 0, .slice none 0 0, .int .i64 0, .slice none 0 0, .int .i64 0, .slice none 0 0, .int .i64 0, .slice none 0 0] 28)) := ⟨_, rfl⟩
  have CB := Lib.hid (show Chg w wB Nothing from by rw [hwB]; exact ((Chg.refl _ _).alloc _).alloc _)
  have BC := Lib.hid (show wB.cell? ⟨w.heap.size, 0, none⟩ = some (.int .i64 base) from by
    have hb : wB.heap[w.heap.size]? = some (.cells #[.int .i64 base] 3 (0, 0)) := by
      rw [hwB]
      exact (Below.heap_alloc _ _ _ (by simp)).trans (heap_alloc_new w _)
    exact blk_cell hb 0)
  have BZ := Lib.hid (show wB.heap[w.heap.size + 1]? = some (.cells #[.int .i64 0, .slice none 0 0, .int .i64 0, .slice none 0 0, .int .i64 0, .slice none 0 0, .int .i64 0, .slice none 0 0, .int .i64 0, .slice none 0 0, .int .i64 0, .slice none 0 0, .int .i64 0, .slice none 0 0] 28 (0, 0)) from by
    rw [hwB]
    have h2 := heap_alloc_new (w.alloc (.cells #[.int .i64 base] 3)) (.cells #[.int .i64 0, .slice none 0 0, .int .i64 0, .slice none 0 0, .int .i64 0, .slice none 0 0, .int .i64 0, .slice none 0 0, .int .i64 0, .slice none 0 0, .int .i64 0, .slice none 0 0, .int .i64 0, .slice none 0 0] 28)
    rw [show (w.alloc (.cells #[.int .i64 base] 3)).heap.size = w.heap.size + 1 by simp] at h2
    exact h2)
  have ZB := Lib.hid (show wB.heap.size = w.heap.size + 2 from by rw [hwB]; simp)
  have WB := Lib.hid hwB
  clear hwB
  go_enter Tryz.func8, Tryz.ntmps8
  go_upto_region 1 with fail
  rw [← WB.out]
  go_wp2_with fail
  refine (trroom_any _ cells H1.out.1 H1.out.2).mono ?_
  rintro e w1 ⟨he, rfl⟩
  rw [HZ.out] at he
  subst he
  have hbs := BZ.out
  have eb := BC.out
  have e0 : w1.cell? ⟨w.heap.size + 1, 0, none⟩ = some (.int .i64 0) := blk_cell hbs 0
  have f0 : w1.frozen? ⟨w.heap.size + 1, 0, none⟩ = false := blk_free hbs 0
  have e1 : w1.cell? ⟨w.heap.size + 1, 1, none⟩ = some (.slice none 0 0) := blk_cell hbs 1
  have f1 : w1.frozen? ⟨w.heap.size + 1, 1, none⟩ = false := blk_free hbs 1
  have e2 : w1.cell? ⟨w.heap.size + 1, 2, none⟩ = some (.int .i64 0) := blk_cell hbs 2
  have f2 : w1.frozen? ⟨w.heap.size + 1, 2, none⟩ = false := blk_free hbs 2
  have e3 : w1.cell? ⟨w.heap.size + 1, 3, none⟩ = some (.slice none 0 0) := blk_cell hbs 3
  have f3 : w1.frozen? ⟨w.heap.size + 1, 3, none⟩ = false := blk_free hbs 3
  have e4 : w1.cell? ⟨w.heap.size + 1, 4, none⟩ = some (.int .i64 0) := blk_cell hbs 4
  have f4 : w1.frozen? ⟨w.heap.size + 1, 4, none⟩ = false := blk_free hbs 4
  have e5 : w1.cell? ⟨w.heap.size + 1, 5, none⟩ = some (.slice none 0 0) := blk_cell hbs 5
  have f5 : w1.frozen? ⟨w.heap.size + 1, 5, none⟩ = false := blk_free hbs 5
  have e6 : w1.cell? ⟨w.heap.size + 1, 6, none⟩ = some (.int .i64 0) := blk_cell hbs 6
  have f6 : w1.frozen? ⟨w.heap.size + 1, 6, none⟩ = false := blk_free hbs 6
  have e7 : w1.cell? ⟨w.heap.size + 1, 7, none⟩ = some (.slice none 0 0) := blk_cell hbs 7
  have f7 : w1.frozen? ⟨w.heap.size + 1, 7, none⟩ = false := blk_free hbs 7
  have e8 : w1.cell? ⟨w.heap.size + 1, 8, none⟩ = some (.int .i64 0) := blk_cell hbs 8
  have f8 : w1.frozen? ⟨w.heap.size + 1, 8, none⟩ = false := blk_free hbs 8
  have e9 : w1.cell? ⟨w.heap.size + 1, 9, none⟩ = some (.slice none 0 0) := blk_cell hbs 9
  have f9 : w1.frozen? ⟨w.heap.size + 1, 9, none⟩ = false := blk_free hbs 9
  have e10 : w1.cell? ⟨w.heap.size + 1, 10, none⟩ = some (.int .i64 0) := blk_cell hbs 10
  have f10 : w1.frozen? ⟨w.heap.size + 1, 10, none⟩ = false := blk_free hbs 10
  have e11 : w1.cell? ⟨w.heap.size + 1, 11, none⟩ = some (.slice none 0 0) := blk_cell hbs 11
  have f11 : w1.frozen? ⟨w.heap.size + 1, 11, none⟩ = false := blk_free hbs 11
  have e12 : w1.cell? ⟨w.heap.size + 1, 12, none⟩ = some (.int .i64 0) := blk_cell hbs 12
  have f12 : w1.frozen? ⟨w.heap.size + 1, 12, none⟩ = false := blk_free hbs 12
  have e13 : w1.cell? ⟨w.heap.size + 1, 13, none⟩ = some (.slice none 0 0) := blk_cell hbs 13
  have f13 : w1.frozen? ⟨w.heap.size + 1, 13, none⟩ = false := blk_free hbs 13
  have hlt : w.heap.size + 1 < w1.heap.size := by have := ZB.out; omega
  have hne : ¬ w.heap.size + 1 = w1.heap.size := by omega
  have hlt0 : w.heap.size < w1.heap.size := by omega
  have hne0 : ¬ w.heap.size = w1.heap.size := by omega
  clear hbs
  go_wp2_with fail
  have hfin := setAll_block (T := 28) (b := w.heap.size + 1) [.int .i64 0, .slice none 0 0, .int .i64 0, .slice none 0 0, .int .i64 0, .slice none 0 0, .int .i64 0, .slice none 0 0, .int .i64 0, .slice none 0 0, .int .i64 0, .slice none 0 0, .int .i64 0, .slice none 0 0] w1 [] [.int .i64 0, .slice none 0 0, .int .i64 0, .slice none 0 0, .int .i64 0, .slice none 0 0, .int .i64 0, .slice none 0 0, .int .i64 0, .slice none 0 0, .int .i64 0, .slice none 0 0, .int .i64 0, .slice none 0 0] BZ.out rfl
  have cw := setAll_chg (w.heap.size + 1) (.inl (by omega)) [.int .i64 0, .slice none 0 0, .int .i64 0, .slice none 0 0, .int .i64 0, .slice none 0 0, .int .i64 0, .slice none 0 0, .int .i64 0, .slice none 0 0, .int .i64 0, .slice none 0 0, .int .i64 0, .slice none 0 0] w1 0 CB.out
  change bodyPost _ _ _ _ _ ((setAll w1 (w.heap.size + 1) 0 [.int .i64 0, .slice none 0 0, .int .i64 0, .slice none 0 0, .int .i64 0, .slice none 0 0, .int .i64 0, .slice none 0 0, .int .i64 0, .slice none 0 0, .int .i64 0, .slice none 0 0, .int .i64 0, .slice none 0 0]).alloc (.cells #[.int .i64 room] 3))
  have hfin : (setAll w1 (w.heap.size + 1) 0 [.int .i64 0, .slice none 0 0, .int .i64 0, .slice none 0 0, .int .i64 0, .slice none 0 0, .int .i64 0, .slice none 0 0, .int .i64 0, .slice none 0 0, .int .i64 0, .slice none 0 0, .int .i64 0, .slice none 0 0]).heap[w.heap.size + 1]? = some (.cells #[.int .i64 0, .slice none 0 0, .int .i64 0, .slice none 0 0, .int .i64 0, .slice none 0 0, .int .i64 0, .slice none 0 0, .int .i64 0, .slice none 0 0, .int .i64 0, .slice none 0 0, .int .i64 0, .slice none 0 0] 28 (0, 0)) := hfin
  generalize setAll w1 (w.heap.size + 1) 0 [.int .i64 0, .slice none 0 0, .int .i64 0, .slice none 0 0, .int .i64 0, .slice none 0 0, .int .i64 0, .slice none 0 0, .int .i64 0, .slice none 0 0, .int .i64 0, .slice none 0 0, .int .i64 0, .slice none 0 0] = wz at hfin cw ⊢
  refine bodyPost_ret (trmk_results rfl rfl ((Below.heap_alloc _ _ _ (Array.getElem?_eq_some_iff.1 hfin).1).trans hfin)) rfl ?_
  exact ⟨rfl, cw.alloc _⟩
set_option maxRecDepth 100000 in
set_option maxHeartbeats 4000000 in
theorem trmake_badB (w : World) (base cells room : Int) (hroom : trRoom cells = room) (h1 : -9223372036854775808 ≤ cells) (h2 : cells < 9223372036854775808) (hz : room ≠ 0) (h3 : base < 0) :
    Calls Tryz.prog 8 #[.int .i64 base, .int .i64 cells] w fun e w' => e = .returned (.tuple #[.agg #[.int .i64 0, .slice none 0 0, .int .i64 0, .slice none 0 0, .int .i64 0, .slice none 0 0, .int .i64 0, .slice none 0 0, .int .i64 0, .slice none 0 0, .int .i64 0, .slice none 0 0, .int .i64 0, .slice none 0 0], .int .i64 200]) ∧ Chg w w' Nothing := by
  have HZ := Lib.hid hroom
  have H1 := Lib.hid (And.intro h1 h2)
  have q0 : (room == 0) = false := by simp only [beq_iff_eq, beq_eq_false_iff_ne]; first | exact hz | omega
  have q1 : decide (base < 0) = true := by exact decide_eq_true (by omega)
  clear hroom h1 h2 hz h3
  obtain ⟨wB, hwB⟩ : ∃ wB, wB = ((w.alloc (.cells #[.int .i64 base] 3)).alloc (.cells #[.int .i64 0, .slice none 0 0, .int .i64 0, .slice none 0 0, .int .i64 0, .slice none 0 0, .int .i64 0, .slice none 0 0, .int .i64 0, .slice none 0 0, .int .i64 0, .slice none 0 0, .int .i64 0, .slice none 0 0] 28)) := ⟨_, rfl⟩
  have CB := Lib.hid (show Chg w wB Nothing from by rw [hwB]; exact ((Chg.refl _ _).alloc _).alloc _)
  have BC := Lib.hid (show wB.cell? ⟨w.heap.size, 0, none⟩ = some (.int .i64 base) from by
    have hb : wB.heap[w.heap.size]? = some (.cells #[.int .i64 base] 3 (0, 0)) := by
      rw [hwB]
      exact (Below.heap_alloc _ _ _ (by simp)).trans (heap_alloc_new w _)
    exact blk_cell hb 0)
  have BZ := Lib.hid (show wB.heap[w.heap.size + 1]? = some (.cells #[.int .i64 0, .slice none 0 0, .int .i64 0, .slice none 0 0, .int .i64 0, .slice none 0 0, .int .i64 0, .slice none 0 0, .int .i64 0, .slice none 0 0, .int .i64 0, .slice none 0 0, .int .i64 0, .slice none 0 0] 28 (0, 0)) from by
    rw [hwB]
    have h2 := heap_alloc_new (w.alloc (.cells #[.int .i64 base] 3)) (.cells #[.int .i64 0, .slice none 0 0, .int .i64 0, .slice none 0 0, .int .i64 0, .slice none 0 0, .int .i64 0, .slice none 0 0, .int .i64 0, .slice none 0 0, .int .i64 0, .slice none 0 0, .int .i64 0, .slice none 0 0] 28)
    rw [show (w.alloc (.cells #[.int .i64 base] 3)).heap.size = w.heap.size + 1 by simp] at h2
    exact h2)
  have ZB := Lib.hid (show wB.heap.size = w.heap.size + 2 from by rw [hwB]; simp)
  have WB := Lib.hid hwB
  clear hwB
  go_enter Tryz.func8, Tryz.ntmps8
  go_upto_region 1 with fail
  rw [← WB.out]
  go_wp2_with fail
  refine (trroom_any _ cells H1.out.1 H1.out.2).mono ?_
  rintro e w1 ⟨he, rfl⟩
  rw [HZ.out] at he
  subst he
  have hbs := BZ.out
  have eb := BC.out
  have e0 : w1.cell? ⟨w.heap.size + 1, 0, none⟩ = some (.int .i64 0) := blk_cell hbs 0
  have f0 : w1.frozen? ⟨w.heap.size + 1, 0, none⟩ = false := blk_free hbs 0
  have e1 : w1.cell? ⟨w.heap.size + 1, 1, none⟩ = some (.slice none 0 0) := blk_cell hbs 1
  have f1 : w1.frozen? ⟨w.heap.size + 1, 1, none⟩ = false := blk_free hbs 1
  have e2 : w1.cell? ⟨w.heap.size + 1, 2, none⟩ = some (.int .i64 0) := blk_cell hbs 2
  have f2 : w1.frozen? ⟨w.heap.size + 1, 2, none⟩ = false := blk_free hbs 2
  have e3 : w1.cell? ⟨w.heap.size + 1, 3, none⟩ = some (.slice none 0 0) := blk_cell hbs 3
  have f3 : w1.frozen? ⟨w.heap.size + 1, 3, none⟩ = false := blk_free hbs 3
  have e4 : w1.cell? ⟨w.heap.size + 1, 4, none⟩ = some (.int .i64 0) := blk_cell hbs 4
  have f4 : w1.frozen? ⟨w.heap.size + 1, 4, none⟩ = false := blk_free hbs 4
  have e5 : w1.cell? ⟨w.heap.size + 1, 5, none⟩ = some (.slice none 0 0) := blk_cell hbs 5
  have f5 : w1.frozen? ⟨w.heap.size + 1, 5, none⟩ = false := blk_free hbs 5
  have e6 : w1.cell? ⟨w.heap.size + 1, 6, none⟩ = some (.int .i64 0) := blk_cell hbs 6
  have f6 : w1.frozen? ⟨w.heap.size + 1, 6, none⟩ = false := blk_free hbs 6
  have e7 : w1.cell? ⟨w.heap.size + 1, 7, none⟩ = some (.slice none 0 0) := blk_cell hbs 7
  have f7 : w1.frozen? ⟨w.heap.size + 1, 7, none⟩ = false := blk_free hbs 7
  have e8 : w1.cell? ⟨w.heap.size + 1, 8, none⟩ = some (.int .i64 0) := blk_cell hbs 8
  have f8 : w1.frozen? ⟨w.heap.size + 1, 8, none⟩ = false := blk_free hbs 8
  have e9 : w1.cell? ⟨w.heap.size + 1, 9, none⟩ = some (.slice none 0 0) := blk_cell hbs 9
  have f9 : w1.frozen? ⟨w.heap.size + 1, 9, none⟩ = false := blk_free hbs 9
  have e10 : w1.cell? ⟨w.heap.size + 1, 10, none⟩ = some (.int .i64 0) := blk_cell hbs 10
  have f10 : w1.frozen? ⟨w.heap.size + 1, 10, none⟩ = false := blk_free hbs 10
  have e11 : w1.cell? ⟨w.heap.size + 1, 11, none⟩ = some (.slice none 0 0) := blk_cell hbs 11
  have f11 : w1.frozen? ⟨w.heap.size + 1, 11, none⟩ = false := blk_free hbs 11
  have e12 : w1.cell? ⟨w.heap.size + 1, 12, none⟩ = some (.int .i64 0) := blk_cell hbs 12
  have f12 : w1.frozen? ⟨w.heap.size + 1, 12, none⟩ = false := blk_free hbs 12
  have e13 : w1.cell? ⟨w.heap.size + 1, 13, none⟩ = some (.slice none 0 0) := blk_cell hbs 13
  have f13 : w1.frozen? ⟨w.heap.size + 1, 13, none⟩ = false := blk_free hbs 13
  have hlt : w.heap.size + 1 < w1.heap.size := by have := ZB.out; omega
  have hne : ¬ w.heap.size + 1 = w1.heap.size := by omega
  have hlt0 : w.heap.size < w1.heap.size := by omega
  have hne0 : ¬ w.heap.size = w1.heap.size := by omega
  clear hbs
  go_wp2_with fail
  have hfin := setAll_block (T := 28) (b := w.heap.size + 1) [.int .i64 0, .slice none 0 0, .int .i64 0, .slice none 0 0, .int .i64 0, .slice none 0 0, .int .i64 0, .slice none 0 0, .int .i64 0, .slice none 0 0, .int .i64 0, .slice none 0 0, .int .i64 0, .slice none 0 0] w1 [] [.int .i64 0, .slice none 0 0, .int .i64 0, .slice none 0 0, .int .i64 0, .slice none 0 0, .int .i64 0, .slice none 0 0, .int .i64 0, .slice none 0 0, .int .i64 0, .slice none 0 0, .int .i64 0, .slice none 0 0] BZ.out rfl
  have cw := setAll_chg (w.heap.size + 1) (.inl (by omega)) [.int .i64 0, .slice none 0 0, .int .i64 0, .slice none 0 0, .int .i64 0, .slice none 0 0, .int .i64 0, .slice none 0 0, .int .i64 0, .slice none 0 0, .int .i64 0, .slice none 0 0, .int .i64 0, .slice none 0 0] w1 0 CB.out
  change bodyPost _ _ _ _ _ ((setAll w1 (w.heap.size + 1) 0 [.int .i64 0, .slice none 0 0, .int .i64 0, .slice none 0 0, .int .i64 0, .slice none 0 0, .int .i64 0, .slice none 0 0, .int .i64 0, .slice none 0 0, .int .i64 0, .slice none 0 0, .int .i64 0, .slice none 0 0]).alloc (.cells #[.int .i64 room] 3))
  have hfin : (setAll w1 (w.heap.size + 1) 0 [.int .i64 0, .slice none 0 0, .int .i64 0, .slice none 0 0, .int .i64 0, .slice none 0 0, .int .i64 0, .slice none 0 0, .int .i64 0, .slice none 0 0, .int .i64 0, .slice none 0 0, .int .i64 0, .slice none 0 0]).heap[w.heap.size + 1]? = some (.cells #[.int .i64 0, .slice none 0 0, .int .i64 0, .slice none 0 0, .int .i64 0, .slice none 0 0, .int .i64 0, .slice none 0 0, .int .i64 0, .slice none 0 0, .int .i64 0, .slice none 0 0, .int .i64 0, .slice none 0 0] 28 (0, 0)) := hfin
  generalize setAll w1 (w.heap.size + 1) 0 [.int .i64 0, .slice none 0 0, .int .i64 0, .slice none 0 0, .int .i64 0, .slice none 0 0, .int .i64 0, .slice none 0 0, .int .i64 0, .slice none 0 0, .int .i64 0, .slice none 0 0, .int .i64 0, .slice none 0 0] = wz at hfin cw ⊢
  refine bodyPost_ret (trmk_results rfl rfl ((Below.heap_alloc _ _ _ (Array.getElem?_eq_some_iff.1 hfin).1).trans hfin)) rfl ?_
  exact ⟨rfl, cw.alloc _⟩
set_option maxRecDepth 100000 in
set_option maxHeartbeats 4000000 in
theorem trmake_badC (w : World) (base cells room : Int) (hroom : trRoom cells = room) (h1 : -9223372036854775808 ≤ cells) (h2 : cells < 9223372036854775808) (hz : room ≠ 0) (h3 : ¬ base < 0) (h4 : 256 < cells) :
    Calls Tryz.prog 8 #[.int .i64 base, .int .i64 cells] w fun e w' => e = .returned (.tuple #[.agg #[.int .i64 0, .slice none 0 0, .int .i64 0, .slice none 0 0, .int .i64 0, .slice none 0 0, .int .i64 0, .slice none 0 0, .int .i64 0, .slice none 0 0, .int .i64 0, .slice none 0 0, .int .i64 0, .slice none 0 0], .int .i64 200]) ∧ Chg w w' Nothing := by
  have HZ := Lib.hid hroom
  have H1 := Lib.hid (And.intro h1 h2)
  have q0 : (room == 0) = false := by simp only [beq_iff_eq, beq_eq_false_iff_ne]; first | exact hz | omega
  have q1 : decide (base < 0) = false := by exact decide_eq_false (by omega)
  have q2 : decide (256 < cells) = true := by exact decide_eq_true (by omega)
  clear hroom h1 h2 hz h3 h4
  obtain ⟨wB, hwB⟩ : ∃ wB, wB = ((w.alloc (.cells #[.int .i64 base] 3)).alloc (.cells #[.int .i64 0, .slice none 0 0, .int .i64 0, .slice none 0 0, .int .i64 0, .slice none 0 0, .int .i64 0, .slice none 0 0, .int .i64 0, .slice none 0 0, .int .i64 0, .slice none 0 0, .int .i64 0, .slice none 0 0] 28)) := ⟨_, rfl⟩
  have CB := Lib.hid (show Chg w wB Nothing from by rw [hwB]; exact ((Chg.refl _ _).alloc _).alloc _)
  have BC := Lib.hid (show wB.cell? ⟨w.heap.size, 0, none⟩ = some (.int .i64 base) from by
    have hb : wB.heap[w.heap.size]? = some (.cells #[.int .i64 base] 3 (0, 0)) := by
      rw [hwB]
      exact (Below.heap_alloc _ _ _ (by simp)).trans (heap_alloc_new w _)
    exact blk_cell hb 0)
  have BZ := Lib.hid (show wB.heap[w.heap.size + 1]? = some (.cells #[.int .i64 0, .slice none 0 0, .int .i64 0, .slice none 0 0, .int .i64 0, .slice none 0 0, .int .i64 0, .slice none 0 0, .int .i64 0, .slice none 0 0, .int .i64 0, .slice none 0 0, .int .i64 0, .slice none 0 0] 28 (0, 0)) from by
    rw [hwB]
    have h2 := heap_alloc_new (w.alloc (.cells #[.int .i64 base] 3)) (.cells #[.int .i64 0, .slice none 0 0, .int .i64 0, .slice none 0 0, .int .i64 0, .slice none 0 0, .int .i64 0, .slice none 0 0, .int .i64 0, .slice none 0 0, .int .i64 0, .slice none 0 0, .int .i64 0, .slice none 0 0] 28)
    rw [show (w.alloc (.cells #[.int .i64 base] 3)).heap.size = w.heap.size + 1 by simp] at h2
    exact h2)
  have ZB := Lib.hid (show wB.heap.size = w.heap.size + 2 from by rw [hwB]; simp)
  have WB := Lib.hid hwB
  clear hwB
  go_enter Tryz.func8, Tryz.ntmps8
  go_upto_region 1 with fail
  rw [← WB.out]
  go_wp2_with fail
  refine (trroom_any _ cells H1.out.1 H1.out.2).mono ?_
  rintro e w1 ⟨he, rfl⟩
  rw [HZ.out] at he
  subst he
  have hbs := BZ.out
  have eb := BC.out
  have e0 : w1.cell? ⟨w.heap.size + 1, 0, none⟩ = some (.int .i64 0) := blk_cell hbs 0
  have f0 : w1.frozen? ⟨w.heap.size + 1, 0, none⟩ = false := blk_free hbs 0
  have e1 : w1.cell? ⟨w.heap.size + 1, 1, none⟩ = some (.slice none 0 0) := blk_cell hbs 1
  have f1 : w1.frozen? ⟨w.heap.size + 1, 1, none⟩ = false := blk_free hbs 1
  have e2 : w1.cell? ⟨w.heap.size + 1, 2, none⟩ = some (.int .i64 0) := blk_cell hbs 2
  have f2 : w1.frozen? ⟨w.heap.size + 1, 2, none⟩ = false := blk_free hbs 2
  have e3 : w1.cell? ⟨w.heap.size + 1, 3, none⟩ = some (.slice none 0 0) := blk_cell hbs 3
  have f3 : w1.frozen? ⟨w.heap.size + 1, 3, none⟩ = false := blk_free hbs 3
  have e4 : w1.cell? ⟨w.heap.size + 1, 4, none⟩ = some (.int .i64 0) := blk_cell hbs 4
  have f4 : w1.frozen? ⟨w.heap.size + 1, 4, none⟩ = false := blk_free hbs 4
  have e5 : w1.cell? ⟨w.heap.size + 1, 5, none⟩ = some (.slice none 0 0) := blk_cell hbs 5
  have f5 : w1.frozen? ⟨w.heap.size + 1, 5, none⟩ = false := blk_free hbs 5
  have e6 : w1.cell? ⟨w.heap.size + 1, 6, none⟩ = some (.int .i64 0) := blk_cell hbs 6
  have f6 : w1.frozen? ⟨w.heap.size + 1, 6, none⟩ = false := blk_free hbs 6
  have e7 : w1.cell? ⟨w.heap.size + 1, 7, none⟩ = some (.slice none 0 0) := blk_cell hbs 7
  have f7 : w1.frozen? ⟨w.heap.size + 1, 7, none⟩ = false := blk_free hbs 7
  have e8 : w1.cell? ⟨w.heap.size + 1, 8, none⟩ = some (.int .i64 0) := blk_cell hbs 8
  have f8 : w1.frozen? ⟨w.heap.size + 1, 8, none⟩ = false := blk_free hbs 8
  have e9 : w1.cell? ⟨w.heap.size + 1, 9, none⟩ = some (.slice none 0 0) := blk_cell hbs 9
  have f9 : w1.frozen? ⟨w.heap.size + 1, 9, none⟩ = false := blk_free hbs 9
  have e10 : w1.cell? ⟨w.heap.size + 1, 10, none⟩ = some (.int .i64 0) := blk_cell hbs 10
  have f10 : w1.frozen? ⟨w.heap.size + 1, 10, none⟩ = false := blk_free hbs 10
  have e11 : w1.cell? ⟨w.heap.size + 1, 11, none⟩ = some (.slice none 0 0) := blk_cell hbs 11
  have f11 : w1.frozen? ⟨w.heap.size + 1, 11, none⟩ = false := blk_free hbs 11
  have e12 : w1.cell? ⟨w.heap.size + 1, 12, none⟩ = some (.int .i64 0) := blk_cell hbs 12
  have f12 : w1.frozen? ⟨w.heap.size + 1, 12, none⟩ = false := blk_free hbs 12
  have e13 : w1.cell? ⟨w.heap.size + 1, 13, none⟩ = some (.slice none 0 0) := blk_cell hbs 13
  have f13 : w1.frozen? ⟨w.heap.size + 1, 13, none⟩ = false := blk_free hbs 13
  have hlt : w.heap.size + 1 < w1.heap.size := by have := ZB.out; omega
  have hne : ¬ w.heap.size + 1 = w1.heap.size := by omega
  have hlt0 : w.heap.size < w1.heap.size := by omega
  have hne0 : ¬ w.heap.size = w1.heap.size := by omega
  clear hbs
  go_wp2_with fail
  have hfin := setAll_block (T := 28) (b := w.heap.size + 1) [.int .i64 0, .slice none 0 0, .int .i64 0, .slice none 0 0, .int .i64 0, .slice none 0 0, .int .i64 0, .slice none 0 0, .int .i64 0, .slice none 0 0, .int .i64 0, .slice none 0 0, .int .i64 0, .slice none 0 0] w1 [] [.int .i64 0, .slice none 0 0, .int .i64 0, .slice none 0 0, .int .i64 0, .slice none 0 0, .int .i64 0, .slice none 0 0, .int .i64 0, .slice none 0 0, .int .i64 0, .slice none 0 0, .int .i64 0, .slice none 0 0] BZ.out rfl
  have cw := setAll_chg (w.heap.size + 1) (.inl (by omega)) [.int .i64 0, .slice none 0 0, .int .i64 0, .slice none 0 0, .int .i64 0, .slice none 0 0, .int .i64 0, .slice none 0 0, .int .i64 0, .slice none 0 0, .int .i64 0, .slice none 0 0, .int .i64 0, .slice none 0 0] w1 0 CB.out
  change bodyPost _ _ _ _ _ ((setAll w1 (w.heap.size + 1) 0 [.int .i64 0, .slice none 0 0, .int .i64 0, .slice none 0 0, .int .i64 0, .slice none 0 0, .int .i64 0, .slice none 0 0, .int .i64 0, .slice none 0 0, .int .i64 0, .slice none 0 0, .int .i64 0, .slice none 0 0]).alloc (.cells #[.int .i64 room] 3))
  have hfin : (setAll w1 (w.heap.size + 1) 0 [.int .i64 0, .slice none 0 0, .int .i64 0, .slice none 0 0, .int .i64 0, .slice none 0 0, .int .i64 0, .slice none 0 0, .int .i64 0, .slice none 0 0, .int .i64 0, .slice none 0 0, .int .i64 0, .slice none 0 0]).heap[w.heap.size + 1]? = some (.cells #[.int .i64 0, .slice none 0 0, .int .i64 0, .slice none 0 0, .int .i64 0, .slice none 0 0, .int .i64 0, .slice none 0 0, .int .i64 0, .slice none 0 0, .int .i64 0, .slice none 0 0, .int .i64 0, .slice none 0 0] 28 (0, 0)) := hfin
  generalize setAll w1 (w.heap.size + 1) 0 [.int .i64 0, .slice none 0 0, .int .i64 0, .slice none 0 0, .int .i64 0, .slice none 0 0, .int .i64 0, .slice none 0 0, .int .i64 0, .slice none 0 0, .int .i64 0, .slice none 0 0, .int .i64 0, .slice none 0 0] = wz at hfin cw ⊢
  refine bodyPost_ret (trmk_results rfl rfl ((Below.heap_alloc _ _ _ (Array.getElem?_eq_some_iff.1 hfin).1).trans hfin)) rfl ?_
  exact ⟨rfl, cw.alloc _⟩
set_option maxRecDepth 100000 in
set_option maxHeartbeats 4000000 in
theorem trmake_badD (w : World) (base cells room : Int) (hroom : trRoom cells = room) (h1 : -9223372036854775808 ≤ cells) (h2 : cells < 9223372036854775808) (hz : room ≠ 0) (h3 : ¬ base < 0) (h4 : ¬ 256 < cells) (h5 : 256 - cells < base) :
    Calls Tryz.prog 8 #[.int .i64 base, .int .i64 cells] w fun e w' => e = .returned (.tuple #[.agg #[.int .i64 0, .slice none 0 0, .int .i64 0, .slice none 0 0, .int .i64 0, .slice none 0 0, .int .i64 0, .slice none 0 0, .int .i64 0, .slice none 0 0, .int .i64 0, .slice none 0 0, .int .i64 0, .slice none 0 0], .int .i64 200]) ∧ Chg w w' Nothing := by
  have HZ := Lib.hid hroom
  have H1 := Lib.hid (And.intro h1 h2)
  have q0 : (room == 0) = false := by simp only [beq_iff_eq, beq_eq_false_iff_ne]; first | exact hz | omega
  have q1 : decide (base < 0) = false := by exact decide_eq_false (by omega)
  have q2 : decide (256 < cells) = false := by exact decide_eq_false (by omega)
  have q3 : decide (256 - cells < base) = true := by exact decide_eq_true (by omega)
  have q9 : wrap64 (256 - cells) = 256 - cells := IntWalk.wrap64_in _ ⟨by omega, by unfold trRoom at hroom; split at hroom <;> omega⟩
  clear hroom h1 h2 hz h3 h4 h5
  obtain ⟨wB, hwB⟩ : ∃ wB, wB = ((w.alloc (.cells #[.int .i64 base] 3)).alloc (.cells #[.int .i64 0, .slice none 0 0, .int .i64 0, .slice none 0 0, .int .i64 0, .slice none 0 0, .int .i64 0, .slice none 0 0, .int .i64 0, .slice none 0 0, .int .i64 0, .slice none 0 0, .int .i64 0, .slice none 0 0] 28)) := ⟨_, rfl⟩
  have CB := Lib.hid (show Chg w wB Nothing from by rw [hwB]; exact ((Chg.refl _ _).alloc _).alloc _)
  have BC := Lib.hid (show wB.cell? ⟨w.heap.size, 0, none⟩ = some (.int .i64 base) from by
    have hb : wB.heap[w.heap.size]? = some (.cells #[.int .i64 base] 3 (0, 0)) := by
      rw [hwB]
      exact (Below.heap_alloc _ _ _ (by simp)).trans (heap_alloc_new w _)
    exact blk_cell hb 0)
  have BZ := Lib.hid (show wB.heap[w.heap.size + 1]? = some (.cells #[.int .i64 0, .slice none 0 0, .int .i64 0, .slice none 0 0, .int .i64 0, .slice none 0 0, .int .i64 0, .slice none 0 0, .int .i64 0, .slice none 0 0, .int .i64 0, .slice none 0 0, .int .i64 0, .slice none 0 0] 28 (0, 0)) from by
    rw [hwB]
    have h2 := heap_alloc_new (w.alloc (.cells #[.int .i64 base] 3)) (.cells #[.int .i64 0, .slice none 0 0, .int .i64 0, .slice none 0 0, .int .i64 0, .slice none 0 0, .int .i64 0, .slice none 0 0, .int .i64 0, .slice none 0 0, .int .i64 0, .slice none 0 0, .int .i64 0, .slice none 0 0] 28)
    rw [show (w.alloc (.cells #[.int .i64 base] 3)).heap.size = w.heap.size + 1 by simp] at h2
    exact h2)
  have ZB := Lib.hid (show wB.heap.size = w.heap.size + 2 from by rw [hwB]; simp)
  have WB := Lib.hid hwB
  clear hwB
  go_enter Tryz.func8, Tryz.ntmps8
  go_upto_region 1 with fail
  rw [← WB.out]
  go_wp2_with fail
  refine (trroom_any _ cells H1.out.1 H1.out.2).mono ?_
  rintro e w1 ⟨he, rfl⟩
  rw [HZ.out] at he
  subst he
  have hbs := BZ.out
  have eb := BC.out
  have e0 : w1.cell? ⟨w.heap.size + 1, 0, none⟩ = some (.int .i64 0) := blk_cell hbs 0
  have f0 : w1.frozen? ⟨w.heap.size + 1, 0, none⟩ = false := blk_free hbs 0
  have e1 : w1.cell? ⟨w.heap.size + 1, 1, none⟩ = some (.slice none 0 0) := blk_cell hbs 1
  have f1 : w1.frozen? ⟨w.heap.size + 1, 1, none⟩ = false := blk_free hbs 1
  have e2 : w1.cell? ⟨w.heap.size + 1, 2, none⟩ = some (.int .i64 0) := blk_cell hbs 2
  have f2 : w1.frozen? ⟨w.heap.size + 1, 2, none⟩ = false := blk_free hbs 2
  have e3 : w1.cell? ⟨w.heap.size + 1, 3, none⟩ = some (.slice none 0 0) := blk_cell hbs 3
  have f3 : w1.frozen? ⟨w.heap.size + 1, 3, none⟩ = false := blk_free hbs 3
  have e4 : w1.cell? ⟨w.heap.size + 1, 4, none⟩ = some (.int .i64 0) := blk_cell hbs 4
  have f4 : w1.frozen? ⟨w.heap.size + 1, 4, none⟩ = false := blk_free hbs 4
  have e5 : w1.cell? ⟨w.heap.size + 1, 5, none⟩ = some (.slice none 0 0) := blk_cell hbs 5
  have f5 : w1.frozen? ⟨w.heap.size + 1, 5, none⟩ = false := blk_free hbs 5
  have e6 : w1.cell? ⟨w.heap.size + 1, 6, none⟩ = some (.int .i64 0) := blk_cell hbs 6
  have f6 : w1.frozen? ⟨w.heap.size + 1, 6, none⟩ = false := blk_free hbs 6
  have e7 : w1.cell? ⟨w.heap.size + 1, 7, none⟩ = some (.slice none 0 0) := blk_cell hbs 7
  have f7 : w1.frozen? ⟨w.heap.size + 1, 7, none⟩ = false := blk_free hbs 7
  have e8 : w1.cell? ⟨w.heap.size + 1, 8, none⟩ = some (.int .i64 0) := blk_cell hbs 8
  have f8 : w1.frozen? ⟨w.heap.size + 1, 8, none⟩ = false := blk_free hbs 8
  have e9 : w1.cell? ⟨w.heap.size + 1, 9, none⟩ = some (.slice none 0 0) := blk_cell hbs 9
  have f9 : w1.frozen? ⟨w.heap.size + 1, 9, none⟩ = false := blk_free hbs 9
  have e10 : w1.cell? ⟨w.heap.size + 1, 10, none⟩ = some (.int .i64 0) := blk_cell hbs 10
  have f10 : w1.frozen? ⟨w.heap.size + 1, 10, none⟩ = false := blk_free hbs 10
  have e11 : w1.cell? ⟨w.heap.size + 1, 11, none⟩ = some (.slice none 0 0) := blk_cell hbs 11
  have f11 : w1.frozen? ⟨w.heap.size + 1, 11, none⟩ = false := blk_free hbs 11
  have e12 : w1.cell? ⟨w.heap.size + 1, 12, none⟩ = some (.int .i64 0) := blk_cell hbs 12
  have f12 : w1.frozen? ⟨w.heap.size + 1, 12, none⟩ = false := blk_free hbs 12
  have e13 : w1.cell? ⟨w.heap.size + 1, 13, none⟩ = some (.slice none 0 0) := blk_cell hbs 13
  have f13 : w1.frozen? ⟨w.heap.size + 1, 13, none⟩ = false := blk_free hbs 13
  have hlt : w.heap.size + 1 < w1.heap.size := by have := ZB.out; omega
  have hne : ¬ w.heap.size + 1 = w1.heap.size := by omega
  have hlt0 : w.heap.size < w1.heap.size := by omega
  have hne0 : ¬ w.heap.size = w1.heap.size := by omega
  clear hbs
  go_wp2_with fail
  have hfin := setAll_block (T := 28) (b := w.heap.size + 1) [.int .i64 0, .slice none 0 0, .int .i64 0, .slice none 0 0, .int .i64 0, .slice none 0 0, .int .i64 0, .slice none 0 0, .int .i64 0, .slice none 0 0, .int .i64 0, .slice none 0 0, .int .i64 0, .slice none 0 0] w1 [] [.int .i64 0, .slice none 0 0, .int .i64 0, .slice none 0 0, .int .i64 0, .slice none 0 0, .int .i64 0, .slice none 0 0, .int .i64 0, .slice none 0 0, .int .i64 0, .slice none 0 0, .int .i64 0, .slice none 0 0] BZ.out rfl
  have cw := setAll_chg (w.heap.size + 1) (.inl (by omega)) [.int .i64 0, .slice none 0 0, .int .i64 0, .slice none 0 0, .int .i64 0, .slice none 0 0, .int .i64 0, .slice none 0 0, .int .i64 0, .slice none 0 0, .int .i64 0, .slice none 0 0, .int .i64 0, .slice none 0 0] w1 0 CB.out
  change bodyPost _ _ _ _ _ ((setAll w1 (w.heap.size + 1) 0 [.int .i64 0, .slice none 0 0, .int .i64 0, .slice none 0 0, .int .i64 0, .slice none 0 0, .int .i64 0, .slice none 0 0, .int .i64 0, .slice none 0 0, .int .i64 0, .slice none 0 0, .int .i64 0, .slice none 0 0]).alloc (.cells #[.int .i64 room] 3))
  have hfin : (setAll w1 (w.heap.size + 1) 0 [.int .i64 0, .slice none 0 0, .int .i64 0, .slice none 0 0, .int .i64 0, .slice none 0 0, .int .i64 0, .slice none 0 0, .int .i64 0, .slice none 0 0, .int .i64 0, .slice none 0 0, .int .i64 0, .slice none 0 0]).heap[w.heap.size + 1]? = some (.cells #[.int .i64 0, .slice none 0 0, .int .i64 0, .slice none 0 0, .int .i64 0, .slice none 0 0, .int .i64 0, .slice none 0 0, .int .i64 0, .slice none 0 0, .int .i64 0, .slice none 0 0, .int .i64 0, .slice none 0 0] 28 (0, 0)) := hfin
  generalize setAll w1 (w.heap.size + 1) 0 [.int .i64 0, .slice none 0 0, .int .i64 0, .slice none 0 0, .int .i64 0, .slice none 0 0, .int .i64 0, .slice none 0 0, .int .i64 0, .slice none 0 0, .int .i64 0, .slice none 0 0, .int .i64 0, .slice none 0 0] = wz at hfin cw ⊢
  refine bodyPost_ret (trmk_results rfl rfl ((Below.heap_alloc _ _ _ (Array.getElem?_eq_some_iff.1 hfin).1).trans hfin)) rfl ?_
  exact ⟨rfl, cw.alloc _⟩

end Go.Proofs.YtgeapkalabijmaaGreat
