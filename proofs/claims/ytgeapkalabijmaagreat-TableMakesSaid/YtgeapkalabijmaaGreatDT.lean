/- A table's Make where it does not fit, and TableNumbers' walk. Printed by gen/bad.py. -/
import Derived.Test.YtgeapkalabijmaaGreatD9
namespace Go.Proofs.YtgeapkalabijmaaGreat
open Go Go.RowKit
set_option maxRecDepth 100000
set_option maxHeartbeats 1000000
set_option linter.unusedVariables false
set_option linter.unusedSimpArgs false

set_option maxRecDepth 100000 in
set_option maxHeartbeats 4000000 in
theorem tbmake_badA (w : World) (base cells room : Int) (hroom : tbRoom cells = room) (h1 : -9223372036854775808 ≤ cells) (h2 : cells < 9223372036854775808) (hz : room = 0) :
    Calls Tryz.prog 22 #[.int .i64 base, .int .i64 cells] w fun e w' => e = .returned (.tuple #[.agg #[.int .i64 0, .slice none 0 0, .int .i64 0, .slice none 0 0, .int .i64 0, .slice none 0 0, .int .i64 0, .slice none 0 0, .int .i64 0, .slice none 0 0], .int .i64 200]) ∧ Chg w w' Nothing := by
  have HZ := Lib.hid hroom
  have H1 := Lib.hid (And.intro h1 h2)
  have q0 : (room == 0) = true := by simp only [beq_iff_eq, beq_eq_false_iff_ne]; first | exact hz | omega
  clear hroom h1 h2 hz
  obtain ⟨wB, hwB⟩ : ∃ wB, wB = (w.alloc (.cells #[.int .i64 0, .slice none 0 0, .int .i64 0, .slice none 0 0, .int .i64 0, .slice none 0 0, .int .i64 0, .slice none 0 0, .int .i64 0, .slice none 0 0] 43)) := ⟨_, rfl⟩
  have CB := Lib.hid (show Chg w wB Nothing from by rw [hwB]; exact (Chg.refl _ _).alloc _)
  have BZ := Lib.hid (show wB.heap[w.heap.size]? = some (.cells #[.int .i64 0, .slice none 0 0, .int .i64 0, .slice none 0 0, .int .i64 0, .slice none 0 0, .int .i64 0, .slice none 0 0, .int .i64 0, .slice none 0 0] 43 (0, 0)) from by rw [hwB]; exact heap_alloc_new w _)
  have ZB := Lib.hid (show wB.heap.size = w.heap.size + 1 from by rw [hwB]; simp)
  have WB := Lib.hid hwB
  clear hwB
  go_enter Tryz.func22, Tryz.ntmps22
  go_upto_region 1 with fail
  rw [← WB.out]
  go_wp2_with fail
  refine (tbroom_any _ cells H1.out.1 H1.out.2).mono ?_
  rintro e w1 ⟨he, rfl⟩
  rw [HZ.out] at he
  subst he
  have hbs := BZ.out
  have e0 : w1.cell? ⟨w.heap.size, 0, none⟩ = some (.int .i64 0) := blk_cell hbs 0
  have f0 : w1.frozen? ⟨w.heap.size, 0, none⟩ = false := blk_free hbs 0
  have e1 : w1.cell? ⟨w.heap.size, 1, none⟩ = some (.slice none 0 0) := blk_cell hbs 1
  have f1 : w1.frozen? ⟨w.heap.size, 1, none⟩ = false := blk_free hbs 1
  have e2 : w1.cell? ⟨w.heap.size, 2, none⟩ = some (.int .i64 0) := blk_cell hbs 2
  have f2 : w1.frozen? ⟨w.heap.size, 2, none⟩ = false := blk_free hbs 2
  have e3 : w1.cell? ⟨w.heap.size, 3, none⟩ = some (.slice none 0 0) := blk_cell hbs 3
  have f3 : w1.frozen? ⟨w.heap.size, 3, none⟩ = false := blk_free hbs 3
  have e4 : w1.cell? ⟨w.heap.size, 4, none⟩ = some (.int .i64 0) := blk_cell hbs 4
  have f4 : w1.frozen? ⟨w.heap.size, 4, none⟩ = false := blk_free hbs 4
  have e5 : w1.cell? ⟨w.heap.size, 5, none⟩ = some (.slice none 0 0) := blk_cell hbs 5
  have f5 : w1.frozen? ⟨w.heap.size, 5, none⟩ = false := blk_free hbs 5
  have e6 : w1.cell? ⟨w.heap.size, 6, none⟩ = some (.int .i64 0) := blk_cell hbs 6
  have f6 : w1.frozen? ⟨w.heap.size, 6, none⟩ = false := blk_free hbs 6
  have e7 : w1.cell? ⟨w.heap.size, 7, none⟩ = some (.slice none 0 0) := blk_cell hbs 7
  have f7 : w1.frozen? ⟨w.heap.size, 7, none⟩ = false := blk_free hbs 7
  have e8 : w1.cell? ⟨w.heap.size, 8, none⟩ = some (.int .i64 0) := blk_cell hbs 8
  have f8 : w1.frozen? ⟨w.heap.size, 8, none⟩ = false := blk_free hbs 8
  have e9 : w1.cell? ⟨w.heap.size, 9, none⟩ = some (.slice none 0 0) := blk_cell hbs 9
  have f9 : w1.frozen? ⟨w.heap.size, 9, none⟩ = false := blk_free hbs 9
  have hlt : w.heap.size < w1.heap.size := by have := ZB.out; omega
  have hne : ¬ w.heap.size = w1.heap.size := by omega
  clear hbs
  go_wp2_with fail
  have hfin := setAll_block (T := 43) (b := w.heap.size) [.int .i64 0, .slice none 0 0, .int .i64 0, .slice none 0 0, .int .i64 0, .slice none 0 0, .int .i64 0, .slice none 0 0, .int .i64 0, .slice none 0 0] w1 [] [.int .i64 0, .slice none 0 0, .int .i64 0, .slice none 0 0, .int .i64 0, .slice none 0 0, .int .i64 0, .slice none 0 0, .int .i64 0, .slice none 0 0] BZ.out rfl
  have cw := setAll_chg (w.heap.size) (.inl (by omega)) [.int .i64 0, .slice none 0 0, .int .i64 0, .slice none 0 0, .int .i64 0, .slice none 0 0, .int .i64 0, .slice none 0 0, .int .i64 0, .slice none 0 0] w1 0 CB.out
  change bodyPost _ _ _ _ _ ((setAll w1 (w.heap.size) 0 [.int .i64 0, .slice none 0 0, .int .i64 0, .slice none 0 0, .int .i64 0, .slice none 0 0, .int .i64 0, .slice none 0 0, .int .i64 0, .slice none 0 0]))
  have hfin : (setAll w1 (w.heap.size) 0 [.int .i64 0, .slice none 0 0, .int .i64 0, .slice none 0 0, .int .i64 0, .slice none 0 0, .int .i64 0, .slice none 0 0, .int .i64 0, .slice none 0 0]).heap[w.heap.size]? = some (.cells #[.int .i64 0, .slice none 0 0, .int .i64 0, .slice none 0 0, .int .i64 0, .slice none 0 0, .int .i64 0, .slice none 0 0, .int .i64 0, .slice none 0 0] 43 (0, 0)) := hfin
  generalize setAll w1 (w.heap.size) 0 [.int .i64 0, .slice none 0 0, .int .i64 0, .slice none 0 0, .int .i64 0, .slice none 0 0, .int .i64 0, .slice none 0 0, .int .i64 0, .slice none 0 0] = wz at hfin cw ⊢
  refine bodyPost_ret (tbmk_results rfl rfl hfin) rfl ?_
  exact ⟨rfl, cw⟩
set_option maxRecDepth 100000 in
set_option maxHeartbeats 4000000 in
theorem tbmake_badB (w : World) (base cells room : Int) (hroom : tbRoom cells = room) (h1 : -9223372036854775808 ≤ cells) (h2 : cells < 9223372036854775808) (hz : room ≠ 0) (h3 : base < 0) :
    Calls Tryz.prog 22 #[.int .i64 base, .int .i64 cells] w fun e w' => e = .returned (.tuple #[.agg #[.int .i64 0, .slice none 0 0, .int .i64 0, .slice none 0 0, .int .i64 0, .slice none 0 0, .int .i64 0, .slice none 0 0, .int .i64 0, .slice none 0 0], .int .i64 200]) ∧ Chg w w' Nothing := by
  have HZ := Lib.hid hroom
  have H1 := Lib.hid (And.intro h1 h2)
  have q0 : (room == 0) = false := by simp only [beq_iff_eq, beq_eq_false_iff_ne]; first | exact hz | omega
  have q1 : decide (base < 0) = true := by exact decide_eq_true (by omega)
  clear hroom h1 h2 hz h3
  obtain ⟨wB, hwB⟩ : ∃ wB, wB = (w.alloc (.cells #[.int .i64 0, .slice none 0 0, .int .i64 0, .slice none 0 0, .int .i64 0, .slice none 0 0, .int .i64 0, .slice none 0 0, .int .i64 0, .slice none 0 0] 43)) := ⟨_, rfl⟩
  have CB := Lib.hid (show Chg w wB Nothing from by rw [hwB]; exact (Chg.refl _ _).alloc _)
  have BZ := Lib.hid (show wB.heap[w.heap.size]? = some (.cells #[.int .i64 0, .slice none 0 0, .int .i64 0, .slice none 0 0, .int .i64 0, .slice none 0 0, .int .i64 0, .slice none 0 0, .int .i64 0, .slice none 0 0] 43 (0, 0)) from by rw [hwB]; exact heap_alloc_new w _)
  have ZB := Lib.hid (show wB.heap.size = w.heap.size + 1 from by rw [hwB]; simp)
  have WB := Lib.hid hwB
  clear hwB
  go_enter Tryz.func22, Tryz.ntmps22
  go_upto_region 1 with fail
  rw [← WB.out]
  go_wp2_with fail
  refine (tbroom_any _ cells H1.out.1 H1.out.2).mono ?_
  rintro e w1 ⟨he, rfl⟩
  rw [HZ.out] at he
  subst he
  have hbs := BZ.out
  have e0 : w1.cell? ⟨w.heap.size, 0, none⟩ = some (.int .i64 0) := blk_cell hbs 0
  have f0 : w1.frozen? ⟨w.heap.size, 0, none⟩ = false := blk_free hbs 0
  have e1 : w1.cell? ⟨w.heap.size, 1, none⟩ = some (.slice none 0 0) := blk_cell hbs 1
  have f1 : w1.frozen? ⟨w.heap.size, 1, none⟩ = false := blk_free hbs 1
  have e2 : w1.cell? ⟨w.heap.size, 2, none⟩ = some (.int .i64 0) := blk_cell hbs 2
  have f2 : w1.frozen? ⟨w.heap.size, 2, none⟩ = false := blk_free hbs 2
  have e3 : w1.cell? ⟨w.heap.size, 3, none⟩ = some (.slice none 0 0) := blk_cell hbs 3
  have f3 : w1.frozen? ⟨w.heap.size, 3, none⟩ = false := blk_free hbs 3
  have e4 : w1.cell? ⟨w.heap.size, 4, none⟩ = some (.int .i64 0) := blk_cell hbs 4
  have f4 : w1.frozen? ⟨w.heap.size, 4, none⟩ = false := blk_free hbs 4
  have e5 : w1.cell? ⟨w.heap.size, 5, none⟩ = some (.slice none 0 0) := blk_cell hbs 5
  have f5 : w1.frozen? ⟨w.heap.size, 5, none⟩ = false := blk_free hbs 5
  have e6 : w1.cell? ⟨w.heap.size, 6, none⟩ = some (.int .i64 0) := blk_cell hbs 6
  have f6 : w1.frozen? ⟨w.heap.size, 6, none⟩ = false := blk_free hbs 6
  have e7 : w1.cell? ⟨w.heap.size, 7, none⟩ = some (.slice none 0 0) := blk_cell hbs 7
  have f7 : w1.frozen? ⟨w.heap.size, 7, none⟩ = false := blk_free hbs 7
  have e8 : w1.cell? ⟨w.heap.size, 8, none⟩ = some (.int .i64 0) := blk_cell hbs 8
  have f8 : w1.frozen? ⟨w.heap.size, 8, none⟩ = false := blk_free hbs 8
  have e9 : w1.cell? ⟨w.heap.size, 9, none⟩ = some (.slice none 0 0) := blk_cell hbs 9
  have f9 : w1.frozen? ⟨w.heap.size, 9, none⟩ = false := blk_free hbs 9
  have hlt : w.heap.size < w1.heap.size := by have := ZB.out; omega
  have hne : ¬ w.heap.size = w1.heap.size := by omega
  clear hbs
  go_wp2_with fail
  have hfin := setAll_block (T := 43) (b := w.heap.size) [.int .i64 0, .slice none 0 0, .int .i64 0, .slice none 0 0, .int .i64 0, .slice none 0 0, .int .i64 0, .slice none 0 0, .int .i64 0, .slice none 0 0] w1 [] [.int .i64 0, .slice none 0 0, .int .i64 0, .slice none 0 0, .int .i64 0, .slice none 0 0, .int .i64 0, .slice none 0 0, .int .i64 0, .slice none 0 0] BZ.out rfl
  have cw := setAll_chg (w.heap.size) (.inl (by omega)) [.int .i64 0, .slice none 0 0, .int .i64 0, .slice none 0 0, .int .i64 0, .slice none 0 0, .int .i64 0, .slice none 0 0, .int .i64 0, .slice none 0 0] w1 0 CB.out
  change bodyPost _ _ _ _ _ ((setAll w1 (w.heap.size) 0 [.int .i64 0, .slice none 0 0, .int .i64 0, .slice none 0 0, .int .i64 0, .slice none 0 0, .int .i64 0, .slice none 0 0, .int .i64 0, .slice none 0 0]))
  have hfin : (setAll w1 (w.heap.size) 0 [.int .i64 0, .slice none 0 0, .int .i64 0, .slice none 0 0, .int .i64 0, .slice none 0 0, .int .i64 0, .slice none 0 0, .int .i64 0, .slice none 0 0]).heap[w.heap.size]? = some (.cells #[.int .i64 0, .slice none 0 0, .int .i64 0, .slice none 0 0, .int .i64 0, .slice none 0 0, .int .i64 0, .slice none 0 0, .int .i64 0, .slice none 0 0] 43 (0, 0)) := hfin
  generalize setAll w1 (w.heap.size) 0 [.int .i64 0, .slice none 0 0, .int .i64 0, .slice none 0 0, .int .i64 0, .slice none 0 0, .int .i64 0, .slice none 0 0, .int .i64 0, .slice none 0 0] = wz at hfin cw ⊢
  refine bodyPost_ret (tbmk_results rfl rfl hfin) rfl ?_
  exact ⟨rfl, cw⟩
set_option maxRecDepth 100000 in
set_option maxHeartbeats 4000000 in
theorem tbmake_badC (w : World) (base cells room : Int) (hroom : tbRoom cells = room) (h1 : -9223372036854775808 ≤ cells) (h2 : cells < 9223372036854775808) (hz : room ≠ 0) (h3 : ¬ base < 0) (h4 : 256 < cells) :
    Calls Tryz.prog 22 #[.int .i64 base, .int .i64 cells] w fun e w' => e = .returned (.tuple #[.agg #[.int .i64 0, .slice none 0 0, .int .i64 0, .slice none 0 0, .int .i64 0, .slice none 0 0, .int .i64 0, .slice none 0 0, .int .i64 0, .slice none 0 0], .int .i64 200]) ∧ Chg w w' Nothing := by
  have HZ := Lib.hid hroom
  have H1 := Lib.hid (And.intro h1 h2)
  have q0 : (room == 0) = false := by simp only [beq_iff_eq, beq_eq_false_iff_ne]; first | exact hz | omega
  have q1 : decide (base < 0) = false := by exact decide_eq_false (by omega)
  have q2 : decide (256 < cells) = true := by exact decide_eq_true (by omega)
  clear hroom h1 h2 hz h3 h4
  obtain ⟨wB, hwB⟩ : ∃ wB, wB = (w.alloc (.cells #[.int .i64 0, .slice none 0 0, .int .i64 0, .slice none 0 0, .int .i64 0, .slice none 0 0, .int .i64 0, .slice none 0 0, .int .i64 0, .slice none 0 0] 43)) := ⟨_, rfl⟩
  have CB := Lib.hid (show Chg w wB Nothing from by rw [hwB]; exact (Chg.refl _ _).alloc _)
  have BZ := Lib.hid (show wB.heap[w.heap.size]? = some (.cells #[.int .i64 0, .slice none 0 0, .int .i64 0, .slice none 0 0, .int .i64 0, .slice none 0 0, .int .i64 0, .slice none 0 0, .int .i64 0, .slice none 0 0] 43 (0, 0)) from by rw [hwB]; exact heap_alloc_new w _)
  have ZB := Lib.hid (show wB.heap.size = w.heap.size + 1 from by rw [hwB]; simp)
  have WB := Lib.hid hwB
  clear hwB
  go_enter Tryz.func22, Tryz.ntmps22
  go_upto_region 1 with fail
  rw [← WB.out]
  go_wp2_with fail
  refine (tbroom_any _ cells H1.out.1 H1.out.2).mono ?_
  rintro e w1 ⟨he, rfl⟩
  rw [HZ.out] at he
  subst he
  have hbs := BZ.out
  have e0 : w1.cell? ⟨w.heap.size, 0, none⟩ = some (.int .i64 0) := blk_cell hbs 0
  have f0 : w1.frozen? ⟨w.heap.size, 0, none⟩ = false := blk_free hbs 0
  have e1 : w1.cell? ⟨w.heap.size, 1, none⟩ = some (.slice none 0 0) := blk_cell hbs 1
  have f1 : w1.frozen? ⟨w.heap.size, 1, none⟩ = false := blk_free hbs 1
  have e2 : w1.cell? ⟨w.heap.size, 2, none⟩ = some (.int .i64 0) := blk_cell hbs 2
  have f2 : w1.frozen? ⟨w.heap.size, 2, none⟩ = false := blk_free hbs 2
  have e3 : w1.cell? ⟨w.heap.size, 3, none⟩ = some (.slice none 0 0) := blk_cell hbs 3
  have f3 : w1.frozen? ⟨w.heap.size, 3, none⟩ = false := blk_free hbs 3
  have e4 : w1.cell? ⟨w.heap.size, 4, none⟩ = some (.int .i64 0) := blk_cell hbs 4
  have f4 : w1.frozen? ⟨w.heap.size, 4, none⟩ = false := blk_free hbs 4
  have e5 : w1.cell? ⟨w.heap.size, 5, none⟩ = some (.slice none 0 0) := blk_cell hbs 5
  have f5 : w1.frozen? ⟨w.heap.size, 5, none⟩ = false := blk_free hbs 5
  have e6 : w1.cell? ⟨w.heap.size, 6, none⟩ = some (.int .i64 0) := blk_cell hbs 6
  have f6 : w1.frozen? ⟨w.heap.size, 6, none⟩ = false := blk_free hbs 6
  have e7 : w1.cell? ⟨w.heap.size, 7, none⟩ = some (.slice none 0 0) := blk_cell hbs 7
  have f7 : w1.frozen? ⟨w.heap.size, 7, none⟩ = false := blk_free hbs 7
  have e8 : w1.cell? ⟨w.heap.size, 8, none⟩ = some (.int .i64 0) := blk_cell hbs 8
  have f8 : w1.frozen? ⟨w.heap.size, 8, none⟩ = false := blk_free hbs 8
  have e9 : w1.cell? ⟨w.heap.size, 9, none⟩ = some (.slice none 0 0) := blk_cell hbs 9
  have f9 : w1.frozen? ⟨w.heap.size, 9, none⟩ = false := blk_free hbs 9
  have hlt : w.heap.size < w1.heap.size := by have := ZB.out; omega
  have hne : ¬ w.heap.size = w1.heap.size := by omega
  clear hbs
  go_wp2_with fail
  have hfin := setAll_block (T := 43) (b := w.heap.size) [.int .i64 0, .slice none 0 0, .int .i64 0, .slice none 0 0, .int .i64 0, .slice none 0 0, .int .i64 0, .slice none 0 0, .int .i64 0, .slice none 0 0] w1 [] [.int .i64 0, .slice none 0 0, .int .i64 0, .slice none 0 0, .int .i64 0, .slice none 0 0, .int .i64 0, .slice none 0 0, .int .i64 0, .slice none 0 0] BZ.out rfl
  have cw := setAll_chg (w.heap.size) (.inl (by omega)) [.int .i64 0, .slice none 0 0, .int .i64 0, .slice none 0 0, .int .i64 0, .slice none 0 0, .int .i64 0, .slice none 0 0, .int .i64 0, .slice none 0 0] w1 0 CB.out
  change bodyPost _ _ _ _ _ ((setAll w1 (w.heap.size) 0 [.int .i64 0, .slice none 0 0, .int .i64 0, .slice none 0 0, .int .i64 0, .slice none 0 0, .int .i64 0, .slice none 0 0, .int .i64 0, .slice none 0 0]))
  have hfin : (setAll w1 (w.heap.size) 0 [.int .i64 0, .slice none 0 0, .int .i64 0, .slice none 0 0, .int .i64 0, .slice none 0 0, .int .i64 0, .slice none 0 0, .int .i64 0, .slice none 0 0]).heap[w.heap.size]? = some (.cells #[.int .i64 0, .slice none 0 0, .int .i64 0, .slice none 0 0, .int .i64 0, .slice none 0 0, .int .i64 0, .slice none 0 0, .int .i64 0, .slice none 0 0] 43 (0, 0)) := hfin
  generalize setAll w1 (w.heap.size) 0 [.int .i64 0, .slice none 0 0, .int .i64 0, .slice none 0 0, .int .i64 0, .slice none 0 0, .int .i64 0, .slice none 0 0, .int .i64 0, .slice none 0 0] = wz at hfin cw ⊢
  refine bodyPost_ret (tbmk_results rfl rfl hfin) rfl ?_
  exact ⟨rfl, cw⟩
set_option maxRecDepth 100000 in
set_option maxHeartbeats 4000000 in
theorem tbmake_badD (w : World) (base cells room : Int) (hroom : tbRoom cells = room) (h1 : -9223372036854775808 ≤ cells) (h2 : cells < 9223372036854775808) (hz : room ≠ 0) (h3 : ¬ base < 0) (h4 : ¬ 256 < cells) (h5 : 256 - cells < base) :
    Calls Tryz.prog 22 #[.int .i64 base, .int .i64 cells] w fun e w' => e = .returned (.tuple #[.agg #[.int .i64 0, .slice none 0 0, .int .i64 0, .slice none 0 0, .int .i64 0, .slice none 0 0, .int .i64 0, .slice none 0 0, .int .i64 0, .slice none 0 0], .int .i64 200]) ∧ Chg w w' Nothing := by
  have HZ := Lib.hid hroom
  have H1 := Lib.hid (And.intro h1 h2)
  have q0 : (room == 0) = false := by simp only [beq_iff_eq, beq_eq_false_iff_ne]; first | exact hz | omega
  have q1 : decide (base < 0) = false := by exact decide_eq_false (by omega)
  have q2 : decide (256 < cells) = false := by exact decide_eq_false (by omega)
  have q3 : decide (256 - cells < base) = true := by exact decide_eq_true (by omega)
  have q9 : wrap64 (256 - cells) = 256 - cells := IntWalk.wrap64_in _ ⟨by omega, by unfold tbRoom at hroom; split at hroom <;> omega⟩
  clear hroom h1 h2 hz h3 h4 h5
  obtain ⟨wB, hwB⟩ : ∃ wB, wB = (w.alloc (.cells #[.int .i64 0, .slice none 0 0, .int .i64 0, .slice none 0 0, .int .i64 0, .slice none 0 0, .int .i64 0, .slice none 0 0, .int .i64 0, .slice none 0 0] 43)) := ⟨_, rfl⟩
  have CB := Lib.hid (show Chg w wB Nothing from by rw [hwB]; exact (Chg.refl _ _).alloc _)
  have BZ := Lib.hid (show wB.heap[w.heap.size]? = some (.cells #[.int .i64 0, .slice none 0 0, .int .i64 0, .slice none 0 0, .int .i64 0, .slice none 0 0, .int .i64 0, .slice none 0 0, .int .i64 0, .slice none 0 0] 43 (0, 0)) from by rw [hwB]; exact heap_alloc_new w _)
  have ZB := Lib.hid (show wB.heap.size = w.heap.size + 1 from by rw [hwB]; simp)
  have WB := Lib.hid hwB
  clear hwB
  go_enter Tryz.func22, Tryz.ntmps22
  go_upto_region 1 with fail
  rw [← WB.out]
  go_wp2_with fail
  refine (tbroom_any _ cells H1.out.1 H1.out.2).mono ?_
  rintro e w1 ⟨he, rfl⟩
  rw [HZ.out] at he
  subst he
  have hbs := BZ.out
  have e0 : w1.cell? ⟨w.heap.size, 0, none⟩ = some (.int .i64 0) := blk_cell hbs 0
  have f0 : w1.frozen? ⟨w.heap.size, 0, none⟩ = false := blk_free hbs 0
  have e1 : w1.cell? ⟨w.heap.size, 1, none⟩ = some (.slice none 0 0) := blk_cell hbs 1
  have f1 : w1.frozen? ⟨w.heap.size, 1, none⟩ = false := blk_free hbs 1
  have e2 : w1.cell? ⟨w.heap.size, 2, none⟩ = some (.int .i64 0) := blk_cell hbs 2
  have f2 : w1.frozen? ⟨w.heap.size, 2, none⟩ = false := blk_free hbs 2
  have e3 : w1.cell? ⟨w.heap.size, 3, none⟩ = some (.slice none 0 0) := blk_cell hbs 3
  have f3 : w1.frozen? ⟨w.heap.size, 3, none⟩ = false := blk_free hbs 3
  have e4 : w1.cell? ⟨w.heap.size, 4, none⟩ = some (.int .i64 0) := blk_cell hbs 4
  have f4 : w1.frozen? ⟨w.heap.size, 4, none⟩ = false := blk_free hbs 4
  have e5 : w1.cell? ⟨w.heap.size, 5, none⟩ = some (.slice none 0 0) := blk_cell hbs 5
  have f5 : w1.frozen? ⟨w.heap.size, 5, none⟩ = false := blk_free hbs 5
  have e6 : w1.cell? ⟨w.heap.size, 6, none⟩ = some (.int .i64 0) := blk_cell hbs 6
  have f6 : w1.frozen? ⟨w.heap.size, 6, none⟩ = false := blk_free hbs 6
  have e7 : w1.cell? ⟨w.heap.size, 7, none⟩ = some (.slice none 0 0) := blk_cell hbs 7
  have f7 : w1.frozen? ⟨w.heap.size, 7, none⟩ = false := blk_free hbs 7
  have e8 : w1.cell? ⟨w.heap.size, 8, none⟩ = some (.int .i64 0) := blk_cell hbs 8
  have f8 : w1.frozen? ⟨w.heap.size, 8, none⟩ = false := blk_free hbs 8
  have e9 : w1.cell? ⟨w.heap.size, 9, none⟩ = some (.slice none 0 0) := blk_cell hbs 9
  have f9 : w1.frozen? ⟨w.heap.size, 9, none⟩ = false := blk_free hbs 9
  have hlt : w.heap.size < w1.heap.size := by have := ZB.out; omega
  have hne : ¬ w.heap.size = w1.heap.size := by omega
  clear hbs
  go_wp2_with fail
  have hfin := setAll_block (T := 43) (b := w.heap.size) [.int .i64 0, .slice none 0 0, .int .i64 0, .slice none 0 0, .int .i64 0, .slice none 0 0, .int .i64 0, .slice none 0 0, .int .i64 0, .slice none 0 0] w1 [] [.int .i64 0, .slice none 0 0, .int .i64 0, .slice none 0 0, .int .i64 0, .slice none 0 0, .int .i64 0, .slice none 0 0, .int .i64 0, .slice none 0 0] BZ.out rfl
  have cw := setAll_chg (w.heap.size) (.inl (by omega)) [.int .i64 0, .slice none 0 0, .int .i64 0, .slice none 0 0, .int .i64 0, .slice none 0 0, .int .i64 0, .slice none 0 0, .int .i64 0, .slice none 0 0] w1 0 CB.out
  change bodyPost _ _ _ _ _ ((setAll w1 (w.heap.size) 0 [.int .i64 0, .slice none 0 0, .int .i64 0, .slice none 0 0, .int .i64 0, .slice none 0 0, .int .i64 0, .slice none 0 0, .int .i64 0, .slice none 0 0]))
  have hfin : (setAll w1 (w.heap.size) 0 [.int .i64 0, .slice none 0 0, .int .i64 0, .slice none 0 0, .int .i64 0, .slice none 0 0, .int .i64 0, .slice none 0 0, .int .i64 0, .slice none 0 0]).heap[w.heap.size]? = some (.cells #[.int .i64 0, .slice none 0 0, .int .i64 0, .slice none 0 0, .int .i64 0, .slice none 0 0, .int .i64 0, .slice none 0 0, .int .i64 0, .slice none 0 0] 43 (0, 0)) := hfin
  generalize setAll w1 (w.heap.size) 0 [.int .i64 0, .slice none 0 0, .int .i64 0, .slice none 0 0, .int .i64 0, .slice none 0 0, .int .i64 0, .slice none 0 0, .int .i64 0, .slice none 0 0] = wz at hfin cw ⊢
  refine bodyPost_ret (tbmk_results rfl rfl hfin) rfl ?_
  exact ⟨rfl, cw⟩

end Go.Proofs.YtgeapkalabijmaaGreat
