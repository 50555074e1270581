/- number.Two, operation by operation (but mod). -/
import Derived.Test.YtenebkiiemlecaaN8
import Derived.Deep.AppendLies
namespace Go.Proofs.Ytenebkiiemlecaa
open Go Go.RowKit
set_option linter.unusedVariables false
set_option linter.unusedSimpArgs false

/-- The table of the operations. -/
def twosT : Array Value := #[.nilFunc, .func (.func 60) #[] #[], .func (.func 61) #[] #[], .func (.func 62) #[] #[], .func (.func 63) #[] #[], .func (.func 64) #[] #[], .func (.func 65) #[] #[], .func (.func 66) #[] #[], .func (.func 67) #[] #[], .func (.func 68) #[] #[], .func (.func 69) #[] #[], .func (.func 70) #[] #[], .func (.func 71) #[] #[]]
theorem twos_any (w : World) : Calls Try.prog 44 #[] w fun e w' => e = .returned (.slice (some ⟨w.heap.size, 0, none⟩) 13 13) ∧ w' = w.alloc (.cells twosT 53) := by
  go_enter Try.func44, Try.ntmps44
  go_wp2
  go_ret
  exact ⟨rfl, rfl⟩
theorem twos_cell (w : World) (j : Nat) : (w.alloc (.cells twosT 53)).cell? ⟨w.heap.size, j, none⟩ = twosT[j]? := blk_cell (heap_alloc_new w _) j

theorem two_bad (op : Int) (x y : Nat) (w : World) (h : op < 1 ∨ 12 < op) : Calls Try.prog 17 #[.int .i64 op, fl x, fl y] w fun e w' => e = .returned (.tuple #[fl 0, .int .i64 1]) ∧ Chg w w' Nothing := by
  by_cases h1 : op < 1
  · have b1 : decide (op < 1) = true := decide_eq_true h1
    clear h h1
    go_enter Try.func17, Try.ntmps17
    go_wp2_with fail
    refine (twos_any _).mono ?_
    rintro e w' ⟨rfl, rfl⟩
    go_wp2_with fail
    go_ret2
    exact ⟨rfl, (Chg.refl _ _).alloc _⟩
  · have b1 : decide (op < 1) = false := decide_eq_false h1
    have b2 : decide (13 ≤ op) = true := decide_eq_true (by omega)
    clear h h1
    go_enter Try.func17, Try.ntmps17
    go_wp2_with fail
    refine (twos_any _).mono ?_
    rintro e w' ⟨rfl, rfl⟩
    go_wp2_with fail
    go_ret2
    exact ⟨rfl, (Chg.refl _ _).alloc _⟩


set_option maxHeartbeats 1000000 in
theorem two_1 (x y : Nat) (w : World) : Calls Try.prog 17 #[.int .i64 1, fl x, fl y] w fun e w' => e = .returned (.tuple #[fl (arV .add (fixB x) (fixB y)), .int .i64 0]) ∧ Chg w w' Nothing := by
  have hc : (w.alloc (.cells twosT 53)).cell? ⟨w.heap.size, 1, none⟩ = some (.func (.func 60) #[] #[]) := twos_cell w 1
  go_enter Try.func17, Try.ntmps17
  go_wp2_with fail
  refine (twos_any _).mono ?_
  rintro e w' ⟨rfl, rfl⟩
  go_wp2_with fail
  go_region_law (first | (go_simp; go_at_call 21; refine (fix_any _ _).mono ?_; rintro e w' ⟨rfl, rfl⟩) | (go_simp; go_at_call 60; refine (fadd_any _ _ _).mono ?_; rintro e w' ⟨r, rfl, hr, m, rfl⟩))
  all_goals
    go_wp2_with fail
    go_ret2
    exact ⟨by rw [← hr]; rfl, ((Chg.refl _ _).alloc _).drewN _⟩


set_option maxHeartbeats 1000000 in
theorem two_2 (x y : Nat) (w : World) : Calls Try.prog 17 #[.int .i64 2, fl x, fl y] w fun e w' => e = .returned (.tuple #[fl (arV .sub (fixB x) (fixB y)), .int .i64 0]) ∧ Chg w w' Nothing := by
  have hc : (w.alloc (.cells twosT 53)).cell? ⟨w.heap.size, 2, none⟩ = some (.func (.func 61) #[] #[]) := twos_cell w 2
  go_enter Try.func17, Try.ntmps17
  go_wp2_with fail
  refine (twos_any _).mono ?_
  rintro e w' ⟨rfl, rfl⟩
  go_wp2_with fail
  go_region_law (first | (go_simp; go_at_call 21; refine (fix_any _ _).mono ?_; rintro e w' ⟨rfl, rfl⟩) | (go_simp; go_at_call 61; refine (fsub_any _ _ _).mono ?_; rintro e w' ⟨r, rfl, hr, m, rfl⟩))
  all_goals
    go_wp2_with fail
    go_ret2
    exact ⟨by rw [← hr]; rfl, ((Chg.refl _ _).alloc _).drewN _⟩


set_option maxHeartbeats 1000000 in
theorem two_3 (x y : Nat) (w : World) : Calls Try.prog 17 #[.int .i64 3, fl x, fl y] w fun e w' => e = .returned (.tuple #[fl (arV .mul (fixB x) (fixB y)), .int .i64 0]) ∧ Chg w w' Nothing := by
  have hc : (w.alloc (.cells twosT 53)).cell? ⟨w.heap.size, 3, none⟩ = some (.func (.func 62) #[] #[]) := twos_cell w 3
  go_enter Try.func17, Try.ntmps17
  go_wp2_with fail
  refine (twos_any _).mono ?_
  rintro e w' ⟨rfl, rfl⟩
  go_wp2_with fail
  go_region_law (first | (go_simp; go_at_call 21; refine (fix_any _ _).mono ?_; rintro e w' ⟨rfl, rfl⟩) | (go_simp; go_at_call 62; refine (fmul_any _ _ _).mono ?_; rintro e w' ⟨r, rfl, hr, m, rfl⟩))
  all_goals
    go_wp2_with fail
    go_ret2
    exact ⟨by rw [← hr]; rfl, ((Chg.refl _ _).alloc _).drewN _⟩


set_option maxHeartbeats 1000000 in
theorem two_4 (x y : Nat) (w : World) : Calls Try.prog 17 #[.int .i64 4, fl x, fl y] w fun e w' => e = .returned (.tuple #[fl (arV .quo (fixB x) (fixB y)), .int .i64 0]) ∧ Chg w w' Nothing := by
  have hc : (w.alloc (.cells twosT 53)).cell? ⟨w.heap.size, 4, none⟩ = some (.func (.func 63) #[] #[]) := twos_cell w 4
  go_enter Try.func17, Try.ntmps17
  go_wp2_with fail
  refine (twos_any _).mono ?_
  rintro e w' ⟨rfl, rfl⟩
  go_wp2_with fail
  go_region_law (first | (go_simp; go_at_call 21; refine (fix_any _ _).mono ?_; rintro e w' ⟨rfl, rfl⟩) | (go_simp; go_at_call 63; refine (fquo_any _ _ _).mono ?_; rintro e w' ⟨r, rfl, hr, m, rfl⟩))
  all_goals
    go_wp2_with fail
    go_ret2
    exact ⟨by rw [← hr]; rfl, ((Chg.refl _ _).alloc _).drewN _⟩


set_option maxHeartbeats 1000000 in
theorem two_6 (x y : Nat) (w : World) : Calls Try.prog 17 #[.int .i64 6, fl x, fl y] w fun e w' => e = .returned (.tuple #[fl (fixB (leastW (fixB x) (fixB y))), .int .i64 0]) ∧ Chg w w' Nothing := by
  have hc : (w.alloc (.cells twosT 53)).cell? ⟨w.heap.size, 6, none⟩ = some (.func (.func 65) #[] #[]) := twos_cell w 6
  go_enter Try.func17, Try.ntmps17
  go_wp2_with fail
  refine (twos_any _).mono ?_
  rintro e w' ⟨rfl, rfl⟩
  go_wp2_with fail
  go_region_law (first | (go_simp; go_at_call 21; refine (fix_any _ _).mono ?_; rintro e w' ⟨rfl, rfl⟩) | (go_simp; go_at_call 65; refine (least_any _ _ _).mono ?_; rintro e w' ⟨rfl, rfl⟩))
  all_goals
    go_wp2_with fail
    go_ret2
    exact ⟨rfl, ((Chg.refl _ _).alloc _).drewN _⟩


set_option maxHeartbeats 1000000 in
theorem two_7 (x y : Nat) (w : World) : Calls Try.prog 17 #[.int .i64 7, fl x, fl y] w fun e w' => e = .returned (.tuple #[fl (fixB (greatestW (fixB x) (fixB y))), .int .i64 0]) ∧ Chg w w' Nothing := by
  have hc : (w.alloc (.cells twosT 53)).cell? ⟨w.heap.size, 7, none⟩ = some (.func (.func 66) #[] #[]) := twos_cell w 7
  go_enter Try.func17, Try.ntmps17
  go_wp2_with fail
  refine (twos_any _).mono ?_
  rintro e w' ⟨rfl, rfl⟩
  go_wp2_with fail
  go_region_law (first | (go_simp; go_at_call 21; refine (fix_any _ _).mono ?_; rintro e w' ⟨rfl, rfl⟩) | (go_simp; go_at_call 66; refine (greatest_any _ _ _).mono ?_; rintro e w' ⟨rfl, rfl⟩))
  all_goals
    go_wp2_with fail
    go_ret2
    exact ⟨rfl, ((Chg.refl _ _).alloc _).drewN _⟩


set_option maxHeartbeats 1000000 in
theorem two_8 (x y : Nat) (w : World) : Calls Try.prog 17 #[.int .i64 8, fl x, fl y] w fun e w' => e = .returned (.tuple #[fl (fixB (yesW (ltF (fixB x) (fixB y)))), .int .i64 0]) ∧ Chg w w' Nothing := by
  have hc : (w.alloc (.cells twosT 53)).cell? ⟨w.heap.size, 8, none⟩ = some (.func (.func 67) #[] #[]) := twos_cell w 8
  go_enter Try.func17, Try.ntmps17
  go_wp2_with fail
  refine (twos_any _).mono ?_
  rintro e w' ⟨rfl, rfl⟩
  go_wp2_with fail
  go_region_law (first | (go_simp; go_at_call 21; refine (fix_any _ _).mono ?_; rintro e w' ⟨rfl, rfl⟩) | (go_simp; go_at_call 67; refine (two5_any _ _ _).mono ?_; rintro e w' ⟨rfl, rfl⟩))
  all_goals
    go_wp2_with fail
    go_ret2
    exact ⟨rfl, ((Chg.refl _ _).alloc _).drewN _⟩


set_option maxHeartbeats 1000000 in
theorem two_9 (x y : Nat) (w : World) : Calls Try.prog 17 #[.int .i64 9, fl x, fl y] w fun e w' => e = .returned (.tuple #[fl (fixB (yesW (ltF (fixB x) (fixB y) || eqF (fixB x) (fixB y)))), .int .i64 0]) ∧ Chg w w' Nothing := by
  have hc : (w.alloc (.cells twosT 53)).cell? ⟨w.heap.size, 9, none⟩ = some (.func (.func 68) #[] #[]) := twos_cell w 9
  go_enter Try.func17, Try.ntmps17
  go_wp2_with fail
  refine (twos_any _).mono ?_
  rintro e w' ⟨rfl, rfl⟩
  go_wp2_with fail
  go_region_law (first | (go_simp; go_at_call 21; refine (fix_any _ _).mono ?_; rintro e w' ⟨rfl, rfl⟩) | (go_simp; go_at_call 68; refine (two6_any _ _ _).mono ?_; rintro e w' ⟨rfl, rfl⟩))
  all_goals
    go_wp2_with fail
    go_ret2
    exact ⟨rfl, ((Chg.refl _ _).alloc _).drewN _⟩


set_option maxHeartbeats 1000000 in
theorem two_10 (x y : Nat) (w : World) : Calls Try.prog 17 #[.int .i64 10, fl x, fl y] w fun e w' => e = .returned (.tuple #[fl (fixB (yesW (eqF (fixB x) (fixB y)))), .int .i64 0]) ∧ Chg w w' Nothing := by
  have hc : (w.alloc (.cells twosT 53)).cell? ⟨w.heap.size, 10, none⟩ = some (.func (.func 69) #[] #[]) := twos_cell w 10
  go_enter Try.func17, Try.ntmps17
  go_wp2_with fail
  refine (twos_any _).mono ?_
  rintro e w' ⟨rfl, rfl⟩
  go_wp2_with fail
  go_region_law (first | (go_simp; go_at_call 21; refine (fix_any _ _).mono ?_; rintro e w' ⟨rfl, rfl⟩) | (go_simp; go_at_call 69; refine (two7_any _ _ _).mono ?_; rintro e w' ⟨rfl, rfl⟩))
  all_goals
    go_wp2_with fail
    go_ret2
    exact ⟨rfl, ((Chg.refl _ _).alloc _).drewN _⟩


set_option maxHeartbeats 1000000 in
theorem two_11 (x y : Nat) (w : World) : Calls Try.prog 17 #[.int .i64 11, fl x, fl y] w fun e w' => e = .returned (.tuple #[fl (fixB (yesW ((fixB (fixB x) : Int) == (fixB (fixB y) : Int)))), .int .i64 0]) ∧ Chg w w' Nothing := by
  have hc : (w.alloc (.cells twosT 53)).cell? ⟨w.heap.size, 11, none⟩ = some (.func (.func 70) #[] #[]) := twos_cell w 11
  go_enter Try.func17, Try.ntmps17
  go_wp2_with fail
  refine (twos_any _).mono ?_
  rintro e w' ⟨rfl, rfl⟩
  go_wp2_with fail
  go_region_law (first | (go_simp; go_at_call 21; refine (fix_any _ _).mono ?_; rintro e w' ⟨rfl, rfl⟩) | (go_simp; go_at_call 70; refine (two8_any _ _ _).mono ?_; rintro e w' ⟨rfl, rfl⟩))
  all_goals
    go_wp2_with fail
    go_ret2
    exact ⟨rfl, ((Chg.refl _ _).alloc _).drewN _⟩


set_option maxHeartbeats 1000000 in
theorem two_12 (x y : Nat) (w : World) : Calls Try.prog 17 #[.int .i64 12, fl x, fl y] w fun e w' => e = .returned (.tuple #[fl (fixB (yesW (decide (cmpC (fixB x) (fixB y) < 0)))), .int .i64 0]) ∧ Chg w w' Nothing := by
  have hc : (w.alloc (.cells twosT 53)).cell? ⟨w.heap.size, 12, none⟩ = some (.func (.func 71) #[] #[]) := twos_cell w 12
  go_enter Try.func17, Try.ntmps17
  go_wp2_with fail
  refine (twos_any _).mono ?_
  rintro e w' ⟨rfl, rfl⟩
  go_wp2_with fail
  go_region_law (first | (go_simp; go_at_call 21; refine (fix_any _ _).mono ?_; rintro e w' ⟨rfl, rfl⟩) | (go_simp; go_at_call 71; refine (two9_any _ _ _).mono ?_; rintro e w' ⟨rfl, rfl⟩))
  all_goals
    go_wp2_with fail
    go_ret2
    exact ⟨rfl, ((Chg.refl _ _).alloc _).drewN _⟩


end Go.Proofs.Ytenebkiiemlecaa
