/- number.One, operation by operation. -/
import Derived.Test.YtenebkiiemlecaaN3
import Derived.Deep.AppendLies
namespace Go.Proofs.Ytenebkiiemlecaa
open Go Go.RowKit
set_option linter.unusedVariables false
set_option linter.unusedSimpArgs false

/-- The table of the operations. -/
def onesT : Array Value := #[.nilFunc, .func (.func 50) #[] #[], .func (.func 51) #[] #[], .func (.func 39) #[] #[], .func (.func 40) #[] #[], .func (.func 52) #[] #[], .func (.func 54) #[] #[], .func (.func 55) #[] #[], .func (.func 56) #[] #[]]
theorem ones_any (w : World) : Calls Try.prog 38 #[] w fun e w' => e = .returned (.slice (some ⟨w.heap.size, 0, none⟩) 9 9) ∧ w' = w.alloc (.cells onesT 35) := by
  go_enter Try.func38, Try.ntmps38
  go_wp2
  go_ret
  exact ⟨rfl, rfl⟩
theorem ones_cell (w : World) (j : Nat) : (w.alloc (.cells onesT 35)).cell? ⟨w.heap.size, j, none⟩ = onesT[j]? := blk_cell (heap_alloc_new w _) j

theorem one_bad (op : Int) (x : Nat) (w : World) (h : op < 1 ∨ 8 < op) : Calls Try.prog 13 #[.int .i64 op, fl x] w fun e w' => e = .returned (.tuple #[fl 0, .int .i64 1]) ∧ Chg w w' Nothing := by
  by_cases h1 : op < 1
  · have b1 : decide (op < 1) = true := decide_eq_true h1
    clear h h1
    go_enter Try.func13, Try.ntmps13
    go_wp2_with fail
    refine (ones_any _).mono ?_
    rintro e w' ⟨rfl, rfl⟩
    go_wp2_with fail
    go_ret2
    exact ⟨rfl, (Chg.refl _ _).alloc _⟩
  · have b1 : decide (op < 1) = false := decide_eq_false h1
    have b2 : decide (9 ≤ op) = true := decide_eq_true (by omega)
    clear h h1
    go_enter Try.func13, Try.ntmps13
    go_wp2_with fail
    refine (ones_any _).mono ?_
    rintro e w' ⟨rfl, rfl⟩
    go_wp2_with fail
    go_ret2
    exact ⟨rfl, (Chg.refl _ _).alloc _⟩


theorem one_1 (x : Nat) (w : World) : Calls Try.prog 13 #[.int .i64 1, fl x] w fun e w' => e = .returned (.tuple #[fl (fixB (Op.negFloat .f64 (fixB x))), .int .i64 0]) ∧ Chg w w' Nothing := by
  have hc : (w.alloc (.cells onesT 35)).cell? ⟨w.heap.size, 1, none⟩ = some (.func (.func 50) #[] #[]) := ones_cell w 1
  go_enter Try.func13, Try.ntmps13
  go_wp2_with fail
  refine (ones_any _).mono ?_
  rintro e w' ⟨rfl, rfl⟩
  go_wp2_with fail
  go_region_law (first | (go_simp; go_at_call 21; refine (fix_any _ _).mono ?_; rintro e w' ⟨rfl, rfl⟩) | (go_simp; go_at_call 50; refine (neg_any _ _).mono ?_; rintro e w' ⟨rfl, rfl⟩))
  all_goals
    go_wp2_with fail
    go_ret2
    exact ⟨rfl, ((Chg.refl _ _).alloc _).drewN _⟩


theorem one_2 (x : Nat) (w : World) : Calls Try.prog 13 #[.int .i64 2, fl x] w fun e w' => e = .returned (.tuple #[fl (fixB (absW (fixB x))), .int .i64 0]) ∧ Chg w w' Nothing := by
  have hc : (w.alloc (.cells onesT 35)).cell? ⟨w.heap.size, 2, none⟩ = some (.func (.func 51) #[] #[]) := ones_cell w 2
  go_enter Try.func13, Try.ntmps13
  go_wp2_with fail
  refine (ones_any _).mono ?_
  rintro e w' ⟨rfl, rfl⟩
  go_wp2_with fail
  go_region_law (first | (go_simp; go_at_call 21; refine (fix_any _ _).mono ?_; rintro e w' ⟨rfl, rfl⟩) | (go_simp; go_at_call 51; refine (abs_any _ _).mono ?_; rintro e w' ⟨rfl, rfl⟩))
  all_goals
    go_wp2_with fail
    go_ret2
    exact ⟨rfl, ((Chg.refl _ _).alloc _).drewN _⟩


theorem one_3 (x : Nat) (w : World) : Calls Try.prog 13 #[.int .i64 3, fl x] w fun e w' => e = .returned (.tuple #[fl (wholeV .down (fixB x)), .int .i64 0]) ∧ Chg w w' Nothing := by
  have hc : (w.alloc (.cells onesT 35)).cell? ⟨w.heap.size, 3, none⟩ = some (.func (.func 39) #[] #[]) := ones_cell w 3
  go_enter Try.func13, Try.ntmps13
  go_wp2_with fail
  refine (ones_any _).mono ?_
  rintro e w' ⟨rfl, rfl⟩
  go_wp2_with fail
  go_region_law (first | (go_simp; go_at_call 21; refine (fix_any _ _).mono ?_; rintro e w' ⟨rfl, rfl⟩) | (go_simp; go_at_call 39; refine (floor_any _ _).mono ?_; rintro e w' ⟨r, rfl, hr, m, rfl⟩))
  all_goals
    go_wp2_with fail
    go_ret2
    exact ⟨by rw [← hr]; rfl, ((Chg.refl _ _).alloc _).drewN _⟩


theorem one_4 (x : Nat) (w : World) : Calls Try.prog 13 #[.int .i64 4, fl x] w fun e w' => e = .returned (.tuple #[fl (sqrtV (fixB x)), .int .i64 0]) ∧ Chg w w' Nothing := by
  have hc : (w.alloc (.cells onesT 35)).cell? ⟨w.heap.size, 4, none⟩ = some (.func (.func 40) #[] #[]) := ones_cell w 4
  go_enter Try.func13, Try.ntmps13
  go_wp2_with fail
  refine (ones_any _).mono ?_
  rintro e w' ⟨rfl, rfl⟩
  go_wp2_with fail
  go_region_law (first | (go_simp; go_at_call 21; refine (fix_any _ _).mono ?_; rintro e w' ⟨rfl, rfl⟩) | (go_simp; go_at_call 40; refine (sqrt_any _ _).mono ?_; rintro e w' ⟨r, rfl, hr, m, rfl⟩))
  all_goals
    go_wp2_with fail
    go_ret2
    exact ⟨by rw [← hr]; rfl, ((Chg.refl _ _).alloc _).drewN _⟩


theorem one_5 (x : Nat) (w : World) : Calls Try.prog 13 #[.int .i64 5, fl x] w fun e w' => e = .returned (.tuple #[fl (fixB (yesW (!trueB (fixB x)))), .int .i64 0]) ∧ Chg w w' Nothing := by
  have hc : (w.alloc (.cells onesT 35)).cell? ⟨w.heap.size, 5, none⟩ = some (.func (.func 52) #[] #[]) := ones_cell w 5
  go_enter Try.func13, Try.ntmps13
  go_wp2_with fail
  refine (ones_any _).mono ?_
  rintro e w' ⟨rfl, rfl⟩
  go_wp2_with fail
  go_region_law (first | (go_simp; go_at_call 21; refine (fix_any _ _).mono ?_; rintro e w' ⟨rfl, rfl⟩) | (go_simp; go_at_call 52; refine (not_any _ _).mono ?_; rintro e w' ⟨rfl, rfl⟩))
  all_goals
    go_wp2_with fail
    go_ret2
    exact ⟨rfl, ((Chg.refl _ _).alloc _).drewN _⟩


theorem one_6 (x : Nat) (w : World) : Calls Try.prog 13 #[.int .i64 6, fl x] w fun e w' => e = .returned (.tuple #[fl (fixB (yesW (isNaN (fixB x)))), .int .i64 0]) ∧ Chg w w' Nothing := by
  have hc : (w.alloc (.cells onesT 35)).cell? ⟨w.heap.size, 6, none⟩ = some (.func (.func 54) #[] #[]) := ones_cell w 6
  go_enter Try.func13, Try.ntmps13
  go_wp2_with fail
  refine (ones_any _).mono ?_
  rintro e w' ⟨rfl, rfl⟩
  go_wp2_with fail
  go_region_law (first | (go_simp; go_at_call 21; refine (fix_any _ _).mono ?_; rintro e w' ⟨rfl, rfl⟩) | (go_simp; go_at_call 54; refine (isnan_any _ _).mono ?_; rintro e w' ⟨rfl, rfl⟩))
  all_goals
    go_wp2_with fail
    go_ret2
    exact ⟨rfl, ((Chg.refl _ _).alloc _).drewN _⟩


theorem one_7 (x : Nat) (w : World) : Calls Try.prog 13 #[.int .i64 7, fl x] w fun e w' => e = .returned (.tuple #[fl (fixB (signW (fixB x))), .int .i64 0]) ∧ Chg w w' Nothing := by
  have hc : (w.alloc (.cells onesT 35)).cell? ⟨w.heap.size, 7, none⟩ = some (.func (.func 55) #[] #[]) := ones_cell w 7
  go_enter Try.func13, Try.ntmps13
  go_wp2_with fail
  refine (ones_any _).mono ?_
  rintro e w' ⟨rfl, rfl⟩
  go_wp2_with fail
  go_region_law (first | (go_simp; go_at_call 21; refine (fix_any _ _).mono ?_; rintro e w' ⟨rfl, rfl⟩) | (go_simp; go_at_call 55; refine (sign_any _ _).mono ?_; rintro e w' ⟨rfl, rfl⟩))
  all_goals
    go_wp2_with fail
    go_ret2
    exact ⟨rfl, ((Chg.refl _ _).alloc _).drewN _⟩


theorem one_8 (x : Nat) (w : World) : Calls Try.prog 13 #[.int .i64 8, fl x] w fun e w' => e = .returned (.tuple #[fl (fixB (floatOfInt .f64 (hashI (fixB (fixB x))))), .int .i64 0]) ∧ Chg w w' Nothing := by
  have hc : (w.alloc (.cells onesT 35)).cell? ⟨w.heap.size, 8, none⟩ = some (.func (.func 56) #[] #[]) := ones_cell w 8
  go_enter Try.func13, Try.ntmps13
  go_wp2_with fail
  refine (ones_any _).mono ?_
  rintro e w' ⟨rfl, rfl⟩
  go_wp2_with fail
  go_region_law (first | (go_simp; go_at_call 21; refine (fix_any _ _).mono ?_; rintro e w' ⟨rfl, rfl⟩) | (go_simp; go_at_call 56; refine (hash_any _ _).mono ?_; rintro e w' ⟨rfl, rfl⟩))
  all_goals
    go_wp2_with fail
    go_ret2
    exact ⟨rfl, ((Chg.refl _ _).alloc _).drewN _⟩


end Go.Proofs.Ytenebkiiemlecaa
