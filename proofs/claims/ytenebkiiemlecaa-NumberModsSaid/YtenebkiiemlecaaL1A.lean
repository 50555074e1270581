/- Layer 1's small helpers, and the laws that compare with the document's answer. -/
import Derived.Test.YtenebkiiemlecaaN16
namespace Go.Proofs.Ytenebkiiemlecaa
open Go Go.RowKit
set_option linter.unusedVariables false
set_option linter.unusedSimpArgs false

theorem nn {k : Nat} {w : World} : ∀ j, j < w.heap.size → Nothing j → Nothing j := fun _ _ h => h
theorem Chg.then {w w1 w2 : World} (h : Chg w w1 Nothing) (h' : Chg w1 w2 Nothing) : Chg w w2 Nothing := h.trans h' (fun _ _ h => h)

theorem live_add : twoV 1 4607182418800017408 4611686018427387904 = 4613937818241073152 := by rw [twoV_1]; decide +kernel
theorem live_neg : oneV 1 0 = 9223372036854775808 := by rw [oneV_1]; decide +kernel
theorem live_bad : oneE 0 = 1 := by decide
theorem live_eq : eqF 4613937818241073152 4613937818241073152 = true := by decide
theorem live_any (w : World) : Calls Try.prog 15 #[] w fun e w' => e = .returned (.bool true) ∧ Chg w w' Nothing := by
  have h0 := live_eq
  go_enter Try.func15, Try.ntmps15
  go_wp2_with fail
  refine (two_any _ _ _ _ (by decide) (by decide)).mono ?_
  rintro e w1 ⟨rfl, hc1⟩
  rw [live_add, twoE_1]
  go_wp2_with fail
  refine (one_any _ _ _).mono ?_
  rintro e w2 ⟨rfl, hc2⟩
  rw [live_neg, oneE_1]
  go_wp2_with fail
  refine (one_any _ _ _).mono ?_
  rintro e w3 ⟨rfl, hc3⟩
  rw [live_bad]
  generalize oneV 0 4607182418800017408 = Y
  go_wp2_with fail
  refine (raw_any _ _).mono ?_
  rintro e w4 ⟨rfl, rfl⟩
  go_wp2_with fail
  refine (exact_any _ _ _).mono ?_
  rintro e w4 ⟨rfl, rfl⟩
  go_wp2_with fail
  go_ret
  exact ⟨rfl, (hc1.then hc2).then hc3⟩

theorem lone_any (op : Int) (x : Nat) (w : World) : Calls Try.prog 20 #[.int .i64 op, fl x] w fun e w' => e = .returned (fl (oneV op x)) ∧ Chg w w' Nothing := by
  go_enter Try.func20, Try.ntmps20
  go_wp2_with fail
  refine (one_any _ _ _).mono ?_
  rintro e w1 ⟨rfl, hc1⟩
  go_wp2_with fail
  go_ret
  exact ⟨rfl, hc1⟩
theorem ltwo_any (op : Int) (x y : Nat) (w : World) (hx : x < 18446744073709551616) (hy : y < 18446744073709551616) : Calls Try.prog 19 #[.int .i64 op, fl x, fl y] w fun e w' => e = .returned (fl (twoV op x y)) ∧ Chg w w' Nothing := by
  go_enter Try.func19, Try.ntmps19
  go_wp2_with fail
  refine (two_any _ _ _ _ hx hy).mono ?_
  rintro e w1 ⟨rfl, hc1⟩
  go_wp2_with fail
  go_ret
  exact ⟨rfl, hc1⟩

theorem ones_walk (op : Int) (a : Nat) (w : World) (ha : a < 18446744073709551616) : Calls Try.prog 3 #[.int .i64 op, .int .u64 a] w fun e w' => e = .returned (.bool true) ∧ Chg w w' Nothing := by
  go_enter Try.func3, Try.ntmps3
  go_wp2_with fail
  refine (raw_any _ _).mono ?_
  rintro e w0 ⟨rfl, rfl⟩
  go_wp2_with fail
  refine (one_any _ _ _).mono ?_
  rintro e w1 ⟨rfl, hc1⟩
  go_wp2_with fail
  refine (rone_any _ _ _ ha).mono ?_
  rintro e w2 ⟨rfl, hc2⟩
  generalize oneV op a = Y
  generalize oneE op = E
  go_wp2_with fail
  refine (live_any _).mono ?_
  rintro e w3 ⟨rfl, hc3⟩
  go_wp2_with fail
  refine (exact_any _ _ _).mono ?_
  rintro e w4 ⟨rfl, rfl⟩
  go_wp2_with fail
  go_ret
  exact ⟨by simp, (hc1.then hc2).then hc3⟩
theorem twos_walk (op : Int) (a b : Nat) (w : World) (ha : a < 18446744073709551616) (hb : b < 18446744073709551616) : Calls Try.prog 4 #[.int .i64 op, .int .u64 a, .int .u64 b] w fun e w' => e = .returned (.bool true) ∧ Chg w w' Nothing := by
  go_enter Try.func4, Try.ntmps4
  go_wp2_with fail
  refine (raw_any _ _).mono ?_
  rintro e w0 ⟨rfl, rfl⟩
  go_wp2_with fail
  refine (raw_any _ _).mono ?_
  rintro e w0 ⟨rfl, rfl⟩
  go_wp2_with fail
  refine (two_any _ _ _ _ ha hb).mono ?_
  rintro e w1 ⟨rfl, hc1⟩
  go_wp2_with fail
  refine (raw_any _ _).mono ?_
  rintro e w0 ⟨rfl, rfl⟩
  go_wp2_with fail
  refine (raw_any _ _).mono ?_
  rintro e w0 ⟨rfl, rfl⟩
  go_wp2_with fail
  refine (rtwo_any _ _ _ _).mono ?_
  rintro e w2 ⟨rfl, hc2⟩
  generalize twoV op a b = Y
  generalize twoE op = E
  go_wp2_with fail
  refine (live_any _).mono ?_
  rintro e w3 ⟨rfl, hc3⟩
  go_wp2_with fail
  refine (exact_any _ _ _).mono ?_
  rintro e w4 ⟨rfl, rfl⟩
  go_wp2_with fail
  go_ret
  exact ⟨by simp, (hc1.then hc2).then hc3⟩

end Go.Proofs.Ytenebkiiemlecaa
