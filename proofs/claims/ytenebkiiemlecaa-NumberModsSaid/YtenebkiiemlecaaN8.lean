/- Min, max, and the operations that compare. -/
import Derived.Test.YtenebkiiemlecaaN7
namespace Go.Proofs.Ytenebkiiemlecaa
open Go Go.RowKit
set_option linter.unusedVariables false
set_option linter.unusedSimpArgs false

theorem eqF_of_nan {b : Nat} (h : isNaN b = true) : eqF b b = false := by rw [eqF_self, h]; rfl
theorem eqF_of_num {b : Nat} (h : isNaN b = false) : eqF b b = true := by rw [eqF_self, h]; rfl


def leastW (a b : Nat) : Nat := if isNaN a then 9221120237041090561 else if isNaN b then 9221120237041090561 else if decide (0 < cmpC a b) then b else a
theorem least_any (a b : Nat) (w : World) : Calls Try.prog 65 #[fl a, fl b] w fun e w' => e = .returned (fl (leastW a b)) ∧ w = w' := by
  have HC := Lib.hid (show leastW a b = if isNaN a then 9221120237041090561 else if isNaN b then 9221120237041090561 else if decide (0 < cmpC a b) then b else a from rfl)
  cases h1 : isNaN a with
  | true =>
    rw [h1] at HC
    have e1 := eqF_of_nan h1
    go_enter Try.func65, Try.ntmps65
    go_wp2_with fail
    refine (nanf_any _).mono ?_
    rintro e w' ⟨rfl, rfl⟩
    go_wp2_with fail
    go_ret
    exact ⟨by rw [HC.out]; rfl, rfl⟩
  | false =>
    have e1 := eqF_of_num h1
    cases h2 : isNaN b with
    | true =>
      rw [h1, h2] at HC
      have e2 := eqF_of_nan h2
      go_enter Try.func65, Try.ntmps65
      go_wp2_with fail
      refine (nanf_any _).mono ?_
      rintro e w' ⟨rfl, rfl⟩
      go_wp2_with fail
      go_ret
      exact ⟨by rw [HC.out]; rfl, rfl⟩
    | false =>
      have e2 := eqF_of_num h2
      cases h3 : decide (0 < cmpC a b) with
      | true =>
        rw [h1, h2, h3] at HC
        go_enter Try.func65, Try.ntmps65
        go_wp2_with fail
        refine (compare_any _ _ _).mono ?_
        rintro e w' ⟨rfl, rfl⟩
        go_wp2_with fail
        go_ret
        exact ⟨by rw [HC.out]; rfl, rfl⟩
      | false =>
        rw [h1, h2, h3] at HC
        go_enter Try.func65, Try.ntmps65
        go_wp2_with fail
        refine (compare_any _ _ _).mono ?_
        rintro e w' ⟨rfl, rfl⟩
        go_wp2_with fail
        go_ret
        exact ⟨by rw [HC.out]; rfl, rfl⟩


def greatestW (a b : Nat) : Nat := if isNaN a then 9221120237041090561 else if isNaN b then 9221120237041090561 else if decide (cmpC a b < 0) then b else a
theorem greatest_any (a b : Nat) (w : World) : Calls Try.prog 66 #[fl a, fl b] w fun e w' => e = .returned (fl (greatestW a b)) ∧ w = w' := by
  have HC := Lib.hid (show greatestW a b = if isNaN a then 9221120237041090561 else if isNaN b then 9221120237041090561 else if decide (cmpC a b < 0) then b else a from rfl)
  cases h1 : isNaN a with
  | true =>
    rw [h1] at HC
    have e1 := eqF_of_nan h1
    go_enter Try.func66, Try.ntmps66
    go_wp2_with fail
    refine (nanf_any _).mono ?_
    rintro e w' ⟨rfl, rfl⟩
    go_wp2_with fail
    go_ret
    exact ⟨by rw [HC.out]; rfl, rfl⟩
  | false =>
    have e1 := eqF_of_num h1
    cases h2 : isNaN b with
    | true =>
      rw [h1, h2] at HC
      have e2 := eqF_of_nan h2
      go_enter Try.func66, Try.ntmps66
      go_wp2_with fail
      refine (nanf_any _).mono ?_
      rintro e w' ⟨rfl, rfl⟩
      go_wp2_with fail
      go_ret
      exact ⟨by rw [HC.out]; rfl, rfl⟩
    | false =>
      have e2 := eqF_of_num h2
      cases h3 : decide (cmpC a b < 0) with
      | true =>
        rw [h1, h2, h3] at HC
        go_enter Try.func66, Try.ntmps66
        go_wp2_with fail
        refine (compare_any _ _ _).mono ?_
        rintro e w' ⟨rfl, rfl⟩
        go_wp2_with fail
        go_ret
        exact ⟨by rw [HC.out]; rfl, rfl⟩
      | false =>
        rw [h1, h2, h3] at HC
        go_enter Try.func66, Try.ntmps66
        go_wp2_with fail
        refine (compare_any _ _ _).mono ?_
        rintro e w' ⟨rfl, rfl⟩
        go_wp2_with fail
        go_ret
        exact ⟨by rw [HC.out]; rfl, rfl⟩


theorem two5_any (a b : Nat) (w : World) : Calls Try.prog 67 #[fl a, fl b] w fun e w' => e = .returned (fl (yesW (ltF a b))) ∧ w = w' := by
  go_enter Try.func67, Try.ntmps67
  go_wp2_with fail
  refine (yes_any _ _).mono ?_
  rintro e w' ⟨rfl, rfl⟩
  go_wp2_with fail
  go_ret
  exact ⟨rfl, rfl⟩


theorem two6_any (a b : Nat) (w : World) : Calls Try.prog 68 #[fl a, fl b] w fun e w' => e = .returned (fl (yesW (ltF a b || eqF a b))) ∧ w = w' := by
  go_enter Try.func68, Try.ntmps68
  go_wp2_with fail
  refine (yes_any _ _).mono ?_
  rintro e w' ⟨rfl, rfl⟩
  go_wp2_with fail
  go_ret
  exact ⟨rfl, rfl⟩


theorem two7_any (a b : Nat) (w : World) : Calls Try.prog 69 #[fl a, fl b] w fun e w' => e = .returned (fl (yesW (eqF a b))) ∧ w = w' := by
  go_enter Try.func69, Try.ntmps69
  go_wp2_with fail
  refine (yes_any _ _).mono ?_
  rintro e w' ⟨rfl, rfl⟩
  go_wp2_with fail
  go_ret
  exact ⟨rfl, rfl⟩


theorem two8_any (a b : Nat) (w : World) : Calls Try.prog 70 #[fl a, fl b] w fun e w' => e = .returned (fl (yesW ((fixB a : Int) == (fixB b : Int)))) ∧ w = w' := by
  go_enter Try.func70, Try.ntmps70
  go_wp2_with fail
  refine (same_any _ _ _).mono ?_
  rintro e w' ⟨rfl, rfl⟩
  go_wp2_with fail
  refine (yes_any _ _).mono ?_
  rintro e w' ⟨rfl, rfl⟩
  go_wp2_with fail
  go_ret
  exact ⟨rfl, rfl⟩
theorem two9_any (a b : Nat) (w : World) : Calls Try.prog 71 #[fl a, fl b] w fun e w' => e = .returned (fl (yesW (decide (cmpC a b < 0)))) ∧ w = w' := by
  go_enter Try.func71, Try.ntmps71
  go_wp2_with fail
  refine (compare_any _ _ _).mono ?_
  rintro e w' ⟨rfl, rfl⟩
  go_wp2_with fail
  refine (yes_any _ _).mono ?_
  rintro e w' ⟨rfl, rfl⟩
  go_wp2_with fail
  go_ret
  exact ⟨rfl, rfl⟩

end Go.Proofs.Ytenebkiiemlecaa
