/- mod: the document's walk. -/
import Derived.Test.YtenebkiiemlecaaN13
namespace Go.Proofs.Ytenebkiiemlecaa
open Go Go.RowKit
set_option linter.unusedVariables false
set_option linter.unusedSimpArgs false

def oneW : Nat := 4607182418800017408
def modV (x y : Nat) : Nat := if wholeB x 0 then if wholeB y oneW then floatOfInt .f64 ((wholeN x : Int) % (wholeN y : Int)) else qn else qn
theorem one_facts : isNaN oneW = false ∧ sk oneW = 4607182418800017408 := by decide
theorem wholeN_one {y : Nat} (h : wholeB y oneW = true) : 1 ≤ wholeN y := by
  obtain ⟨h1, h2, h3, h4, h5⟩ := whole_facts h one_facts.1 (by rw [one_facts.2]; decide)
  rw [one_facts.2] at h2
  have hr : 4607182418800017408 ≤ rungB y := by
    have e : sk y = if negB y then -(rungB y : Int) else (rungB y : Int) := rfl
    cases hneg : negB y with
    | true => rw [hneg, if_pos rfl] at e; omega
    | false => rw [hneg, if_neg (by decide)] at e; omega
  exact wholeN_ge hr _ units_one

theorem rmod_any (x y : Nat) (w : World) : Calls Try.prog 45 #[fl x, fl y] w fun e w' => e = .returned (fl (modV x y)) ∧ ∃ m, w' = w.drewN m := by
  have HC := Lib.hid (show modV x y = if wholeB x 0 then if wholeB y oneW then floatOfInt .f64 ((wholeN x : Int) % (wholeN y : Int)) else qn else qn from rfl)
  have HQ := Lib.hid (show fixB (Int.toNat 9221120237041090560) = qn by decide)
  have W1 := Lib.hid (fun w => whole_any x 0 w)
  have W2 := Lib.hid (fun w => whole_any y oneW w)
  cases h1 : wholeB x 0 with
  | false =>
    rw [h1] at HC W1
    generalize wholeB y oneW = B at W2
    go_enter Try.func45, Try.ntmps45
    go_wp2_with fail
    refine (W1.out _).mono ?_
    rintro e w' ⟨rfl, m1, rfl⟩
    go_wp2_with fail
    refine (W2.out _).mono ?_
    rintro e w' ⟨rfl, m2, rfl⟩
    go_wp2_with fail
    refine (rof_any _ _).mono ?_
    rintro e w' ⟨rfl, rfl⟩
    rw [HQ.out]
    go_wp2_with fail
    go_ret
    exact ⟨by rw [HC.out]; rfl, _, rfl⟩
  | true =>
    cases h2 : wholeB y oneW with
    | false =>
      rw [h1, h2] at HC
      rw [h1] at W1
      rw [h2] at W2
      go_enter Try.func45, Try.ntmps45
      go_wp2_with fail
      refine (W1.out _).mono ?_
      rintro e w' ⟨rfl, m1, rfl⟩
      go_wp2_with fail
      refine (W2.out _).mono ?_
      rintro e w' ⟨rfl, m2, rfl⟩
      go_wp2_with fail
      refine (rof_any _ _).mono ?_
      rintro e w' ⟨rfl, rfl⟩
      rw [HQ.out]
      go_wp2_with fail
      go_ret
      exact ⟨by rw [HC.out]; rfl, _, rfl⟩
    | true =>
      obtain ⟨a1, a2, a3, a4, a5⟩ := whole_facts h1 (by decide) (by decide)
      obtain ⟨b1, b2, b3, b4, b5⟩ := whole_facts h2 one_facts.1 (by rw [one_facts.2]; decide)
      have b6 := wholeN_one h2
      have HC := Lib.hid (show modV x y = floatOfInt .f64 ((wholeN x : Int) % (wholeN y : Int)) from by rw [HC.out, h1, h2]; simp only [if_true])
      rw [h1] at W1
      rw [h2] at W2
      have cx : ∀ w, (convert 23 3 (.float .f64 x)).run Try.prog w = .ok (.int .i64 (wholeN x : Nat)) w := fun w => run_convert_float_int w _ _ _ _ _ _ (by rw [Try.underlying23]; rfl) Try.underlying3 a4
      have cy : ∀ w, (convert 23 3 (.float .f64 y)).run Try.prog w = .ok (.int .i64 (wholeN y : Nat)) w := fun w => run_convert_float_int w _ _ _ _ _ _ (by rw [Try.underlying23]; rfl) Try.underlying3 b4
      clear a1 a2 a3 a4 b1 b2 b3 b4
      generalize wholeN x = X at a5 cx HC
      generalize wholeN y = Y at b5 b6 cy HC
      have hy : ¬ (Y : Int) = 0 := by omega
      go_enter Try.func45, Try.ntmps45
      go_wp2_with fail
      refine (W1.out _).mono ?_
      rintro e w' ⟨rfl, m1, rfl⟩
      go_wp2_with fail
      refine (W2.out _).mono ?_
      rintro e w' ⟨rfl, m2, rfl⟩
      go_wp2_with fail
      go_ret
      exact ⟨by rw [HC.out]; rfl, _, rfl⟩

end Go.Proofs.Ytenebkiiemlecaa
