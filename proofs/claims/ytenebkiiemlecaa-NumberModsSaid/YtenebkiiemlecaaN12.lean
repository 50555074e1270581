/- mod: the walks. -/
import Derived.Test.YtenebkiiemlecaaN10
import Derived.Test.YtenebkiiemlecaaN11
import Derived.Test.YtenebkiiemlecaaI2
namespace Go.Proofs.Ytenebkiiemlecaa
open Go Go.RowKit
set_option linter.unusedVariables false
set_option linter.unusedSimpArgs false

theorem wholeV_fixed (way : Ieee.Toward) (b : Nat) : fixB (wholeV way b) = wholeV way b := by
  unfold wholeV
  cases isNaN b with
  | true => simp only [if_true]; decide
  | false => simp only [Bool.false_eq_true, if_false]; exact fixB_fix _
theorem eqF_whole {way : Ieee.Toward} {x r : Nat} (h : fixB r = wholeV way x) : eqF x r = eqF x (wholeV way x) ∧ eqF r x = eqF (wholeV way x) x := by
  rw [← eqF_fix x r, ← eqF_fix r x, h, ← eqF_fix x (wholeV way x), ← eqF_fix (wholeV way x) x, wholeV_fixed]
  exact ⟨rfl, rfl⟩

/-- Is a number whole, from lo on and below 2^53? -/
def wholeB (x lo : Nat) : Bool := (ltF lo x || eqF x lo) && ltF x 4845873199050653696 && eqF x (wholeV .down x)
theorem whole_any (x lo : Nat) (w : World) : Calls Try.prog 72 #[fl x, fl lo] w fun e w' => e = .returned (.bool (wholeB x lo)) ∧ ∃ m, w' = w.drewN m := by
  have HC := Lib.hid (show wholeB x lo = ((ltF lo x || eqF x lo) && ltF x 4845873199050653696 && eqF x (wholeV .down x)) from rfl)
  cases h1 : (ltF lo x || eqF x lo) with
  | false =>
    rw [h1] at HC
    go_enter Try.func72, Try.ntmps72
    go_wp2_with fail
    go_ret
    exact ⟨by rw [HC.out]; rfl, 0, rfl⟩
  | true =>
    cases h2 : ltF x 4845873199050653696 with
    | false =>
      rw [h1, h2] at HC
      go_enter Try.func72, Try.ntmps72
      go_wp2_with fail
      go_ret
      exact ⟨by rw [HC.out]; rfl, 0, rfl⟩
    | true =>
      rw [h1, h2] at HC
      go_enter Try.func72, Try.ntmps72
      go_wp2_with fail
      refine (floor_any _ _).mono ?_
      rintro e w' ⟨r, rfl, hr, m, rfl⟩
      have HE := Lib.hid (eqF_whole hr).1
      clear hr
      go_wp2_with fail
      go_ret
      exact ⟨by rw [HC.out, ← HE.out]; rfl, m, rfl⟩

end Go.Proofs.Ytenebkiiemlecaa
