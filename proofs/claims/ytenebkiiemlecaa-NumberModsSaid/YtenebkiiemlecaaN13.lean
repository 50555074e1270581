/- mod: both say alike. -/
import Derived.Test.YtenebkiiemlecaaN12
namespace Go.Proofs.Ytenebkiiemlecaa
open Go Go.RowKit
set_option linter.unusedVariables false
set_option linter.unusedSimpArgs false

/-- A whole word from lo on and below 2^53, as a number. -/
theorem whole_facts {x lo : Nat} (h : wholeB x lo = true) (hlo : isNaN lo = false) (h0 : 0 ≤ sk lo) : isNaN x = false ∧ sk lo ≤ sk x ∧ sk x < 4845873199050653696 ∧ floatToIntVal .f64 x .i64 = some (wholeN x : Int) ∧ wholeN x < 9007199254740992 := by
  unfold wholeB at h
  simp only [Bool.and_eq_true, Bool.or_eq_true] at h
  obtain ⟨⟨h1, h2⟩, h3⟩ := h
  have hn : isNaN x = false := by
    unfold ltF at h2
    simp only [Bool.and_eq_true, Bool.not_eq_true'] at h2
    exact h2.1.1
  have k2 : sk x < sk 4845873199050653696 := (ltF_iff hn (by decide)).1 h2
  have hk : sk 4845873199050653696 = 4845873199050653696 := by decide
  rw [hk] at k2
  have k1 : sk lo ≤ sk x := by
    rcases h1 with h1 | h1
    · have := (ltF_iff hlo hn).1 h1; omega
    · have := (eqF_iff hn hlo).1 h1; omega
  have hr : rungB x < 4845873199050653696 := by
    have e : sk x = if negB x then -(rungB x : Int) else (rungB x : Int) := rfl
    cases hneg : negB x with
    | true => rw [hneg, if_pos rfl] at e; omega
    | false => rw [hneg, if_neg (by decide)] at e; omega
  have hw := wholeN_lt hr _ units_53
  refine ⟨hn, k1, k2, ?_, hw⟩
  unfold floatToIntVal
  have ht := toInt_zero (b := x) (by omega)
  have hd : FloatKind.f64.decode x = f64.read x := rfl
  rw [hd, ht]
  have hv : (if negB x = true then -(wholeN x : Int) else (wholeN x : Int)) = wholeN x := by
    cases hneg : negB x with
    | true =>
      have : rungB x = 0 := by
        have e : sk x = if negB x then -(rungB x : Int) else (rungB x : Int) := rfl
        rw [hneg, if_pos rfl] at e; omega
      have hz : wholeN x = 0 := by unfold wholeN; rw [this, units_zero, Nat.zero_div]
      rw [hz]; rfl
    | false => rfl
  rw [hv]
  have m1 : IntKind.i64.min = -9223372036854775808 := by decide
  have m2 : IntKind.i64.max = 9223372036854775807 := by decide
  simp only [m1, m2]
  rw [if_pos (by omega)]

end Go.Proofs.Ytenebkiiemlecaa
