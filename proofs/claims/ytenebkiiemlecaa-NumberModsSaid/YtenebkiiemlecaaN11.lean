/- Two: both say alike (but mod). -/
import Derived.Test.YtenebkiiemlecaaN9
namespace Go.Proofs.Ytenebkiiemlecaa
open Go Go.RowKit
set_option linter.unusedVariables false
set_option linter.unusedSimpArgs false

theorem cmpC_fix (a b : Nat) : cmpC (fixB a) (fixB b) = cmpC a b := by unfold cmpC; rw [fixB_fix, fixB_fix]
theorem cmpC_three (a b : Nat) : cmpC a b = -1 ∨ cmpC a b = 0 ∨ cmpC a b = 1 := by
  unfold cmpC
  split
  · exact .inl rfl
  · split
    · exact .inr (.inr rfl)
    · exact .inr (.inl rfl)
theorem least_two {x y : Nat} (hx : x < 18446744073709551616) (hy : y < 18446744073709551616) : fixB (leastW (fixB x) (fixB y)) = fixB (firstW x y 1) := by
  unfold leastW firstW
  rw [isNaN_fix, isNaN_fix, cmpC_fix, ← cmp_two hx hy]
  cases h1 : isNaN x with
  | true => simp only [if_true]; decide
  | false =>
    cases h2 : isNaN y with
    | true => simp only [Bool.false_eq_true, if_true, if_false]; decide
    | false =>
      have hc : decide (0 < cmpC x y) = (cmpC x y == 1) := by
        rcases cmpC_three x y with h | h | h <;> rw [h] <;> decide
      rw [hc]
      simp only [Bool.false_eq_true, if_false]
      cases (cmpC x y == 1) with
      | true => simp only [if_true]; rw [fixB_fix]
      | false => simp only [Bool.false_eq_true, if_false]; rw [fixB_fix]
theorem greatest_two {x y : Nat} (hx : x < 18446744073709551616) (hy : y < 18446744073709551616) : fixB (greatestW (fixB x) (fixB y)) = fixB (firstW x y (-1)) := by
  unfold greatestW firstW
  rw [isNaN_fix, isNaN_fix, cmpC_fix, ← cmp_two hx hy]
  cases h1 : isNaN x with
  | true => simp only [if_true]; decide
  | false =>
    cases h2 : isNaN y with
    | true => simp only [Bool.false_eq_true, if_true, if_false]; decide
    | false =>
      have hc : decide (cmpC x y < 0) = (cmpC x y == -1) := by
        rcases cmpC_three x y with h | h | h <;> rw [h] <;> decide
      rw [hc]
      simp only [Bool.false_eq_true, if_false]
      cases (cmpC x y == -1) with
      | true => simp only [if_true]; rw [fixB_fix]
      | false => simp only [Bool.false_eq_true, if_false]; rw [fixB_fix]

/-- Reckoning doesn't see which NaN it is. -/
theorem ar_nan {op : BinOp} (hop : op = .add ∨ op = .sub ∨ op = .mul ∨ op = .quo) {a b : Nat} (h : isNaN a = true ∨ isNaN b = true) : floatBits op .f64 a b = none := by
  have key : ∀ {c : Nat}, isNaN c = true → ∃ s t, f64.read c = .nan s t := fun {c} hc => ⟨_, _, read_nan (by simpa [isNaN] using hc)⟩
  rcases h with h | h
  · obtain ⟨s, t, e⟩ := key h
    rcases hop with rfl | rfl | rfl | rfl
    · show (((f64.read a).sum (f64.read b)).map f64.write) = none; rw [e]; rfl
    · show (((f64.read a).sum (f64.read b).opposite).map f64.write) = none; rw [e]; rfl
    · show (((f64.read a).product (f64.read b)).map f64.write) = none; rw [e]; rfl
    · show (((f64.read a).quotient (f64.fractionBits + 2) (f64.read b)).map f64.write) = none; rw [e]; rfl
  · obtain ⟨s, t, e⟩ := key h
    rcases hop with rfl | rfl | rfl | rfl
    · show (((f64.read a).sum (f64.read b)).map f64.write) = none; rw [e]; cases f64.read a <;> rfl
    · show (((f64.read a).sum (f64.read b).opposite).map f64.write) = none; rw [e]; cases f64.read a <;> rfl
    · show (((f64.read a).product (f64.read b)).map f64.write) = none; rw [e]; cases f64.read a <;> rfl
    · show (((f64.read a).quotient (f64.fractionBits + 2) (f64.read b)).map f64.write) = none; rw [e]; cases f64.read a <;> rfl
theorem arV_fix {op : BinOp} (hop : op = .add ∨ op = .sub ∨ op = .mul ∨ op = .quo) (a b : Nat) : arV op (fixB a) (fixB b) = arV op a b := by
  unfold arV
  cases ha : isNaN a with
  | true => rw [ar_nan hop (.inl ha), ar_nan hop (.inl (by rw [isNaN_fix]; exact ha))]
  | false =>
    cases hb : isNaN b with
    | true => rw [ar_nan hop (.inr hb), ar_nan hop (.inr (by rw [isNaN_fix]; exact hb))]
    | false => rw [fixB_num ha, fixB_num hb]

end Go.Proofs.Ytenebkiiemlecaa
