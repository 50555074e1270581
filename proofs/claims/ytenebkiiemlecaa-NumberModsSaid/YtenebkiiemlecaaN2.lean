/- The plain laws of layer 1's words. -/
import Derived.Test.YtenebkiiemlecaaN1
namespace Go.Proofs.Ytenebkiiemlecaa
open Go Go.RowKit
set_option linter.unusedVariables false
set_option linter.unusedSimpArgs false

theorem xor_all {y : Nat} (h : y < 18446744073709551616) : 18446744073709551615 ^^^ y = 18446744073709551615 - y := by
  have h' : y < 2 ^ 64 := h
  have e : 18446744073709551615 - y = 2 ^ 64 - (y + 1) := by omega
  rw [e]
  refine Nat.eq_of_testBit_eq fun i => ?_
  rw [Nat.testBit_xor, Nat.testBit_two_pow_sub_succ h', show (18446744073709551615 : Nat) = 2 ^ 64 - 1 by rfl, Nat.testBit_two_pow_sub_one]
  by_cases hi : i < 64
  · simp [hi]
  · have : y.testBit i = false := Nat.testBit_lt_two_pow (Nat.lt_of_lt_of_le h' (Nat.pow_le_pow_right (by decide) (by omega)))
    simp [hi, this]
theorem or_high {y : Nat} (h : y < 9223372036854775808) : y ||| 9223372036854775808 = y + 9223372036854775808 := by
  have := Nat.two_pow_add_eq_or_of_lt (i := 63) (b := y) h 1
  rw [Nat.or_comm, show (9223372036854775808 : Nat) = 2 ^ 63 * 1 by rfl, ← this]
  omega
theorem xor_high {y : Nat} (h : y < 18446744073709551616) : y ^^^ 9223372036854775808 = if y < 9223372036854775808 then y + 9223372036854775808 else y - 9223372036854775808 := by
  have key : ∀ z, z < 9223372036854775808 → z ^^^ 9223372036854775808 = z + 9223372036854775808 := fun z hz => by
    rw [← or_high hz]
    refine Nat.eq_of_testBit_eq fun i => ?_
    rw [Nat.testBit_xor, Nat.testBit_or, show (9223372036854775808 : Nat) = 2 ^ 63 by rfl, Nat.testBit_two_pow]
    by_cases hi : 63 = i
    · subst hi
      have : z.testBit 63 = false := Nat.testBit_lt_two_pow hz
      simp [this]
    · simp [hi]
  by_cases hy : y < 9223372036854775808
  · rw [if_pos hy, key y hy]
  · rw [if_neg hy]
    obtain ⟨z, rfl⟩ : ∃ z, y = z + 9223372036854775808 := ⟨y - 9223372036854775808, by omega⟩
    rw [← key z (by omega), Nat.xor_assoc, Nat.xor_self, Nat.xor_zero, key z (by omega)]
    omega

/-- A word's sign and rung. -/
theorem word_split {y : Nat} (h : y < 18446744073709551616) : (negB y = true ∧ y = 9223372036854775808 + rungB y) ∨ (negB y = false ∧ y = rungB y) := by
  unfold negB rungB
  by_cases hy : y < 9223372036854775808
  · right
    have : y / 9223372036854775808 = 0 := Nat.div_eq_of_lt hy
    simp [this, Nat.mod_eq_of_lt hy]
  · left
    have : y / 9223372036854775808 = 1 := by omega
    simp [this]
    omega
/-- Its place among all words. -/
def tk (y : Nat) : Int := if negB y then -1 - (rungB y : Int) else rungB y
theorem keyI_eq {y : Nat} (h : y < 18446744073709551616) : keyI y = 9223372036854775808 + tk y := by
  unfold keyI tk
  rcases word_split h with ⟨h1, h2⟩ | ⟨h1, h2⟩
  · have hd : ((y : Int) / 9223372036854775808 == 1) = true := by
      have := rungB_lt y
      simp; omega
    rw [hd, if_pos rfl, h1, if_pos rfl]
    have : bits .xor .u64 IntKind.u64.max (y : Int) = ((18446744073709551615 ^^^ y : Nat) : Int) := bits_xor_u64_nat 18446744073709551615 y (by decide) h
    rw [this, xor_all h]
    omega
  · have hr := rungB_lt y
    have hd : ((y : Int) / 9223372036854775808 == 1) = false := by
      simp; omega
    rw [hd, h1]
    have : bits .or .u64 (y : Int) 9223372036854775808 = ((y ||| 9223372036854775808 : Nat) : Int) := bits_or_u64_nat y 9223372036854775808 h (by decide)
    rw [if_neg (by decide), if_neg (by decide), this, or_high (by omega)]
    omega

theorem cmpC_eq {a b : Nat} (ha : a < 18446744073709551616) (hb : b < 18446744073709551616) : cmpC a b = if tk (fixB a) < tk (fixB b) then -1 else if tk (fixB b) < tk (fixB a) then 1 else 0 := by
  unfold cmpC
  rw [keyI_eq (fixB_lt ha), keyI_eq (fixB_lt hb)]
  have e : ∀ x y : Int, (9223372036854775808 + x < 9223372036854775808 + y ↔ x < y) := fun x y => by omega
  simp only [e]

/-- What a word is: a NaN (the one), or not one. -/
theorem word_facts {b : Nat} (h : b < 18446744073709551616) : ∃ r : Nat, r < 9223372036854775808 ∧
    ((isNaN b = true ∧ tk (fixB b) = 9221120237041090560) ∨ (isNaN b = false ∧ r ≤ 9218868437227405312 ∧ ((negB b = true ∧ b = 9223372036854775808 + r ∧ sk b = -(r : Int) ∧ tk (fixB b) = -1 - (r : Int)) ∨ (negB b = false ∧ b = r ∧ sk b = r ∧ tk (fixB b) = r)))) := by
  refine ⟨rungB b, rungB_lt b, ?_⟩
  cases hn : isNaN b with
  | true => exact .inl ⟨rfl, by rw [fixB_nan hn]; decide⟩
  | false =>
    refine .inr ⟨rfl, by simpa [isNaN] using hn, ?_⟩
    rw [fixB_num hn]
    rcases word_split h with ⟨h1, h2⟩ | ⟨h1, h2⟩
    · exact .inl ⟨h1, h2, by simp [sk, h1], by simp [tk, h1]⟩
    · exact .inr ⟨h1, h2, by simp [sk, h1], by simp [tk, h1]⟩

theorem class_facts {b : Nat} (h : b < 18446744073709551616) : (isNaN b = true ∧ classI b = 4 ∧ tk (fixB b) = 9221120237041090560) ∨
    (isNaN b = false ∧ -9218868437227405312 ≤ sk b ∧ sk b ≤ 9218868437227405312 ∧ ((classI b = 0 ∧ sk b < 0 ∧ tk (fixB b) = sk b - 1) ∨ (classI b = 1 ∧ sk b = 0 ∧ tk (fixB b) = -1) ∨ (classI b = 2 ∧ sk b = 0 ∧ tk (fixB b) = 0) ∨ (classI b = 3 ∧ 0 < sk b ∧ tk (fixB b) = sk b))) := by
  have h0 : isNaN 0 = false := by decide
  have hs0 : sk 0 = 0 := by decide
  obtain ⟨r, hr, hw⟩ := word_facts h
  unfold classI
  rcases hw with ⟨h1, h2⟩ | ⟨h1, h2, hw⟩
  · exact .inl ⟨h1, by rw [h1]; rfl, h2⟩
  · have e1 : ltF b 0 = decide (sk b < 0) := by simp [ltF, h1, h0, hs0]
    have e2 : ltF 0 b = decide (0 < sk b) := by simp [ltF, h1, h0, hs0]
    rw [h1, e1, e2, fixB_num h1]
    rw [fixB_num h1] at hw
    rcases hw with ⟨h3, h4, h5, h6⟩ | ⟨h3, h4, h5, h6⟩
    · refine .inr ⟨rfl, by omega, by omega, ?_⟩
      by_cases hz : r = 0
      · have d1 : decide (sk b < 0) = false := decide_eq_false (by omega)
        have d2 : decide (0 < sk b) = false := decide_eq_false (by omega)
        have d3 : ((b : Int) == 0) = false := by simp; omega
        rw [d1, d2, d3]
        exact .inr (.inl ⟨rfl, by omega, by omega⟩)
      · have d1 : decide (sk b < 0) = true := decide_eq_true (by omega)
        rw [d1]
        exact .inl ⟨rfl, by omega, by omega⟩
    · refine .inr ⟨rfl, by omega, by omega, ?_⟩
      by_cases hz : r = 0
      · have d1 : decide (sk b < 0) = false := decide_eq_false (by omega)
        have d2 : decide (0 < sk b) = false := decide_eq_false (by omega)
        have d3 : ((b : Int) == 0) = true := by simp; omega
        rw [d1, d2, d3]
        exact .inr (.inr (.inl ⟨rfl, by omega, by omega⟩))
      · have d1 : decide (sk b < 0) = false := decide_eq_false (by omega)
        have d2 : decide (0 < sk b) = true := decide_eq_true (by omega)
        rw [d1, d2]
        exact .inr (.inr (.inr ⟨rfl, by omega, by omega⟩))

theorem ltF_nan_left {a b : Nat} (h : isNaN a = true) : ltF a b = false := by simp [ltF, h]
theorem ltF_nan_right {a b : Nat} (h : isNaN b = true) : ltF a b = false := by simp [ltF, h]
theorem ltF_iff {a b : Nat} (ha : isNaN a = false) (hb : isNaN b = false) : ltF a b = true ↔ sk a < sk b := by simp [ltF, ha, hb]
theorem eqF_iff {a b : Nat} (ha : isNaN a = false) (hb : isNaN b = false) : eqF a b = true ↔ sk a = sk b := by simp [eqF, ha, hb]

theorem if_arith {A B C D : Prop} [Decidable A] [Decidable B] [Decidable C] [Decidable D] (h1 : A ↔ C) (h2 : B ↔ D) : (if A then (-1 : Int) else if B then 1 else 0) = (if C then -1 else if D then 1 else 0) := by
  simp only [h1, h2]
/-- Both say alike how two numbers stand. -/
theorem cmp_two {a b : Nat} (ha : a < 18446744073709551616) (hb : b < 18446744073709551616) : cmpC a b = cmpR a b := by
  rw [cmpC_eq ha hb]
  unfold cmpR
  rcases class_facts ha with ⟨a1, a2, a3⟩ | ⟨a1, a2, a3, a4⟩ <;> rcases class_facts hb with ⟨b1, b2, b3⟩ | ⟨b1, b2, b3, b4⟩
  · rw [ltF_nan_left a1, ltF_nan_left b1]
    exact if_arith (by simp; omega) (by simp; omega)
  · rw [ltF_nan_left a1, ltF_nan_right a1]
    exact if_arith (by simp; omega) (by simp; omega)
  · rw [ltF_nan_left b1, ltF_nan_right b1]
    exact if_arith (by simp; omega) (by simp; omega)
  · simp only [ltF_iff a1 b1, ltF_iff b1 a1]
    exact if_arith (by omega) (by omega)

end Go.Proofs.Ytenebkiiemlecaa
