/- Words of float64 and whole numbers. -/
import Derived.Test.YtenebkiiemlecaaIeee
namespace Go.Proofs.Ytenebkiiemlecaa
open Go Ieee
set_option linter.unusedVariables false
set_option linter.unusedSimpArgs false

theorem cut_gap (n drop : Nat) : n / (1 <<< min drop (n.log2 + 2)) = n / 2 ^ drop := by
  rw [Nat.shiftLeft_eq, Nat.one_mul]
  by_cases h : drop ≤ n.log2 + 2
  · rw [Nat.min_eq_left h]
  · rw [Nat.min_eq_right (by omega)]
    have h1 : n < 2 ^ (n.log2 + 1) := Nat.lt_log2_self
    have h2 : n < 2 ^ (n.log2 + 2) := Nat.lt_of_lt_of_le h1 (Nat.pow_le_pow_right (by decide) (by omega))
    have h3 : n < 2 ^ drop := Nat.lt_of_lt_of_le h1 (Nat.pow_le_pow_right (by decide) (by omega))
    rw [Nat.div_eq_of_lt h2, Nat.div_eq_of_lt h3]
theorem cut_zero (neg : Bool) (n drop : Nat) : Toward.zero.cut neg n drop = n / 2 ^ drop := by
  unfold Toward.cut
  simp only [Bool.toNat_false, Nat.add_zero]
  exact cut_gap n drop
theorem cut_down (n drop : Nat) : Toward.down.cut false n drop = n / 2 ^ drop := by
  unfold Toward.cut
  simp only [Bool.false_and, Bool.toNat_false, Nat.add_zero]
  exact cut_gap n drop

/-- How many of the least place make one. -/
def lsbs (E : Nat) : Nat := 2 ^ E
theorem lsbs_pos (E : Nat) : 0 < lsbs E := Nat.two_pow_pos _
/-- The whole part of a finite word, without its sign. -/
def wholeN (b : Nat) : Nat := units (rungB b) / lsbs 1074
theorem shift_div (E m p : Nat) (z : Int) (hz : z = -(E : Int)) : (m <<< (z + (p : Int)).toNat) / 2 ^ (-(z + (p : Int))).toNat = m * 2 ^ p / lsbs E := by
  subst hz
  unfold lsbs
  rw [Nat.shiftLeft_eq]
  by_cases h : E ≤ p
  · obtain ⟨k, rfl⟩ : ∃ k, p = k + E := ⟨p - E, by omega⟩
    have e1 : (-(E : Int) + ((k + E : Nat) : Int)).toNat = k := by omega
    have e2 : (-(-(E : Int) + ((k + E : Nat) : Int))).toNat = 0 := by omega
    rw [e1, e2, Nat.pow_zero, Nat.div_one, Nat.pow_add, ← Nat.mul_assoc, Nat.mul_div_cancel _ (Nat.two_pow_pos _)]
  · obtain ⟨k, rfl⟩ : ∃ k, E = k + p := ⟨E - p, by omega⟩
    have e1 : (-((k + p : Nat) : Int) + (p : Int)).toNat = 0 := by omega
    have e2 : (-(-((k + p : Nat) : Int) + (p : Int))).toNat = k := by omega
    rw [e1, e2, Nat.pow_zero, Nat.mul_one, Nat.pow_add, Nat.mul_comm (2 ^ k), Nat.mul_comm m, Nat.mul_div_mul_left _ _ (Nat.two_pow_pos _)]
/-- A finite word, made whole towards zero. -/
theorem integral_zero {b : Nat} (h : rungB b < 9218868437227405312) : (f64.read b).integral .zero = .number (negB b) (wholeN b) 0 := by
  obtain ⟨m, p, e, u⟩ := read_fin h
  rw [e]
  show Datum.number (negB b) (Toward.zero.cut (negB b) (m <<< (-1074 + (p : Int)).toNat) (-(-1074 + (p : Int))).toNat) 0 = _
  rw [cut_zero, shift_div 1074 m p (-1074) (by decide), u]
  rfl
theorem integral_down {b : Nat} (h : rungB b < 9218868437227405312) (hn : negB b = false) : (f64.read b).integral .down = .number false (wholeN b) 0 := by
  obtain ⟨m, p, e, u⟩ := read_fin h
  rw [e, hn]
  show Datum.number false (Toward.down.cut false (m <<< (-1074 + (p : Int)).toNat) (-(-1074 + (p : Int))).toNat) 0 = _
  rw [cut_down, shift_div 1074 m p (-1074) (by decide), u]
  rfl
theorem toInt_zero {b : Nat} (h : rungB b < 9218868437227405312) : (f64.read b).toInt .zero = some (if negB b then -(wholeN b : Int) else (wholeN b : Int)) := by
  unfold Datum.toInt
  rw [integral_zero h]
  simp only [signed_eq, Nat.pow_zero, Nat.mul_one]
/-- The whole part is below 2^k where the word stands below that of 2^k. -/
theorem wholeN_lt {b R : Nat} (h : rungB b < R) (K : Nat) (hK : units R = K * lsbs 1074) : wholeN b < K := by
  have := units_step h
  unfold wholeN
  rw [hK] at this
  exact (Nat.div_lt_iff_lt_mul (lsbs_pos _)).2 this

theorem cut_even_zero (neg : Bool) (n : Nat) : Toward.even.cut neg n 0 = n := by
  unfold Toward.cut
  simp [Nat.mod_one]
/-- A whole number below 2^53 is written as it is. -/
theorem nearest_nat (neg : Bool) {n : Nat} (h0 : 0 < n) (h : n < 9007199254740992) : ∃ R, f64.nearest neg n 0 = f64.word neg R ∧ 0 < R ∧ R < 9218868437227405312 ∧ units R = n * lsbs 1074 := by
  obtain ⟨k, hk⟩ : ∃ k, k = n.log2 := ⟨_, rfl⟩
  have hlo : 2 ^ k ≤ n := by rw [hk]; exact Nat.log2_self_le (by omega)
  have hhi : n < 2 ^ (k + 1) := by rw [hk]; exact Nat.lt_log2_self
  have hk52 : k ≤ 52 := by
    rcases Nat.lt_or_ge 52 k with h1 | h1
    · have : 2 ^ 53 ≤ 2 ^ k := Nat.pow_le_pow_right (by decide) h1
      have h2 : (9007199254740992 : Nat) = 2 ^ 53 := rfl
      omega
    · exact h1
  obtain ⟨j, hj⟩ : ∃ j, j + k = 52 := ⟨52 - k, by omega⟩
  have e0 : f64.nearest neg n 0 = (if n = 0 then f64.word neg 0 else
      let last := max ((0 : Int) + n.log2 - 52) (-1074)
      f64.word neg (min ((last - (-1074)).toNat * 4503599627370496 + Toward.even.cut neg (n <<< ((0 : Int) - last).toNat) (last - 0).toNat) 9218868437227405312)) := rfl
  rw [e0, if_neg (by omega), ← hk]
  have hl : max ((0 : Int) + k - 52) (-1074) = -(j : Int) := by omega
  simp only [hl]
  have e1 : (-(j : Int) - (-1074)).toNat = k + 1022 := by omega
  have e2 : ((0 : Int) - (-(j : Int))).toNat = j := by omega
  have e3 : (-(j : Int) - 0).toNat = 0 := by omega
  rw [e1, e2, e3, cut_even_zero, Nat.shiftLeft_eq]
  have b1 : 4503599627370496 ≤ n * 2 ^ j := by
    have : 2 ^ k * 2 ^ j ≤ n * 2 ^ j := Nat.mul_le_mul_right _ hlo
    rw [← Nat.pow_add, Nat.add_comm k j, hj] at this
    exact this
  have b2 : n * 2 ^ j < 9007199254740992 := by
    have : n * 2 ^ j < 2 ^ (k + 1) * 2 ^ j := Nat.mul_lt_mul_of_pos_right hhi (Nat.two_pow_pos _)
    rw [← Nat.pow_add, show k + 1 + j = 53 by omega] at this
    exact this
  have hm0 : ∀ E, E = j + (k + 1022) → n * 2 ^ j * 2 ^ (k + 1022) = n * lsbs E := fun E hE => by subst hE; unfold lsbs; rw [Nat.mul_assoc, ← Nat.pow_add]
  have hm := hm0 1074 (by omega)
  clear hm0
  generalize n * 2 ^ j = N at b1 b2 hm
  have hr : (k + 1022) * 4503599627370496 + N < 9218868437227405312 := by omega
  rw [Nat.min_eq_left (by omega)]
  refine ⟨_, rfl, by omega, hr, ?_⟩
  unfold units
  rw [if_neg (by omega)]
  have d1 : ((k + 1022) * 4503599627370496 + N) / 4503599627370496 = k + 1023 := by omega
  have d2 : ((k + 1022) * 4503599627370496 + N) % 4503599627370496 = N - 4503599627370496 := by omega
  rw [d1, d2, show 4503599627370496 + (N - 4503599627370496) = N by omega, show k + 1023 - 1 = k + 1022 by omega, hm]

/-- The word of a power of two. -/
theorem units_pow (q : Nat) : units ((q + 1) * 4503599627370496) = 4503599627370496 * lsbs q := by
  unfold units lsbs
  rw [if_neg (by omega)]
  have d1 : (q + 1) * 4503599627370496 / 4503599627370496 = q + 1 := by omega
  have d2 : (q + 1) * 4503599627370496 % 4503599627370496 = 0 := by omega
  rw [d1, d2, Nat.add_sub_cancel, Nat.add_zero]
theorem lsbs_add (k E F D : Nat) (h : F = k + E) (hD : D = 2 ^ k) : lsbs F = D * lsbs E := by subst h hD; unfold lsbs; rw [Nat.pow_add]
theorem units_53 : units 4845873199050653696 = 9007199254740992 * lsbs 1074 := by
  have h := units_pow 1075
  have e : lsbs 1075 = 2 * lsbs 1074 := lsbs_add 1 1074 1075 2 (by decide) (by decide)
  rw [e, ← Nat.mul_assoc, show (4503599627370496 : Nat) * 2 = 9007199254740992 by decide, show ((1075 : Nat) + 1) * 4503599627370496 = 4845873199050653696 by decide] at h
  exact h
theorem units_one : units 4607182418800017408 = 1 * lsbs 1074 := by
  have h := units_pow 1022
  have e : lsbs 1074 = 4503599627370496 * lsbs 1022 := lsbs_add 52 1022 1074 4503599627370496 (by decide) (by decide)
  rw [show ((1022 : Nat) + 1) * 4503599627370496 = 4607182418800017408 by decide] at h
  rw [Nat.one_mul, e]
  exact h
theorem units_63 : units 4890909195324358656 = 9223372036854775808 * lsbs 1074 := by
  have h := units_pow 1085
  have e : lsbs 1085 = 2048 * lsbs 1074 := lsbs_add 11 1074 1085 2048 (by decide) (by decide)
  rw [e, ← Nat.mul_assoc, show (4503599627370496 : Nat) * 2048 = 9223372036854775808 by decide, show ((1085 : Nat) + 1) * 4503599627370496 = 4890909195324358656 by decide] at h
  exact h
theorem wholeN_ge {b R : Nat} (h : R ≤ rungB b) (K : Nat) (hK : units R = K * lsbs 1074) : K ≤ wholeN b := by
  have := units_le h
  unfold wholeN
  rw [hK] at this
  exact (Nat.le_div_iff_mul_le (lsbs_pos _)).2 this
end Go.Proofs.Ytenebkiiemlecaa
