/- Words of float64: what is written exactly; sums, products, opposites; the floor. -/
import Derived.Test.YtenebkiiemlecaaI2
namespace Go.Proofs.Ytenebkiiemlecaa
open Go Ieee
set_option linter.unusedVariables false
set_option linter.unusedSimpArgs false

/-- A word's value, in units of the least place. -/
def su (b : Nat) : Int := if negB b then -(units (rungB b) : Int) else (units (rungB b) : Int)
theorem units_lt_iff {a b : Nat} : units a < units b ↔ a < b := ⟨fun h => by
    rcases Nat.lt_or_ge a b with h' | h'
    · exact h'
    · have := units_le h'; omega, units_step⟩
theorem units_zero_iff {a : Nat} : units a = 0 ↔ a = 0 := ⟨fun h => by
    rcases Nat.eq_zero_or_pos a with h' | h'
    · exact h'
    · have := units_step h'; rw [units_zero] at this; omega, fun h => by rw [h]; rfl⟩
theorem su_lt (a b : Nat) : su a < su b ↔ sk a < sk b := by
  unfold su sk
  have h1 := units_lt_iff (a := rungB a) (b := rungB b)
  have h2 := units_lt_iff (a := rungB b) (b := rungB a)
  have z1 := units_zero_iff (a := rungB a)
  have z2 := units_zero_iff (a := rungB b)
  cases negB a <;> cases negB b <;> simp only [if_true, if_false, Bool.false_eq_true] <;> omega
theorem su_eq (a b : Nat) : su a = su b ↔ sk a = sk b := by
  have h1 := su_lt a b
  have h2 := su_lt b a
  omega

/-- The word of a sign and a rung. -/
theorem word_eq (neg : Bool) (R : Nat) : f64.word neg R = if neg then 9223372036854775808 + R else R := rfl
theorem word_rung (neg : Bool) {R : Nat} (h : R < 9223372036854775808) : rungB (f64.word neg R) = R := by
  rw [word_eq]
  unfold rungB
  cases neg <;> simp <;> omega
theorem word_neg (neg : Bool) {R : Nat} (h : R < 9223372036854775808) : negB (f64.word neg R) = neg := by
  rw [word_eq]
  unfold negB
  cases neg
  · have : R / 9223372036854775808 = 0 := by omega
    simp [this]
  · have : (9223372036854775808 + R) / 9223372036854775808 = 1 := by omega
    simp [this]
theorem word_lt (neg : Bool) {R : Nat} (h : R < 9223372036854775808) : f64.word neg R < 18446744073709551616 := by
  rw [word_eq]
  cases neg <;> simp <;> omega
theorem word_of {b : Nat} (h : b < 18446744073709551616) : f64.word (negB b) (rungB b) = b := by
  rw [word_eq]
  unfold negB rungB
  by_cases hy : b < 9223372036854775808
  · have : b / 9223372036854775808 = 0 := Nat.div_eq_of_lt hy
    simp [this, Nat.mod_eq_of_lt hy]
  · have : b / 9223372036854775808 = 1 := by omega
    simp [this]
    omega
theorem su_word (neg : Bool) {R : Nat} (h : R < 9223372036854775808) : su (f64.word neg R) = if neg then -(units R : Int) else (units R : Int) := by
  unfold su
  rw [word_rung neg h, word_neg neg h]

theorem cut_even_mul (neg : Bool) (M d : Nat) (hM : 0 < M) : Toward.even.cut neg (M * 2 ^ d) d = M := by
  have hlog : (M * 2 ^ d).log2 = M.log2 + d := by
    have h0 : M * 2 ^ d ≠ 0 := Nat.mul_ne_zero (by omega) (Nat.ne_of_gt (Nat.two_pow_pos _))
    rw [Nat.log2_eq_iff h0]
    have h1 : 2 ^ M.log2 ≤ M := Nat.log2_self_le (by omega)
    have h2 : M < 2 ^ (M.log2 + 1) := Nat.lt_log2_self
    refine ⟨?_, ?_⟩
    · rw [Nat.pow_add]; exact Nat.mul_le_mul_right _ h1
    · rw [show M.log2 + d + 1 = (M.log2 + 1) + d by omega, Nat.pow_add]
      exact Nat.mul_lt_mul_of_pos_right h2 (Nat.two_pow_pos _)
  have q1 : M * 2 ^ d / 2 ^ d = M := Nat.mul_div_cancel _ (Nat.two_pow_pos _)
  have q2 : M * 2 ^ d % 2 ^ d = 0 := Nat.mul_mod_left _ _
  unfold Toward.cut
  rw [hlog, Nat.min_eq_left (by omega), Nat.shiftLeft_eq, Nat.one_mul]
  simp only [q1, q2]
  have h2 : (2 ^ d == 2 * 0) = false := by simp
  have h3 : decide (2 ^ d < 2 * 0) = false := by simp
  rw [h2, h3]
  rfl
theorem norm_rung {q f R : Nat} (h : R = (q + 1) * 4503599627370496 + f) (h2 : R < 9218868437227405312) : min (q * 4503599627370496 + (4503599627370496 + f)) 9218868437227405312 = R := by
  rw [Nat.min_eq_left (by omega)]
  omega

theorem log2_units_norm (q f : Nat) (hf : f < 4503599627370496) : ((4503599627370496 + f) * 2 ^ q).log2 = 52 + q := by
  have h0 : (4503599627370496 + f) * 2 ^ q ≠ 0 := Nat.mul_ne_zero (by omega) (Nat.ne_of_gt (Nat.two_pow_pos _))
  rw [Nat.log2_eq_iff h0]
  have hp := Nat.two_pow_pos q
  refine ⟨?_, ?_⟩
  · rw [Nat.pow_add]; exact Nat.mul_le_mul_right _ (by have : (2:Nat) ^ 52 = 4503599627370496 := rfl; omega)
  · rw [show 52 + q + 1 = 53 + q by omega, Nat.pow_add]
    exact Nat.mul_lt_mul_of_pos_right (by have : (2:Nat) ^ 53 = 9007199254740992 := rfl; omega) hp
theorem log2_mul_pow (n p : Nat) (hn : 0 < n) : (n * 2 ^ p).log2 = n.log2 + p := by
  have h0 : n * 2 ^ p ≠ 0 := Nat.mul_ne_zero (by omega) (Nat.ne_of_gt (Nat.two_pow_pos _))
  rw [Nat.log2_eq_iff h0]
  have h1 : 2 ^ n.log2 ≤ n := Nat.log2_self_le (by omega)
  have h2 : n < 2 ^ (n.log2 + 1) := Nat.lt_log2_self
  refine ⟨?_, ?_⟩
  · rw [Nat.pow_add]; exact Nat.mul_le_mul_right _ h1
  · rw [show n.log2 + p + 1 = (n.log2 + 1) + p by omega, Nat.pow_add]
    exact Nat.mul_lt_mul_of_pos_right h2 (Nat.two_pow_pos _)

/-- What is just a word's value is written as that word. -/
theorem nearest_units (neg : Bool) {n p R : Nat} (hR : R < 9218868437227405312) (h : n * 2 ^ p = units R) : f64.nearest neg n (-1074 + (p : Int)) = f64.word neg R := by
  have hpp := Nat.two_pow_pos p
  have e0 : f64.nearest neg n (-1074 + (p : Int)) = (if n = 0 then f64.word neg 0 else
      let last := max (-1074 + (p : Int) + n.log2 - 52) (-1074)
      f64.word neg (min ((last - (-1074)).toNat * 4503599627370496 + Toward.even.cut neg (n <<< (-1074 + (p : Int) - last).toNat) (last - (-1074 + (p : Int))).toNat) 9218868437227405312)) := rfl
  rw [e0]
  by_cases hn : n = 0
  · subst hn
    rw [Nat.zero_mul] at h
    rw [if_pos rfl, units_zero_iff.1 h.symm]
  · rw [if_neg hn]
    have hlog := log2_mul_pow n p (by omega)
    rw [h] at hlog
    by_cases hs : R < 4503599627370496
    · have hu : units R = R := by unfold units; rw [if_pos hs]
      rw [hu] at hlog h
      have hR0 : R ≠ 0 := by
        rintro rfl
        rcases Nat.mul_eq_zero.1 h with h | h <;> omega
      have hl : R.log2 < 52 := (Nat.log2_lt hR0).2 hs
      have hm : max (-1074 + (p : Int) + n.log2 - 52) (-1074) = -1074 := by omega
      simp only [hm]
      have e1 : ((-1074 : Int) - -1074).toNat = 0 := by omega
      have e2 : (-1074 + (p : Int) - -1074).toNat = p := by omega
      have e3 : ((-1074 : Int) - (-1074 + (p : Int))).toNat = 0 := by omega
      rw [e1, e2, e3, cut_even_zero, Nat.shiftLeft_eq, h]
      congr 1
      omega
    · obtain ⟨q, hq⟩ : ∃ q, R / 4503599627370496 = q + 1 := ⟨R / 4503599627370496 - 1, by omega⟩
      obtain ⟨f, hf⟩ : ∃ f, f = R % 4503599627370496 := ⟨_, rfl⟩
      have hf2 : f < 4503599627370496 := by rw [hf]; exact Nat.mod_lt _ (by decide)
      have hRe : R = (q + 1) * 4503599627370496 + f := by omega
      have hu : units R = (4503599627370496 + f) * 2 ^ q := by
        unfold units
        rw [if_neg hs, hq, ← hf, Nat.add_sub_cancel]
      rw [hu, log2_units_norm q f hf2] at hlog
      rw [hu] at h
      have hm : max (-1074 + (p : Int) + n.log2 - 52) (-1074) = -1074 + (q : Int) := by omega
      simp only [hm]
      have e1 : (-1074 + (q : Int) - -1074).toNat = q := by omega
      rw [e1]
      have hcut : Toward.even.cut neg (n <<< (-1074 + (p : Int) - (-1074 + (q : Int))).toNat) (-1074 + (q : Int) - (-1074 + (p : Int))).toNat = 4503599627370496 + f := by
        rw [Nat.shiftLeft_eq]
        by_cases hpq : q ≤ p
        · obtain ⟨k, rfl⟩ : ∃ k, p = q + k := ⟨p - q, by omega⟩
          have e2 : (-1074 + ((q + k : Nat) : Int) - (-1074 + (q : Int))).toNat = k := by omega
          have e3 : (-1074 + (q : Int) - (-1074 + ((q + k : Nat) : Int))).toNat = 0 := by omega
          rw [e2, e3, cut_even_zero]
          rw [Nat.pow_add, Nat.mul_comm (2 ^ q), ← Nat.mul_assoc] at h
          exact Nat.eq_of_mul_eq_mul_right (Nat.two_pow_pos q) h
        · obtain ⟨k, rfl⟩ : ∃ k, q = p + k := ⟨q - p, by omega⟩
          have e2 : (-1074 + (p : Int) - (-1074 + ((p + k : Nat) : Int))).toNat = 0 := by omega
          have e3 : (-1074 + ((p + k : Nat) : Int) - (-1074 + (p : Int))).toNat = k := by omega
          rw [e2, e3, Nat.pow_zero, Nat.mul_one]
          rw [Nat.pow_add, Nat.mul_comm (2 ^ p), ← Nat.mul_assoc] at h
          have hn2 := Nat.eq_of_mul_eq_mul_right hpp h
          rw [hn2]
          exact cut_even_mul neg _ k (by omega)
      rw [hcut, norm_rung hRe hR]

theorem nearest_lsbs (neg : Bool) {n E R : Nat} (hR : R < 9218868437227405312) (h : n * lsbs E = units R) : f64.nearest neg n (-1074 + (E : Int)) = f64.word neg R := nearest_units neg hR h

/-- Each whole number up to 2^53 is a word's value. -/
theorem units_of {n : Nat} (h : n ≤ 9007199254740992) : ∃ R, R < 9218868437227405312 ∧ units R = n * lsbs 1074 := by
  rcases Nat.eq_zero_or_pos n with rfl | h0
  · exact ⟨0, by decide, by rw [Nat.zero_mul]; rfl⟩
  · rcases Nat.lt_or_eq_of_le h with h1 | rfl
    · obtain ⟨R, _, _, h2, h3⟩ := nearest_nat false h0 h1
      exact ⟨R, h2, h3⟩
    · exact ⟨_, by decide, units_53⟩

/-- Sums and products don't see which comes first. -/
theorem sum_comm (a b : Datum) : a.sum b = b.sum a := by
  cases a with
  | nan s t => cases b <;> rfl
  | infinity s =>
    cases b with
    | nan _ _ => rfl
    | infinity t => cases s <;> cases t <;> rfl
    | number _ _ _ => rfl
  | number s m i =>
    cases b with
    | nan _ _ => rfl
    | infinity t => rfl
    | number t n j =>
      simp only [Datum.sum]
      rw [Int.min_comm j i, Int.add_comm (signed t n _), Bool.and_comm t s]
theorem product_comm (a b : Datum) : a.product b = b.product a := by
  cases a with
  | nan s t => cases b <;> rfl
  | infinity s =>
    cases b with
    | nan _ _ => rfl
    | infinity t => cases s <;> cases t <;> rfl
    | number t n j => simp only [Datum.product]
  | number s m i =>
    cases b with
    | nan _ _ => rfl
    | infinity t => simp only [Datum.product]
    | number t n j =>
      simp only [Datum.product]
      rw [Nat.mul_comm n m, Int.add_comm j i, Bool.xor_comm t s]

/-- The sum of two finite words, exactly. -/
theorem sum_units {a b : Nat} (ha : rungB a < 9218868437227405312) (hb : rungB b < 9218868437227405312) :
    ∃ (s : Bool) (m k : Nat), (f64.read a).sum (f64.read b) = some (.number s m (-1074 + (k : Int))) ∧ (if s then -((m * 2 ^ k : Nat) : Int) else ((m * 2 ^ k : Nat) : Int)) = su a + su b := by
  obtain ⟨m, p, e1, u1⟩ := read_fin ha
  obtain ⟨n, q, e2, u2⟩ := read_fin hb
  rw [e1, e2]
  simp only [Datum.sum]
  have hmin : min (-1074 + (p : Int)) (-1074 + (q : Int)) = -1074 + (min p q : Nat) := by omega
  rw [hmin]
  have e3 : (-1074 + (p : Int) - (-1074 + ((min p q : Nat) : Int))).toNat = p - min p q := by omega
  have e4 : (-1074 + (q : Int) - (-1074 + ((min p q : Nat) : Int))).toNat = q - min p q := by omega
  rw [e3, e4, signed_eq, signed_eq]
  refine ⟨_, _, _, rfl, ?_⟩
  unfold su
  rw [← u1, ← u2]
  obtain ⟨k, hk⟩ : ∃ k, k = min p q := ⟨_, rfl⟩
  rw [← hk]
  obtain ⟨p', hp'⟩ : ∃ p', p = p' + k := ⟨p - k, by omega⟩
  obtain ⟨q', hq'⟩ : ∃ q', q = q' + k := ⟨q - k, by omega⟩
  subst hp' hq'
  rw [Nat.add_sub_cancel, Nat.add_sub_cancel]
  have m1 : m * 2 ^ (p' + k) = (m * 2 ^ p') * 2 ^ k := by rw [Nat.pow_add, Nat.mul_assoc]
  have m2 : n * 2 ^ (q' + k) = (n * 2 ^ q') * 2 ^ k := by rw [Nat.pow_add, Nat.mul_assoc]
  rw [m1, m2]
  generalize m * 2 ^ p' = A
  generalize n * 2 ^ q' = B
  generalize 2 ^ k = D
  have c1 : ∀ (u : Bool) (C : Nat), (if u then -((C * D : Nat) : Int) else ((C * D : Nat) : Int)) = (if u then -(C : Int) else (C : Int)) * (D : Int) := fun u C => by
    cases u <;> simp [Int.neg_mul]
  rw [c1 (negB a), c1 (negB b), ← Int.add_mul]
  generalize ((if negB a = true then -(A : Int) else (A : Int)) + if negB b = true then -(B : Int) else (B : Int)) = T
  by_cases h0 : T = 0
  · subst h0
    rw [if_pos rfl]
    simp
  · rw [if_neg h0]
    by_cases h1 : T < 0
    · rw [if_pos (by simpa using h1), Int.natCast_mul, ← Int.neg_mul]
      congr 1
      omega
    · rw [if_neg (by simpa using h1), Int.natCast_mul]
      congr 1
      omega

/-- .. and the word of that sum, if it has one. -/
theorem add_exact {a b R : Nat} (ha : rungB a < 9218868437227405312) (hb : rungB b < 9218868437227405312) (hR : R < 9218868437227405312) (hu : (su a + su b).natAbs = units R) :
    ∃ c, f64.add a b = some c ∧ su c = su a + su b ∧ rungB c < 9218868437227405312 := by
  obtain ⟨s, m, k, h1, h2⟩ := sum_units ha hb
  have hm : m * 2 ^ k = units R := by
    rw [← h2] at hu
    rw [← hu]
    cases s <;> simp only [if_true, if_false, Bool.false_eq_true, Int.natAbs_neg, Int.natAbs_natCast]
  refine ⟨f64.word s R, ?_, ?_, ?_⟩
  · unfold Format.add
    rw [h1]
    show some (f64.nearest s m (-1074 + (k : Int))) = _
    rw [nearest_units s hR hm]
  · rw [su_word s (by omega), ← h2, hm]
  · rw [word_rung s (by omega)]; exact hR

theorem xor_word {b : Nat} (h : b < 18446744073709551616) : rungB (b ^^^ 9223372036854775808) = rungB b ∧ negB (b ^^^ 9223372036854775808) = !negB b := by
    have hx : ∀ z, z < 9223372036854775808 → z ^^^ 9223372036854775808 = z + 9223372036854775808 := fun z hz => by
      have := Nat.two_pow_add_eq_or_of_lt (i := 63) (b := z) hz 1
      have h2 : z ||| 9223372036854775808 = z + 9223372036854775808 := by
        rw [Nat.or_comm, show (9223372036854775808 : Nat) = 2 ^ 63 * 1 by rfl, ← this]; omega
      rw [← h2]
      refine Nat.eq_of_testBit_eq fun i => ?_
      rw [Nat.testBit_xor, Nat.testBit_or, show (9223372036854775808 : Nat) = 2 ^ 63 by rfl, Nat.testBit_two_pow]
      by_cases hi : 63 = i
      · subst hi
        have : z.testBit 63 = false := Nat.testBit_lt_two_pow hz
        simp [this]
      · simp [hi]
    by_cases hy : b < 9223372036854775808
    · rw [hx b hy]
      unfold rungB negB
      have e1 : b / 9223372036854775808 = 0 := by omega
      have e2 : (b + 9223372036854775808) / 9223372036854775808 = 1 := by omega
      rw [e1, e2]
      exact ⟨by omega, rfl⟩
    · obtain ⟨z, rfl⟩ : ∃ z, b = z + 9223372036854775808 := ⟨b - 9223372036854775808, by omega⟩
      rw [← hx z (by omega), Nat.xor_assoc, Nat.xor_self, Nat.xor_zero, hx z (by omega)]
      unfold rungB negB
      have e1 : z / 9223372036854775808 = 0 := by omega
      have e2 : (z + 9223372036854775808) / 9223372036854775808 = 1 := by omega
      rw [e1, e2]
      exact ⟨by omega, rfl⟩
theorem read_opposite {b : Nat} (h : b < 18446744073709551616) : f64.read (b ^^^ 9223372036854775808) = (f64.read b).opposite := by
  have key := xor_word h
  rw [read_eq, read_eq, key.1, key.2]
  split
  · rfl
  · split
    · rfl
    · split <;> rfl

/-- The floor's cut. -/
theorem cut_down_neg (n drop : Nat) : Toward.down.cut true n drop = n / 2 ^ drop + (if n % 2 ^ drop = 0 then 0 else 1) := by
  unfold Toward.cut
  rw [Nat.shiftLeft_eq, Nat.one_mul]
  simp only [Bool.true_and]
  have hb : ∀ k : Nat, (k != 0).toNat = if k = 0 then 0 else 1 := fun k => by
    by_cases h : k = 0 <;> simp [h]
  rw [hb]
  by_cases h : drop ≤ n.log2 + 2
  · rw [Nat.min_eq_left h]
  · rw [Nat.min_eq_right (by omega)]
    have h1 : n < 2 ^ (n.log2 + 1) := Nat.lt_log2_self
    have h2 : n < 2 ^ (n.log2 + 2) := Nat.lt_of_lt_of_le h1 (Nat.pow_le_pow_right (by decide) (by omega))
    have h3 : n < 2 ^ drop := Nat.lt_of_lt_of_le h1 (Nat.pow_le_pow_right (by decide) (by omega))
    rw [Nat.div_eq_of_lt h2, Nat.div_eq_of_lt h3, Nat.mod_eq_of_lt h2, Nat.mod_eq_of_lt h3]

theorem shift_units (E m p : Nat) (z : Int) (hz : z = -(E : Int)) : (m <<< (z + (p : Int)).toNat) * lsbs E = m * 2 ^ p * 2 ^ (-(z + (p : Int))).toNat := by
  subst hz
  unfold lsbs
  rw [Nat.shiftLeft_eq, Nat.mul_assoc, Nat.mul_assoc, ← Nat.pow_add, ← Nat.pow_add]
  congr 2
  omega

/-- A negative finite word's floor. -/
theorem integral_down_neg {b : Nat} (h : rungB b < 9218868437227405312) (hn : negB b = true) :
    ∃ M, (f64.read b).integral .down = .number true M 0 ∧ units (rungB b) ≤ M * lsbs 1074 ∧ M * lsbs 1074 < units (rungB b) + lsbs 1074 := by
  obtain ⟨m, p, e, u⟩ := read_fin h
  rw [e, hn]
  refine ⟨Toward.down.cut true (m <<< (-1074 + (p : Int)).toNat) (-(-1074 + (p : Int))).toNat, rfl, ?_⟩
  have hs := shift_units 1074 m p (-1074) (by decide)
  rw [u] at hs
  rw [cut_down_neg]
  have hL := lsbs_pos 1074
  generalize lsbs 1074 = L at hs hL ⊢
  generalize m <<< (-1074 + (p : Int)).toNat = n at hs ⊢
  have hD := Nat.two_pow_pos (-(-1074 + (p : Int))).toNat
  generalize 2 ^ (-(-1074 + (p : Int))).toNat = D at hs hD ⊢
  generalize units (rungB b) = U at hs ⊢
  have hdm := Nat.div_add_mod n D
  have hml := Nat.mod_lt n hD
  generalize n / D = a at hdm ⊢
  generalize n % D = r at hdm hml ⊢
  subst hdm
  by_cases hr : r = 0
  · subst hr
    rw [if_pos rfl]
    rw [Nat.add_zero, Nat.mul_comm D a, Nat.mul_right_comm] at hs
    have := Nat.eq_of_mul_eq_mul_right hD hs
    rw [Nat.add_zero, this]
    omega
  · rw [if_neg hr]
    have h1 : U * D < (a + 1) * L * D := by
      rw [← hs]
      have : D * a + r < (a + 1) * D := by rw [Nat.add_mul, Nat.mul_comm D a]; omega
      calc (D * a + r) * L < ((a + 1) * D) * L := Nat.mul_lt_mul_of_pos_right this hL
        _ = (a + 1) * L * D := by rw [Nat.mul_right_comm]
    have h2 : a * L * D < U * D := by
      rw [← hs]
      have : a * D < D * a + r := by rw [Nat.mul_comm D a]; omega
      calc a * L * D = (a * D) * L := by rw [Nat.mul_right_comm]
        _ < (D * a + r) * L := Nat.mul_lt_mul_of_pos_right this hL
    have h3 := Nat.lt_of_mul_lt_mul_right h1
    have h4 := Nat.lt_of_mul_lt_mul_right h2
    rw [Nat.add_mul] at h3 ⊢
    omega

/-- A great finite word is whole. -/
theorem whole_great {b : Nat} (h1 : 4845873199050653696 ≤ rungB b) (h2 : rungB b < 9218868437227405312) : units (rungB b) = wholeN b * lsbs 1074 := by
  have hu : ∃ c, units (rungB b) = c * lsbs 1074 := by
    generalize rungB b = R at h1 h2
    unfold units
    rw [if_neg (by omega)]
    obtain ⟨k, hk⟩ : ∃ k, R / 4503599627370496 - 1 = k + 1074 := ⟨R / 4503599627370496 - 1 - 1074, by omega⟩
    rw [hk]
    have e : ∀ E, E = 1074 → 2 ^ (k + 1074) = 2 ^ k * lsbs E := fun E hE => by subst hE; unfold lsbs; rw [Nat.pow_add]
    rw [e 1074 rfl, ← Nat.mul_assoc]
    exact ⟨_, rfl⟩
  obtain ⟨c, hc⟩ := hu
  unfold wholeN
  rw [hc, Nat.mul_div_cancel _ (lsbs_pos _)]

/-- THE FLOOR of a finite word: it, or the whole number below it (then one more is written exactly). -/
theorem floor_units {b : Nat} (hb : b < 18446744073709551616) (h : rungB b < 9218868437227405312) :
    ∃ f, f64.write ((f64.read b).integral .down) = f ∧ rungB f < 9218868437227405312 ∧ f < 18446744073709551616 ∧
      (f = b ∨ ∃ F : Int, su f = F * lsbs 1074 ∧ F * lsbs 1074 ≤ su b ∧ su b < F * lsbs 1074 + lsbs 1074 ∧ -9007199254740992 ≤ F ∧ F < 9007199254740992) := by
  have place : ∀ (s : Bool) (n : Nat), f64.write (.number s n 0) = f64.nearest s n (-1074 + ((1074 : Nat) : Int)) := fun s n => rfl
  by_cases hg : 4845873199050653696 ≤ rungB b
  · have hw := whole_great hg h
    have hi : (f64.read b).integral .down = .number (negB b) (wholeN b) 0 := by
      cases hn : negB b with
      | false => exact integral_down h hn
      | true =>
        obtain ⟨M, e, u1, u2⟩ := integral_down_neg h hn
        rw [e]
        rw [hw] at u1 u2
        have hL := lsbs_pos 1074
        have : wholeN b * lsbs 1074 + lsbs 1074 = (wholeN b + 1) * lsbs 1074 := by rw [Nat.add_mul, Nat.one_mul]
        rw [this] at u2
        have v1 := Nat.le_of_mul_le_mul_right u1 hL
        have v2 := Nat.lt_of_mul_lt_mul_right u2
        have : M = wholeN b := by omega
        rw [this]
    refine ⟨b, ?_, h, hb, .inl rfl⟩
    rw [hi, place, nearest_lsbs (negB b) h hw.symm, word_of hb]
  · have hr : rungB b < 4845873199050653696 := by omega
    have hwn := wholeN_lt hr _ units_53
    have hL := lsbs_pos 1074
    cases hn : negB b with
    | false =>
      obtain ⟨R, hR, hu⟩ := units_of (n := wholeN b) (by omega)
      refine ⟨f64.word false R, ?_, ?_, word_lt _ (by omega), .inr ⟨wholeN b, ?_, ?_, ?_, by omega, by omega⟩⟩
      · rw [integral_down h hn, place, nearest_lsbs false hR hu.symm]
      · rw [word_rung _ (by omega)]; exact hR
      · rw [su_word _ (by omega), hu]; simp
      · unfold su wholeN
        rw [hn]
        have := Nat.div_mul_le_self (units (rungB b)) (lsbs 1074)
        simp only [Bool.false_eq_true, if_false]
        exact_mod_cast this
      · unfold su wholeN
        rw [hn]
        have h1 := Nat.div_add_mod (units (rungB b)) (lsbs 1074)
        have h2 := Nat.mod_lt (units (rungB b)) hL
        rw [Nat.mul_comm] at h1
        simp only [Bool.false_eq_true, if_false]
        have : units (rungB b) < units (rungB b) / lsbs 1074 * lsbs 1074 + lsbs 1074 := by omega
        exact_mod_cast this
    | true =>
      obtain ⟨M, e, u1, u2⟩ := integral_down_neg h hn
      have hM : M ≤ 9007199254740992 := by
        have h1 := units_step hr
        rw [units_53] at h1
        have h3 : M * lsbs 1074 < (9007199254740992 + 1) * lsbs 1074 := by rw [Nat.add_mul, Nat.one_mul]; omega
        have := Nat.lt_of_mul_lt_mul_right h3
        omega
      obtain ⟨R, hR, hu⟩ := units_of hM
      refine ⟨f64.word true R, ?_, ?_, word_lt _ (by omega), .inr ⟨-(M : Int), ?_, ?_, ?_, by omega, by omega⟩⟩
      · rw [e, place, nearest_lsbs true hR hu.symm]
      · rw [word_rung _ (by omega)]; exact hR
      · rw [su_word _ (by omega), hu]
        simp [Int.neg_mul]
      · unfold su
        rw [hn]
        simp only [if_true]
        rw [Int.neg_mul]
        have : ((units (rungB b) : Nat) : Int) ≤ (M : Int) * (lsbs 1074 : Nat) := by exact_mod_cast u1
        omega
      · unfold su
        rw [hn]
        simp only [if_true]
        rw [Int.neg_mul]
        have : (M : Int) * (lsbs 1074 : Nat) < ((units (rungB b) : Nat) : Int) + (lsbs 1074 : Nat) := by exact_mod_cast u2
        omega

theorem su_one : su 4607182418800017408 = lsbs 1074 := by
  have h := units_one
  unfold su
  have h1 : rungB 4607182418800017408 = 4607182418800017408 := by decide
  have h2 : negB 4607182418800017408 = false := by decide
  rw [h1, h2, h, Nat.one_mul]
  simp

/-- .. and one more. -/
theorem floor_more {f : Nat} {F : Int} (hf : rungB f < 9218868437227405312) (hu : su f = F * lsbs 1074) (h1 : -9007199254740992 ≤ F) (h2 : F < 9007199254740992) :
    ∃ g, f64.add f 4607182418800017408 = some g ∧ su g = F * lsbs 1074 + lsbs 1074 ∧ rungB g < 9218868437227405312 := by
  obtain ⟨R, hR, hu2⟩ := units_of (n := (F + 1).natAbs) (by omega)
  obtain ⟨c, e1, e2, e3⟩ := add_exact (a := f) (b := 4607182418800017408) (R := R) hf (by decide) hR (by
    rw [hu, su_one, hu2]
    have : F * (lsbs 1074 : Nat) + (lsbs 1074 : Nat) = (F + 1) * (lsbs 1074 : Nat) := by rw [Int.add_mul, Int.one_mul]
    rw [this, Int.natAbs_mul, Int.natAbs_natCast])
  exact ⟨c, e1, by rw [e2, hu, su_one], e3⟩

end Go.Proofs.Ytenebkiiemlecaa
