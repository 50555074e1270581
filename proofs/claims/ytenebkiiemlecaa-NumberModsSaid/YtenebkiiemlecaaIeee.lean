/- Words of float64 as whole numbers: how they stand to each other. -/
import Derived.WalkKit
import Derived.WalkLawsBesides
namespace Go.Proofs.Ytenebkiiemlecaa
open Go Ieee
set_option linter.unusedVariables false
set_option linter.unusedSimpArgs false

abbrev f64 : Format := FloatKind.f64.format
/-- The sign and the rung of a word. -/
def negB (b : Nat) : Bool := b / 9223372036854775808 % 2 == 1
def rungB (b : Nat) : Nat := b % 9223372036854775808
theorem rungB_lt (b : Nat) : rungB b < 9223372036854775808 := Nat.mod_lt _ (by decide)

/-- What a rung stands for, in units of the least place. -/
def units (r : Nat) : Nat := if r < 4503599627370496 then r else (4503599627370496 + r % 4503599627370496) * 2 ^ (r / 4503599627370496 - 1)

theorem units_step {r r' : Nat} (h : r < r') : units r < units r' := by
  unfold units
  by_cases h1 : r < 4503599627370496
  · rw [if_pos h1]
    by_cases h2 : r' < 4503599627370496
    · rw [if_pos h2]; exact h
    · rw [if_neg h2]
      have : 1 ≤ 2 ^ (r' / 4503599627370496 - 1) := Nat.one_le_two_pow
      calc r < 4503599627370496 := h1
        _ ≤ (4503599627370496 + r' % 4503599627370496) * 1 := by omega
        _ ≤ _ := Nat.mul_le_mul_left _ this
  · have h2 : ¬ r' < 4503599627370496 := by omega
    rw [if_neg h1, if_neg h2]
    obtain ⟨e, he⟩ : ∃ e, r / 4503599627370496 = e + 1 := ⟨r / 4503599627370496 - 1, by omega⟩
    obtain ⟨e', he'⟩ : ∃ e, r' / 4503599627370496 = e + 1 := ⟨r' / 4503599627370496 - 1, by omega⟩
    rw [he, he', Nat.add_sub_cancel, Nat.add_sub_cancel]
    have hle : e ≤ e' := by
      have : r / 4503599627370496 ≤ r' / 4503599627370496 := Nat.div_le_div_right (Nat.le_of_lt h)
      omega
    rcases Nat.lt_or_eq_of_le hle with hlt | rfl
    · have hp : 2 ^ (e + 1) ≤ 2 ^ e' := Nat.pow_le_pow_right (by decide) hlt
      have h0 : 1 ≤ 2 ^ e := Nat.one_le_two_pow
      have hf : r % 4503599627370496 < 4503599627370496 := Nat.mod_lt _ (by decide)
      calc (4503599627370496 + r % 4503599627370496) * 2 ^ e < (4503599627370496 * 2) * 2 ^ e := Nat.mul_lt_mul_of_pos_right (by omega) h0
        _ = 4503599627370496 * 2 ^ (e + 1) := by rw [Nat.pow_succ, Nat.mul_assoc, Nat.mul_comm 2]
        _ ≤ 4503599627370496 * 2 ^ e' := Nat.mul_le_mul_left _ hp
        _ ≤ _ := Nat.mul_le_mul_right _ (by omega)
    · have h0 : 1 ≤ 2 ^ e := Nat.one_le_two_pow
      exact Nat.mul_lt_mul_of_pos_right (by omega) h0
theorem units_le {r r' : Nat} (h : r ≤ r') : units r ≤ units r' := by
  rcases Nat.lt_or_eq_of_le h with h | rfl
  · exact Nat.le_of_lt (units_step h)
  · exact Nat.le_refl _
theorem units_zero : units 0 = 0 := rfl

/-- How a word is read. -/
theorem read_eq (b : Nat) : f64.read b = if rungB b < 4503599627370496 then .number (negB b) (rungB b) (-1074)
    else if rungB b < 9218868437227405312 then .number (negB b) (4503599627370496 + rungB b % 4503599627370496) (-1074 + (rungB b / 4503599627370496 - 1 : Nat))
    else if rungB b = 9218868437227405312 then .infinity (negB b) else .nan (negB b) (rungB b - 9218868437227405312) := by
  rfl

/-- .. a finite one: so many of so high a place. -/
theorem read_fin {b : Nat} (h : rungB b < 9218868437227405312) : ∃ m p : Nat, f64.read b = .number (negB b) m (-1074 + (p : Int)) ∧ m * 2 ^ p = units (rungB b) := by
  rw [read_eq]
  unfold units
  by_cases h1 : rungB b < 4503599627370496
  · rw [if_pos h1, if_pos h1]; exact ⟨rungB b, 0, rfl, by simp⟩
  · rw [if_neg h1, if_neg h1, if_pos h]; exact ⟨_, _, rfl, rfl⟩
theorem read_inf {b : Nat} (h : rungB b = 9218868437227405312) : f64.read b = .infinity (negB b) := by
  rw [read_eq, if_neg (by omega), if_neg (by omega), if_pos h]
theorem read_nan {b : Nat} (h : 9218868437227405312 < rungB b) : f64.read b = .nan (negB b) (rungB b - 9218868437227405312) := by
  rw [read_eq, if_neg (by omega), if_neg (by omega), if_neg (by omega)]

/-- A word's place in the order: its rung, with its sign. -/
def sk (b : Nat) : Int := if negB b then -(rungB b : Int) else rungB b
def isNaN (b : Nat) : Bool := decide (9218868437227405312 < rungB b)

theorem compare_int (a b : Int) : compare a b = if a < b then .lt else if a = b then .eq else .gt := rfl

theorem signed_eq (s : Bool) (m k : Nat) : signed s m k = if s then -((m * 2 ^ k : Nat) : Int) else ((m * 2 ^ k : Nat) : Int) := by
  unfold signed
  rw [Nat.shiftLeft_eq]

theorem cmp_scale {a b a' b' : Int} (h1 : a < b ↔ a' < b') (h2 : a = b ↔ a' = b') : compare a b = compare a' b' := by
  rw [compare_int, compare_int]
  by_cases h : a < b
  · rw [if_pos h, if_pos (h1.1 h)]
  · rw [if_neg h, if_neg (fun x => h (h1.2 x))]
    by_cases e : a = b
    · rw [if_pos e, if_pos (h2.1 e)]
    · rw [if_neg e, if_neg (fun x => e (h2.2 x))]

/-- Two finite numbers stand as their units do. -/
theorem order_units (s t : Bool) (m n p q : Nat) : Datum.order (.number s m (-1074 + (p : Int))) (.number t n (-1074 + (q : Int))) =
    some (compare (if s then -((m * 2 ^ p : Nat) : Int) else ((m * 2 ^ p : Nat) : Int)) (if t then -((n * 2 ^ q : Nat) : Int) else ((n * 2 ^ q : Nat) : Int))) := by
  simp only [Datum.order]
  congr 1
  have hmin : min (-1074 + (p : Int)) (-1074 + (q : Int)) = -1074 + (min p q : Nat) := by omega
  rw [hmin]
  have e1 : (-1074 + (p : Int) - (-1074 + ((min p q : Nat) : Int))).toNat = p - min p q := by omega
  have e2 : (-1074 + (q : Int) - (-1074 + ((min p q : Nat) : Int))).toNat = q - min p q := by omega
  rw [e1, e2, signed_eq, signed_eq]
  obtain ⟨k, hk⟩ : ∃ k, k = min p q := ⟨_, rfl⟩
  rw [← hk]
  obtain ⟨p', hp'⟩ : ∃ p', p = p' + k := ⟨p - k, by omega⟩
  obtain ⟨q', hq'⟩ : ∃ q', q = q' + k := ⟨q - k, by omega⟩
  subst hp' hq'
  rw [Nat.add_sub_cancel, Nat.add_sub_cancel]
  have m1 : m * 2 ^ (p' + k) = (m * 2 ^ p') * 2 ^ k := by rw [Nat.pow_add, Nat.mul_assoc]
  have m2 : n * 2 ^ (q' + k) = (n * 2 ^ q') * 2 ^ k := by rw [Nat.pow_add, Nat.mul_assoc]
  rw [m1, m2]
  generalize m * 2 ^ p' = A
  generalize n * 2 ^ q' = B
  have hpos : (0 : Int) < ((2 ^ k : Nat) : Int) := by exact_mod_cast Nat.two_pow_pos k
  generalize 2 ^ k = D at hpos
  have key : ∀ (x y : Int), (x < y ↔ x * (D : Int) < y * (D : Int)) ∧ (x = y ↔ x * (D : Int) = y * (D : Int)) := fun x y =>
    ⟨⟨fun h => Int.mul_lt_mul_of_pos_right h hpos, fun h => Int.lt_of_mul_lt_mul_right h (Int.le_of_lt hpos)⟩,
     ⟨fun h => by rw [h], fun h => Int.eq_of_mul_eq_mul_right (Int.ne_of_gt hpos) h⟩⟩
  have c1 : ∀ (u : Bool) (C : Nat), (if u then -((C * D : Nat) : Int) else ((C * D : Nat) : Int)) = (if u then -(C : Int) else (C : Int)) * (D : Int) := fun u C => by
    cases u <;> simp [Int.neg_mul]
  rw [c1, c1]
  exact cmp_scale (key _ _).1 (key _ _).2

theorem units_cmp (s t : Bool) (a b : Nat) : compare (if s then -((units a : Nat) : Int) else (units a : Int)) (if t then -((units b : Nat) : Int) else (units b : Int)) = compare (if s then -(a : Int) else (a : Int)) (if t then -(b : Int) else (b : Int)) := by
  have h0 : ∀ a, (units a = 0 ↔ a = 0) := fun a => ⟨fun h => by
    rcases Nat.eq_zero_or_pos a with h' | h'
    · exact h'
    · have := units_step h'; rw [units_zero] at this; omega, fun h => by rw [h]; rfl⟩
  have h1 : units a < units b ↔ a < b := ⟨fun h => by
    rcases Nat.lt_or_ge a b with h' | h'
    · exact h'
    · have := units_le h'; omega, units_step⟩
  have h2 : units b < units a ↔ b < a := ⟨fun h => by
    rcases Nat.lt_or_ge b a with h' | h'
    · exact h'
    · have := units_le h'; omega, units_step⟩
  have z1 := h0 a
  have z2 := h0 b
  cases s <;> cases t <;> simp only [if_true, if_false, Bool.false_eq_true] <;> exact cmp_scale (by omega) (by omega)

/-- THE LAW: two words that are no NaNs stand as their rungs do, each with its sign. -/
theorem order_eq {a b : Nat} (ha : isNaN a = false) (hb : isNaN b = false) : f64.order a b = some (compare (sk a) (sk b)) := by
  have ha' : rungB a ≤ 9218868437227405312 := by simpa [isNaN] using ha
  have hb' : rungB b ≤ 9218868437227405312 := by simpa [isNaN] using hb
  unfold Format.order
  rcases Nat.lt_or_eq_of_le ha' with h1 | h1 <;> rcases Nat.lt_or_eq_of_le hb' with h2 | h2
  · obtain ⟨m, p, e1, u1⟩ := read_fin h1
    obtain ⟨n, q, e2, u2⟩ := read_fin h2
    rw [e1, e2, order_units, u1, u2, units_cmp]
    rfl
  · obtain ⟨m, p, e1, u1⟩ := read_fin h1
    rw [e1, read_inf h2]
    simp only [Datum.order, sk, h2, compare_int]
    congr 1
    cases negB a <;> cases negB b <;> (simp only [if_true, if_false, Bool.false_eq_true]; repeat' split) <;> first | rfl | (exfalso; omega)
  · obtain ⟨n, q, e2, u2⟩ := read_fin h2
    rw [e2, read_inf h1]
    simp only [Datum.order, sk, h1, compare_int]
    congr 1
    cases negB a <;> cases negB b <;> (simp only [if_true, if_false, Bool.false_eq_true]; repeat' split) <;> first | rfl | (exfalso; omega)
  · rw [read_inf h1, read_inf h2]
    simp only [Datum.order, sk, h1, h2, compare_int]
    congr 1
    cases negB a <;> cases negB b <;> simp <;> decide

theorem order_nan_left {a b : Nat} (ha : isNaN a = true) : f64.order a b = none := by
  have ha' : 9218868437227405312 < rungB a := by simpa [isNaN] using ha
  unfold Format.order
  rw [read_nan ha']
  cases f64.read b <;> rfl
theorem order_nan_right {a b : Nat} (hb : isNaN b = true) : f64.order a b = none := by
  have hb' : 9218868437227405312 < rungB b := by simpa [isNaN] using hb
  unfold Format.order
  rw [read_nan hb']
  cases f64.read a <;> rfl

/-- The comparisons. -/
def ltF (a b : Nat) : Bool := !isNaN a && !isNaN b && decide (sk a < sk b)
def eqF (a b : Nat) : Bool := !isNaN a && !isNaN b && decide (sk a = sk b)
theorem lt_eq (a b : Nat) : (f64.order a b == some .lt) = ltF a b := by
  unfold ltF
  cases ha : isNaN a with
  | true => rw [order_nan_left ha]; rfl
  | false =>
    cases hb : isNaN b with
    | true => rw [order_nan_right hb]; rfl
    | false =>
      rw [order_eq ha hb, compare_int]
      by_cases h : sk a < sk b
      · simp [h]
      · by_cases e : sk a = sk b <;> simp [h, e]
theorem eq_eq (a b : Nat) : (f64.order a b == some .eq) = eqF a b := by
  unfold eqF
  cases ha : isNaN a with
  | true => rw [order_nan_left ha]; rfl
  | false =>
    cases hb : isNaN b with
    | true => rw [order_nan_right hb]; rfl
    | false =>
      rw [order_eq ha hb, compare_int]
      by_cases h : sk a < sk b
      · have : ¬ sk a = sk b := by omega
        simp [h, this]
      · by_cases e : sk a = sk b <;> simp [h, e]
theorem gt_eq (a b : Nat) : (f64.order a b == some .gt) = ltF b a := by
  unfold ltF
  cases ha : isNaN a with
  | true => rw [order_nan_left ha]; simp
  | false =>
    cases hb : isNaN b with
    | true => rw [order_nan_right hb]; rfl
    | false =>
      rw [order_eq ha hb, compare_int]
      by_cases h : sk a < sk b
      · have : ¬ sk b < sk a := by omega
        simp [h, this]
      · by_cases e : sk a = sk b
        · simp [h, e]
        · have : sk b < sk a := by omega
          simp [h, e, this]

end Go.Proofs.Ytenebkiiemlecaa
