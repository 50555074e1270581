/- NumberLaws: the plain laws. -/
import Derived.Test.YtenebkiiemlecaaL1B
import Derived.Test.YtenebkiiemlecaaI3
namespace Go.Proofs.Ytenebkiiemlecaa
open Go Go.RowKit
set_option linter.unusedVariables false
set_option linter.unusedSimpArgs false

theorem exact_yes {a b : Nat} (h : a = b) (w : World) : Calls Try.prog 16 #[fl a, fl b] w fun e w' => e = .returned (.bool true) ∧ w = w' := by
  subst h
  exact (exact_any a a w).mono fun e w' ⟨h1, h2⟩ => ⟨by rw [h1]; simp, h2⟩

theorem neg_num {a : Nat} (ha : a < 18446744073709551616) (hn : isNaN a = false) : oneV 1 a = a ^^^ 9223372036854775808 ∧ isNaN (a ^^^ 9223372036854775808) = false ∧ a ^^^ 9223372036854775808 < 18446744073709551616 := by
  have h1 : isNaN (a ^^^ 9223372036854775808) = false := by
    unfold isNaN at hn ⊢
    rw [(xor_word ha).1]; exact hn
  refine ⟨?_, h1, Nat.xor_lt_two_pow (n := 64) ha (by decide)⟩
  rw [oneV_1, fixB_num hn, neg_xor, fixB_num h1]
theorem neg_nan {a : Nat} (hn : isNaN a = true) : oneV 1 a = qn := by
  rw [oneV_1, fixB_nan hn]
  decide
theorem neg_lt {a : Nat} (ha : a < 18446744073709551616) : oneV 1 a < 18446744073709551616 := by
  cases hn : isNaN a with
  | false => rw [(neg_num ha hn).1]; exact (neg_num ha hn).2.2
  | true => rw [neg_nan hn]; decide
theorem qn_nan : isNaN qn = true := by decide
theorem neg_neg {a : Nat} (ha : a < 18446744073709551616) : oneV 1 (oneV 1 a) = fixB a := by
  cases hn : isNaN a with
  | false =>
    obtain ⟨h1, h2, h3⟩ := neg_num ha hn
    rw [h1, (neg_num h3 h2).1, fixB_num hn, Nat.xor_assoc, Nat.xor_self, Nat.xor_zero]
  | true => rw [neg_nan hn, neg_nan qn_nan, fixB_isNaN hn]
theorem abs_xor {y : Nat} (h : y < 18446744073709551616) : absW (y ^^^ 9223372036854775808) = absW y := by
  unfold absW
  congr 1
  show IntKind.u64.wrap (((BitVec.ofInt 64 ((y ^^^ 9223372036854775808 : Nat) : Int)) &&& ~~~(BitVec.ofInt 64 (9223372036854775808 : Int))).toNat : Int) = IntKind.u64.wrap (((BitVec.ofInt 64 (y : Int)) &&& ~~~(BitVec.ofInt 64 (9223372036854775808 : Int))).toNat : Int)
  have e : BitVec.ofInt 64 ((y ^^^ 9223372036854775808 : Nat) : Int) = BitVec.ofInt 64 (y : Int) ^^^ BitVec.ofInt 64 (9223372036854775808 : Int) := by
    apply BitVec.eq_of_toNat_eq
    rw [BitVec.toNat_xor, show (9223372036854775808 : Int) = ((9223372036854775808 : Nat) : Int) from rfl, BitVec.ofInt_natCast, BitVec.ofInt_natCast, BitVec.ofInt_natCast, BitVec.toNat_ofNat, BitVec.toNat_ofNat, BitVec.toNat_ofNat]
    have h1 : y ^^^ 9223372036854775808 < 2 ^ 64 := Nat.xor_lt_two_pow h (by decide)
    rw [Nat.mod_eq_of_lt h1, Nat.mod_eq_of_lt (show y < 2 ^ 64 from h), Nat.mod_eq_of_lt (show 9223372036854775808 < 2 ^ 64 by decide)]
  rw [e]
  generalize BitVec.ofInt 64 (y : Int) = Y
  generalize BitVec.ofInt 64 (9223372036854775808 : Int) = C
  congr 3
  ext i hi
  simp only [BitVec.getElem_and, BitVec.getElem_xor, BitVec.getElem_not]
  cases Y[i] <;> cases C[i] <;> rfl
theorem abs_neg {a : Nat} (ha : a < 18446744073709551616) : oneV 2 (oneV 1 a) = oneV 2 a := by
  cases hn : isNaN a with
  | false =>
    obtain ⟨h1, h2, h3⟩ := neg_num ha hn
    rw [h1, oneV_2, oneV_2, fixB_num hn, fixB_num h2, abs_xor ha]
  | true =>
    rw [neg_nan hn, oneV_2, oneV_2, fixB_isNaN hn, fixB_isNaN qn_nan]

theorem add_turn (a b : Nat) : twoV 1 a b = twoV 1 b a := by
  rw [twoV_1, twoV_1]
  unfold arV
  have e : ∀ a b, floatBits .add .f64 a b = ((f64.read a).sum (f64.read b)).map f64.write := fun a b => rfl
  rw [e, e, sum_comm]
theorem mul_turn (a b : Nat) : twoV 3 a b = twoV 3 b a := by
  rw [twoV_3, twoV_3]
  unfold arV
  have e : ∀ a b, floatBits .mul .f64 a b = ((f64.read a).product (f64.read b)).map f64.write := fun a b => rfl
  rw [e, e, product_comm]
theorem sub_less {b : Nat} (a : Nat) (hb : b < 18446744073709551616) : twoV 2 a b = twoV 1 a (oneV 1 b) := by
  rw [twoV_2, twoV_1]
  unfold arV
  cases hn : isNaN b with
  | true => rw [neg_nan hn, ar_nan (op := .sub) (by simp) (.inr hn), ar_nan (op := .add) (by simp) (.inr qn_nan)]
  | false =>
    obtain ⟨h1, h2, h3⟩ := neg_num hb hn
    have e1 : floatBits .sub .f64 a b = ((f64.read a).sum (f64.read b).opposite).map f64.write := rfl
    have e2 : ∀ a b, floatBits .add .f64 a b = ((f64.read a).sum (f64.read b)).map f64.write := fun a b => rfl
    rw [h1, e1, e2, read_opposite hb]

/-- Min and max of two numbers. -/
theorem min_is {a b : Nat} (ha : a < 18446744073709551616) (hb : b < 18446744073709551616) (na : isNaN a = false) (nb : isNaN b = false) : twoV 6 a b = if cmpC a b = 1 then b else a := by
  rw [twoV_6]
  unfold firstW
  rw [na, nb, ← cmp_two ha hb]
  simp only [Bool.false_eq_true, if_false]
  by_cases h : cmpC a b = 1
  · rw [if_pos h, if_pos (by simpa using h), fixB_num nb]
  · rw [if_neg h, if_neg (by simpa using h), fixB_num na]
theorem max_is {a b : Nat} (ha : a < 18446744073709551616) (hb : b < 18446744073709551616) (na : isNaN a = false) (nb : isNaN b = false) : twoV 7 a b = if cmpC a b = -1 then b else a := by
  rw [twoV_7]
  unfold firstW
  rw [na, nb, ← cmp_two ha hb]
  simp only [Bool.false_eq_true, if_false]
  by_cases h : cmpC a b = -1
  · rw [if_pos h, if_pos (by simpa using h), fixB_num nb]
  · rw [if_neg h, if_neg (by simpa using h), fixB_num na]
/-- .. as the law asks of them. -/
theorem ends_is {a b : Nat} (ha : a < 18446744073709551616) (hb : b < 18446744073709551616) (na : isNaN a = false) (nb : isNaN b = false) :
    ∃ lo hi, twoV 6 a b = lo ∧ twoV 7 a b = hi ∧ cmpC lo hi ≤ 0 ∧
      ((((fixB lo : Int) == (fixB a : Int)) = true ∧ ((fixB hi : Int) == (fixB b : Int)) = true) ∨ (((fixB lo : Int) == (fixB a : Int)) = false ∧ ((fixB lo : Int) == (fixB b : Int)) = true ∧ ((fixB hi : Int) == (fixB a : Int)) = true)) := by
  have self : ∀ c : Nat, ((fixB c : Int) == (fixB c : Int)) = true := fun c => by simp
  rcases cmp_facts ha hb with ⟨h1, h2, h3, _⟩ | ⟨h1, h2, h3, _⟩ | ⟨h1, h2, h3, _⟩
  · refine ⟨b, a, by rw [min_is ha hb na nb, h1]; rfl, by rw [max_is ha hb na nb, h1]; rfl, by omega, .inr ⟨?_, self _, self _⟩⟩
    simp only [beq_eq_false_iff_ne, ne_eq] at h3 ⊢
    exact fun h => h3 h.symm
  · refine ⟨a, a, by rw [min_is ha hb na nb, h1]; rfl, by rw [max_is ha hb na nb, h1]; rfl, ?_, .inl ⟨self _, h3⟩⟩
    rcases cmp_facts ha ha with ⟨q1, q2, _⟩ | ⟨q1, _⟩ | ⟨q1, q2, _⟩ <;> omega
  · exact ⟨a, b, by rw [min_is ha hb na nb, h1]; rfl, by rw [max_is ha hb na nb, h1]; rfl, by omega, .inl ⟨self _, self _⟩⟩

/-- A number that isn't finite, less itself. -/
theorem sub_self_not {a : Nat} (h : ¬ rungB a < 9218868437227405312) : arV .sub a a = qn := by
  unfold arV
  cases hn : isNaN a with
  | true => rw [ar_nan (op := .sub) (by simp) (.inl hn)]
  | false =>
    have hr : rungB a ≤ 9218868437227405312 := by simpa [isNaN] using hn
    have e1 : floatBits .sub .f64 a a = ((f64.read a).sum (f64.read a).opposite).map f64.write := rfl
    rw [e1, read_inf (by omega)]
    cases negB a <;> rfl
theorem not_zero_of {r : Nat} (h : fixB r = qn) : eqF r 0 = false := by
  have : isNaN r = true := by rw [← isNaN_fix, h]; decide
  unfold eqF
  rw [this]
  rfl
/-- A finite number, less itself. -/
theorem su_opposite {b : Nat} (h : b < 18446744073709551616) : su (b ^^^ 9223372036854775808) = - su b := by
  obtain ⟨h1, h2⟩ := xor_word h
  unfold su
  rw [h1, h2]
  cases negB b <;> simp
theorem sub_self {a : Nat} (ha : a < 18446744073709551616) (h : rungB a < 9218868437227405312) : floatBits .sub .f64 a a = some 0 := by
  have e1 : floatBits .sub .f64 a a = ((f64.read a).sum (f64.read a).opposite).map f64.write := rfl
  rw [e1]
  obtain ⟨m, p, e, _⟩ := read_fin h
  rw [e]
  have hs : (Ieee.Datum.number (negB a) m (-1074 + (p : Int))).sum (Ieee.Datum.number (negB a) m (-1074 + (p : Int))).opposite = some (.number false 0 (-1074 + (p : Int))) := by
    simp only [Ieee.Datum.sum, Ieee.Datum.opposite, Int.min_self, Int.sub_self, signed_eq]
    cases negB a <;> simp <;> omega
  rw [hs]
  rfl
theorem num_of_rung {a : Nat} (h : rungB a < 9218868437227405312) : isNaN a = false := by
  unfold isNaN
  exact decide_eq_false (by omega)

/-- The floor of a finite number. -/
theorem floor_law {a : Nat} (ha : a < 18446744073709551616) (h : rungB a < 9218868437227405312) :
    ∃ f g, oneV 3 a = f ∧ floatBits .add .f64 f 4607182418800017408 = some g ∧ (ltF f a || eqF f a) = true ∧ (ltF a g = true ∨ (ltF a g = false ∧ eqF f a = true)) := by
  have na := num_of_rung h
  obtain ⟨f, e, hf, hlt, hcase⟩ := floor_units ha h
  have nf := num_of_rung hf
  have hv : oneV 3 a = f := by
    rw [oneV_3]
    unfold wholeV
    rw [na]
    simp only [Bool.false_eq_true, if_false]
    rw [e, fixB_num nf]
  have hadd : ∀ a b, floatBits .add .f64 a b = f64.add a b := fun a b => rfl
  rcases hcase with rfl | ⟨F, h1, h2, h3, h4, h5⟩
  · obtain ⟨s, m, k, q1, q2⟩ := sum_units hf (b := 4607182418800017408) (by decide)
    have hg : ∃ g, floatBits .add .f64 f 4607182418800017408 = some g := by
      rw [hadd]
      unfold Ieee.Format.add
      rw [q1]
      exact ⟨_, rfl⟩
    obtain ⟨g, hg⟩ := hg
    have hself : eqF f f = true := eqF_of_num nf
    refine ⟨f, g, hv, hg, by rw [hself]; simp, ?_⟩
    cases hl : ltF f g with
    | true => exact .inl rfl
    | false => exact .inr ⟨rfl, hself⟩
  · obtain ⟨g, g1, g2, g3⟩ := floor_more hf h1 h4 h5
    refine ⟨f, g, hv, by rw [hadd]; exact g1, ?_, .inl ?_⟩
    · have hle : su f ≤ su a := by rw [h1]; exact h2
      rcases Int.lt_or_eq_of_le hle with hl | hl
      · rw [(ltF_iff nf na).2 ((su_lt f a).1 hl)]; rfl
      · rw [(eqF_iff nf na).2 ((su_eq f a).1 hl)]; simp
    · exact (ltF_iff na (num_of_rung g3)).2 ((su_lt a g).1 (by rw [g2]; exact h3))

def one' : Nat := 4607182418800017408
theorem add_10 : floatBits .add .f64 4607182418800017408 0 = some 4607182418800017408 := by decide +kernel
theorem add_01 : floatBits .add .f64 0 4607182418800017408 = some 4607182418800017408 := by decide +kernel
theorem add_00 : floatBits .add .f64 0 0 = some 0 := by decide +kernel
/-- The three comparisons' sum. -/
theorem three_is (a b : Nat) : ∃ t1 t2 t3 u v, twoV 8 a b = t1 ∧ twoV 8 b a = t2 ∧ twoV 10 a b = t3 ∧ floatBits .add .f64 t1 t2 = some u ∧ floatBits .add .f64 u t3 = some v ∧
    ((eqF v 4607182418800017408 = true ∧ isNaN a = false ∧ isNaN b = false) ∨ (eqF v 4607182418800017408 = false ∧ eqF v 0 = true ∧ (isNaN a = true ∨ isNaN b = true))) := by
  rw [twoV_8, twoV_8, twoV_10]
  have y1 : fixB (yesW true) = 4607182418800017408 := by decide
  have y0 : fixB (yesW false) = 0 := by decide
  have q1 : eqF 4607182418800017408 4607182418800017408 = true := by decide
  have q2 : eqF 0 4607182418800017408 = false := by decide
  have q3 : eqF 0 0 = true := by decide
  cases ha : isNaN a with
  | true =>
    have e1 : ltF a b = false := ltF_nan_left ha
    have e2 : ltF b a = false := ltF_nan_right ha
    have e3 : eqF a b = false := by unfold eqF; rw [ha]; rfl
    rw [e1, e2, e3, y0]
    exact ⟨_, _, _, _, _, rfl, rfl, rfl, add_00, add_00, .inr ⟨q2, q3, .inl rfl⟩⟩
  | false =>
    cases hb : isNaN b with
    | true =>
      have e1 : ltF a b = false := ltF_nan_right hb
      have e2 : ltF b a = false := ltF_nan_left hb
      have e3 : eqF a b = false := by unfold eqF; rw [hb]; simp
      rw [e1, e2, e3, y0]
      exact ⟨_, _, _, _, _, rfl, rfl, rfl, add_00, add_00, .inr ⟨q2, q3, .inr rfl⟩⟩
    | false =>
      have e1 : ltF a b = decide (sk a < sk b) := by simp [ltF, ha, hb]
      have e2 : ltF b a = decide (sk b < sk a) := by simp [ltF, ha, hb]
      have e3 : eqF a b = decide (sk a = sk b) := by simp [eqF, ha, hb]
      rw [e1, e2, e3]
      by_cases h1 : sk a < sk b
      · rw [decide_eq_true h1, decide_eq_false (show ¬ sk b < sk a by omega), decide_eq_false (show ¬ sk a = sk b by omega), y0, y1]
        exact ⟨_, _, _, _, _, rfl, rfl, rfl, add_10, add_10, .inl ⟨q1, rfl, rfl⟩⟩
      · by_cases h2 : sk b < sk a
        · rw [decide_eq_false h1, decide_eq_true h2, decide_eq_false (show ¬ sk a = sk b by omega), y0, y1]
          exact ⟨_, _, _, _, _, rfl, rfl, rfl, add_01, add_10, .inl ⟨q1, rfl, rfl⟩⟩
        · rw [decide_eq_false h1, decide_eq_false h2, decide_eq_true (show sk a = sk b by omega), y0, y1]
          exact ⟨_, _, _, _, _, rfl, rfl, rfl, add_00, add_01, .inl ⟨q1, rfl, rfl⟩⟩
theorem not_is (a : Nat) : eqF (oneV 5 a) 0 = trueB a := by
  rw [oneV_5]
  cases trueB a <;> decide

end Go.Proofs.Ytenebkiiemlecaa
