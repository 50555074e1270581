/- The small functions of layer 1, and what they compute. -/
import Derived.Test.YtgeapkalabijmaaGreatK1
import Derived.Laws.Bits64b
import Derived.Deep.AppendLies
namespace Go.Proofs.YtgeapkalabijmaaGreat
open Go Go.RowKit
set_option maxRecDepth 100000
set_option maxHeartbeats 1000000
set_option linter.unusedVariables false
set_option linter.unusedSimpArgs false

attribute [go_sem] lt_eq eq_eq gt_eq
theorem neq_eq (a b : Nat) : (f64.order a b != some .eq) = !eqF a b := by rw [bne, eq_eq]
attribute [go_sem] neq_eq

theorem eqF_self (b : Nat) : eqF b b = !isNaN b := by simp [eqF]
theorem nanB_eq (b : Nat) : nanB b = isNaN b := by unfold nanB; rw [neq_eq, eqF_self]; simp
theorem isNaN_q : isNaN 9221120237041090560 = true := by decide
theorem isNaN_fix (b : Nat) : isNaN (fixB b) = isNaN b := by
  unfold fixB
  rw [nanB_eq]
  cases h : isNaN b with
  | true => simp [isNaN_q]
  | false => simp [h]
theorem fixB_nan {b : Nat} (h : isNaN b = true) : fixB b = 9221120237041090560 := by unfold fixB; rw [nanB_eq, h]; rfl
theorem fixB_num {b : Nat} (h : isNaN b = false) : fixB b = b := by unfold fixB; rw [nanB_eq, h]; rfl
theorem fixB_fix (b : Nat) : fixB (fixB b) = fixB b := by
  cases h : isNaN b with
  | true => rw [fixB_nan h]; exact fixB_nan isNaN_q
  | false => rw [fixB_num h, fixB_num h]
theorem fixB_lt {b : Nat} (h : b < 18446744073709551616) : fixB b < 18446744073709551616 := by
  cases hn : isNaN b with
  | true => rw [fixB_nan hn]; decide
  | false => rw [fixB_num hn]; exact h
/-- Comparisons don't see which NaN it is. -/
theorem ltF_fix (a b : Nat) : ltF (fixB a) (fixB b) = ltF a b := by
  unfold ltF
  rw [isNaN_fix, isNaN_fix]
  cases ha : isNaN a with
  | true => rfl
  | false => cases hb : isNaN b with
    | true => rfl
    | false => rw [fixB_num ha, fixB_num hb]
theorem eqF_fix (a b : Nat) : eqF (fixB a) (fixB b) = eqF a b := by
  unfold eqF
  rw [isNaN_fix, isNaN_fix]
  cases ha : isNaN a with
  | true => rfl
  | false => cases hb : isNaN b with
    | true => rfl
    | false => rw [fixB_num ha, fixB_num hb]

/-- key: a number's place among all words. -/
def keyI (y : Nat) : Int := if ((y : Int) / 9223372036854775808 == 1) then bits .xor .u64 IntKind.u64.max y else bits .or .u64 y 9223372036854775808
theorem key_any (b : Nat) (w : World) : Calls Tryz.prog 210 #[fl b] w fun e w' => e = .returned (.int .u64 (keyI (fixB b))) ∧ w = w' := by
  go_enter Tryz.func210, Tryz.ntmps210
  go_wp2_with fail
  refine (nbits_any _ _).mono ?_
  rintro e w' ⟨rfl, rfl⟩
  have HK := Lib.hid (show keyI (fixB b) = if ((fixB b : Int) / 9223372036854775808 == 1) then bits .xor .u64 IntKind.u64.max (fixB b : Nat) else bits .or .u64 (fixB b : Nat) 9223372036854775808 from rfl)
  have hs : ¬ (IntKind.u64.signed = true) := by decide
  cases h : ((fixB b : Int) / 9223372036854775808 == 1) with
  | true =>
    rw [h] at HK
    go_wp2_with fail
    go_ret
    exact ⟨by rw [HK.out]; rfl, rfl⟩
  | false =>
    rw [h] at HK
    go_wp2_with fail
    go_ret
    exact ⟨by rw [HK.out]; rfl, rfl⟩

def cmpC (a b : Nat) : Int := if keyI (fixB a) < keyI (fixB b) then -1 else if keyI (fixB b) < keyI (fixB a) then 1 else 0
theorem compare_any (a b : Nat) (w : World) : Calls Tryz.prog 203 #[fl a, fl b] w fun e w' => e = .returned (.int .i64 (cmpC a b)) ∧ w = w' := by
  have HC := Lib.hid (show cmpC a b = if keyI (fixB a) < keyI (fixB b) then -1 else if keyI (fixB b) < keyI (fixB a) then 1 else 0 from rfl)
  go_enter Tryz.func203, Tryz.ntmps203
  go_wp2_with fail
  refine (key_any _ _).mono ?_
  rintro e w' ⟨rfl, rfl⟩
  go_wp2_with fail
  refine (key_any _ _).mono ?_
  rintro e w' ⟨rfl, rfl⟩
  generalize keyI (fixB a) = x at HC
  generalize keyI (fixB b) = y at HC
  by_cases h1 : x < y
  · have b1 : decide (x < y) = true := decide_eq_true h1
    have V := Lib.hid (HC.out.trans (if_pos h1))
    clear h1
    go_wp2_with fail
    go_ret
    exact ⟨by rw [V.out]; rfl, rfl⟩
  · have b1 : decide (x < y) = false := decide_eq_false h1
    by_cases h2 : y < x
    · have b2 : decide (y < x) = true := decide_eq_true h2
      have V := Lib.hid (HC.out.trans ((if_neg h1).trans (if_pos h2)))
      clear h1 h2
      go_wp2_with fail
      go_ret
      exact ⟨by rw [V.out]; rfl, rfl⟩
    · have b2 : decide (y < x) = false := decide_eq_false h2
      have V := Lib.hid (HC.out.trans ((if_neg h1).trans (if_neg h2)))
      clear h1 h2
      go_wp2_with fail
      go_ret
      exact ⟨by rw [V.out]; rfl, rfl⟩

def classI (b : Nat) : Int := if isNaN b then 4 else if ltF b 0 then 0 else if ltF 0 b then 3 else if ((fixB b : Int) == 0) then 2 else 1
def cmpR (a b : Nat) : Int := if classI a < classI b ∨ classI a = classI b ∧ ltF a b = true then -1 else if classI b < classI a ∨ ltF b a = true then 1 else 0
def trueB (b : Nat) : Bool := !isNaN b && !eqF b 0
theorem true_any (b : Nat) (w : World) : Calls Tryz.prog 160 #[fl b] w fun e w' => e = .returned (.bool (trueB b)) ∧ w = w' := by
  have HC := Lib.hid (show trueB b = (!isNaN b && !eqF b 0) from rfl)
  have he := eqF_self b
  cases h1 : isNaN b with
  | true =>
    rw [h1] at he HC
    simp only [Bool.not_true] at he
    go_enter Tryz.func160, Tryz.ntmps160
    go_wp2_with fail
    go_ret
    exact ⟨by rw [HC.out]; rfl, rfl⟩
  | false =>
    rw [h1] at he HC
    simp only [Bool.not_false] at he
    cases h2 : eqF b 0 with
    | true =>
      rw [h2] at HC
      go_enter Tryz.func160, Tryz.ntmps160
      go_wp2_with fail
      go_ret
      exact ⟨by rw [HC.out]; rfl, rfl⟩
    | false =>
      rw [h2] at HC
      go_enter Tryz.func160, Tryz.ntmps160
      go_wp2_with fail
      go_ret
      exact ⟨by rw [HC.out]; rfl, rfl⟩
theorem true_two (b : Nat) : (ltF b 0 || ltF 0 b) = trueB b := by
  unfold trueB ltF eqF
  have h0 : isNaN 0 = false := by decide
  rw [h0]
  cases isNaN b with
  | true => rfl
  | false =>
    by_cases h1 : sk b < sk 0
    · have : ¬ sk b = sk 0 := by omega
      simp [h1, this]
    · by_cases h2 : sk 0 < sk b
      · have : ¬ sk b = sk 0 := by omega
        simp [h1, h2, this]
      · have : sk b = sk 0 := by omega
        simp [h1, h2, this]
end Go.Proofs.YtgeapkalabijmaaGreat

/- The plain laws of layer 1's words. -/
namespace Go.Proofs.YtgeapkalabijmaaGreat
open Go Go.RowKit
set_option maxRecDepth 100000
set_option maxHeartbeats 1000000
set_option linter.unusedVariables false
set_option linter.unusedSimpArgs false

theorem xor_all {y : Nat} (h : y < 18446744073709551616) : 18446744073709551615 ^^^ y = 18446744073709551615 - y := by
  have h' : y < 2 ^ 64 := h
  have e : 18446744073709551615 - y = 2 ^ 64 - (y + 1) := by omega
  rw [e]
  refine Nat.eq_of_testBit_eq fun i => ?_
  rw [Nat.testBit_xor, Nat.testBit_two_pow_sub_succ h', show (18446744073709551615 : Nat) = 2 ^ 64 - 1 by rfl, Nat.testBit_two_pow_sub_one]
  by_cases hi : i < 64
  · simp [hi]
  · have : y.testBit i = false := Nat.testBit_lt_two_pow (Nat.lt_of_lt_of_le h' (Nat.pow_le_pow_right (by decide) (by omega)))
    simp [hi, this]
theorem or_high {y : Nat} (h : y < 9223372036854775808) : y ||| 9223372036854775808 = y + 9223372036854775808 := by
  have := Nat.two_pow_add_eq_or_of_lt (i := 63) (b := y) h 1
  rw [Nat.or_comm, show (9223372036854775808 : Nat) = 2 ^ 63 * 1 by rfl, ← this]
  omega
theorem xor_high {y : Nat} (h : y < 18446744073709551616) : y ^^^ 9223372036854775808 = if y < 9223372036854775808 then y + 9223372036854775808 else y - 9223372036854775808 := by
  have key : ∀ z, z < 9223372036854775808 → z ^^^ 9223372036854775808 = z + 9223372036854775808 := fun z hz => by
    rw [← or_high hz]
    refine Nat.eq_of_testBit_eq fun i => ?_
    rw [Nat.testBit_xor, Nat.testBit_or, show (9223372036854775808 : Nat) = 2 ^ 63 by rfl, Nat.testBit_two_pow]
    by_cases hi : 63 = i
    · subst hi
      have : z.testBit 63 = false := Nat.testBit_lt_two_pow hz
      simp [this]
    · simp [hi]
  by_cases hy : y < 9223372036854775808
  · rw [if_pos hy, key y hy]
  · rw [if_neg hy]
    obtain ⟨z, rfl⟩ : ∃ z, y = z + 9223372036854775808 := ⟨y - 9223372036854775808, by omega⟩
    rw [← key z (by omega), Nat.xor_assoc, Nat.xor_self, Nat.xor_zero, key z (by omega)]
    omega

/-- A word's sign and rung. -/
theorem word_split {y : Nat} (h : y < 18446744073709551616) : (negB y = true ∧ y = 9223372036854775808 + rungB y) ∨ (negB y = false ∧ y = rungB y) := by
  unfold negB rungB
  by_cases hy : y < 9223372036854775808
  · right
    have : y / 9223372036854775808 = 0 := Nat.div_eq_of_lt hy
    simp [this, Nat.mod_eq_of_lt hy]
  · left
    have : y / 9223372036854775808 = 1 := by omega
    simp [this]
    omega
/-- Its place among all words. -/
def tk (y : Nat) : Int := if negB y then -1 - (rungB y : Int) else rungB y
theorem keyI_eq {y : Nat} (h : y < 18446744073709551616) : keyI y = 9223372036854775808 + tk y := by
  unfold keyI tk
  rcases word_split h with ⟨h1, h2⟩ | ⟨h1, h2⟩
  · have hd : ((y : Int) / 9223372036854775808 == 1) = true := by
      have := rungB_lt y
      simp; omega
    rw [hd, if_pos rfl, h1, if_pos rfl]
    have : bits .xor .u64 IntKind.u64.max (y : Int) = ((18446744073709551615 ^^^ y : Nat) : Int) := bits_xor_u64_nat 18446744073709551615 y (by decide) h
    rw [this, xor_all h]
    omega
  · have hr := rungB_lt y
    have hd : ((y : Int) / 9223372036854775808 == 1) = false := by
      simp; omega
    rw [hd, h1]
    have : bits .or .u64 (y : Int) 9223372036854775808 = ((y ||| 9223372036854775808 : Nat) : Int) := bits_or_u64_nat y 9223372036854775808 h (by decide)
    rw [if_neg (by decide), if_neg (by decide), this, or_high (by omega)]
    omega

theorem cmpC_eq {a b : Nat} (ha : a < 18446744073709551616) (hb : b < 18446744073709551616) : cmpC a b = if tk (fixB a) < tk (fixB b) then -1 else if tk (fixB b) < tk (fixB a) then 1 else 0 := by
  unfold cmpC
  rw [keyI_eq (fixB_lt ha), keyI_eq (fixB_lt hb)]
  have e : ∀ x y : Int, (9223372036854775808 + x < 9223372036854775808 + y ↔ x < y) := fun x y => by omega
  simp only [e]

/-- What a word is: a NaN (the one), or not one. -/
theorem word_facts {b : Nat} (h : b < 18446744073709551616) : ∃ r : Nat, r < 9223372036854775808 ∧
    ((isNaN b = true ∧ tk (fixB b) = 9221120237041090560) ∨ (isNaN b = false ∧ r ≤ 9218868437227405312 ∧ ((negB b = true ∧ b = 9223372036854775808 + r ∧ sk b = -(r : Int) ∧ tk (fixB b) = -1 - (r : Int)) ∨ (negB b = false ∧ b = r ∧ sk b = r ∧ tk (fixB b) = r)))) := by
  refine ⟨rungB b, rungB_lt b, ?_⟩
  cases hn : isNaN b with
  | true => exact .inl ⟨rfl, by rw [fixB_nan hn]; decide⟩
  | false =>
    refine .inr ⟨rfl, by simpa [isNaN] using hn, ?_⟩
    rw [fixB_num hn]
    rcases word_split h with ⟨h1, h2⟩ | ⟨h1, h2⟩
    · exact .inl ⟨h1, h2, by simp [sk, h1], by simp [tk, h1]⟩
    · exact .inr ⟨h1, h2, by simp [sk, h1], by simp [tk, h1]⟩

theorem class_facts {b : Nat} (h : b < 18446744073709551616) : (isNaN b = true ∧ classI b = 4 ∧ tk (fixB b) = 9221120237041090560) ∨
    (isNaN b = false ∧ -9218868437227405312 ≤ sk b ∧ sk b ≤ 9218868437227405312 ∧ ((classI b = 0 ∧ sk b < 0 ∧ tk (fixB b) = sk b - 1) ∨ (classI b = 1 ∧ sk b = 0 ∧ tk (fixB b) = -1) ∨ (classI b = 2 ∧ sk b = 0 ∧ tk (fixB b) = 0) ∨ (classI b = 3 ∧ 0 < sk b ∧ tk (fixB b) = sk b))) := by
  have h0 : isNaN 0 = false := by decide
  have hs0 : sk 0 = 0 := by decide
  obtain ⟨r, hr, hw⟩ := word_facts h
  unfold classI
  rcases hw with ⟨h1, h2⟩ | ⟨h1, h2, hw⟩
  · exact .inl ⟨h1, by rw [h1]; rfl, h2⟩
  · have e1 : ltF b 0 = decide (sk b < 0) := by simp [ltF, h1, h0, hs0]
    have e2 : ltF 0 b = decide (0 < sk b) := by simp [ltF, h1, h0, hs0]
    rw [h1, e1, e2, fixB_num h1]
    rw [fixB_num h1] at hw
    rcases hw with ⟨h3, h4, h5, h6⟩ | ⟨h3, h4, h5, h6⟩
    · refine .inr ⟨rfl, by omega, by omega, ?_⟩
      by_cases hz : r = 0
      · have d1 : decide (sk b < 0) = false := decide_eq_false (by omega)
        have d2 : decide (0 < sk b) = false := decide_eq_false (by omega)
        have d3 : ((b : Int) == 0) = false := by simp; omega
        rw [d1, d2, d3]
        exact .inr (.inl ⟨rfl, by omega, by omega⟩)
      · have d1 : decide (sk b < 0) = true := decide_eq_true (by omega)
        rw [d1]
        exact .inl ⟨rfl, by omega, by omega⟩
    · refine .inr ⟨rfl, by omega, by omega, ?_⟩
      by_cases hz : r = 0
      · have d1 : decide (sk b < 0) = false := decide_eq_false (by omega)
        have d2 : decide (0 < sk b) = false := decide_eq_false (by omega)
        have d3 : ((b : Int) == 0) = true := by simp; omega
        rw [d1, d2, d3]
        exact .inr (.inr (.inl ⟨rfl, by omega, by omega⟩))
      · have d1 : decide (sk b < 0) = false := decide_eq_false (by omega)
        have d2 : decide (0 < sk b) = true := decide_eq_true (by omega)
        rw [d1, d2]
        exact .inr (.inr (.inr ⟨rfl, by omega, by omega⟩))

theorem ltF_nan_left {a b : Nat} (h : isNaN a = true) : ltF a b = false := by simp [ltF, h]
theorem ltF_nan_right {a b : Nat} (h : isNaN b = true) : ltF a b = false := by simp [ltF, h]
theorem ltF_iff {a b : Nat} (ha : isNaN a = false) (hb : isNaN b = false) : ltF a b = true ↔ sk a < sk b := by simp [ltF, ha, hb]
theorem eqF_iff {a b : Nat} (ha : isNaN a = false) (hb : isNaN b = false) : eqF a b = true ↔ sk a = sk b := by simp [eqF, ha, hb]

theorem if_arith {A B C D : Prop} [Decidable A] [Decidable B] [Decidable C] [Decidable D] (h1 : A ↔ C) (h2 : B ↔ D) : (if A then (-1 : Int) else if B then 1 else 0) = (if C then -1 else if D then 1 else 0) := by
  simp only [h1, h2]
/-- Both say alike how two numbers stand. -/
theorem cmp_two {a b : Nat} (ha : a < 18446744073709551616) (hb : b < 18446744073709551616) : cmpC a b = cmpR a b := by
  rw [cmpC_eq ha hb]
  unfold cmpR
  rcases class_facts ha with ⟨a1, a2, a3⟩ | ⟨a1, a2, a3, a4⟩ <;> rcases class_facts hb with ⟨b1, b2, b3⟩ | ⟨b1, b2, b3, b4⟩
  · rw [ltF_nan_left a1, ltF_nan_left b1]
    exact if_arith (by simp; omega) (by simp; omega)
  · rw [ltF_nan_left a1, ltF_nan_right a1]
    exact if_arith (by simp; omega) (by simp; omega)
  · rw [ltF_nan_left b1, ltF_nan_right b1]
    exact if_arith (by simp; omega) (by simp; omega)
  · simp only [ltF_iff a1 b1, ltF_iff b1 a1]
    exact if_arith (by omega) (by omega)

end Go.Proofs.YtgeapkalabijmaaGreat

/- What the operations of one number compute. -/
namespace Go.Proofs.YtgeapkalabijmaaGreat
open Go Go.RowKit
set_option maxRecDepth 100000
set_option maxHeartbeats 1000000
set_option linter.unusedVariables false
set_option linter.unusedSimpArgs false

def qn : Nat := 9221120237041090560
theorem fixB_isNaN {b : Nat} (h : isNaN b = true) : fixB b = qn := fixB_nan h

/-- A NaN that the tape names. -/
theorem cut_nan (x y t : Nat) : isNaN ((Question.nanBits .f64 x y).cut t) = true := by
  refine decide_eq_true ?_
  show 9218868437227405312 < (t % 2 * 9223372036854775808 + 9218868437227405312 + 1 + t / 2 % 4503599627370495) % 9223372036854775808
  have h := Nat.mod_lt (t / 2) (show 0 < 4503599627370495 by decide)
  have h2 := Nat.mod_lt t (show 0 < 2 by decide)
  generalize t / 2 % 4503599627370495 = k at h ⊢
  generalize t % 2 = j at h2 ⊢
  rcases Nat.lt_or_ge j 1 with h3 | h3
  · obtain rfl : j = 0 := by omega
    omega
  · obtain rfl : j = 1 := by omega
    omega

theorem quiet_nan (s : Bool) {b : Nat} (h : 9218868437227405312 < rungB b) : isNaN (f64.write (.nan s (f64.quiet (rungB b - 9218868437227405312)))) = true := by
  have hlt := rungB_lt b
  obtain ⟨t, ht⟩ : ∃ t, t = rungB b - 9218868437227405312 := ⟨_, rfl⟩
  rw [← ht]
  have ht2 : t < 2 ^ 52 := by omega
  have hq : f64.quiet t = t ||| 2 ^ 51 := rfl
  have h1 : t ||| 2 ^ 51 < 2 ^ 52 := Nat.or_lt_two_pow ht2 (by decide)
  have h2 : 2 ^ 51 ≤ t ||| 2 ^ 51 := Nat.right_le_or
  rw [hq]
  generalize t ||| 2 ^ 51 = q at h1 h2
  show isNaN (f64.word s (9218868437227405312 + q % 4503599627370496)) = true
  have h3 : q < 4503599627370496 := h1
  have h4 : 2251799813685248 ≤ q := h2
  rw [Nat.mod_eq_of_lt h3]
  cases s
  · refine decide_eq_true ?_
    show 9218868437227405312 < (9218868437227405312 + q) % 9223372036854775808
    omega
  · refine decide_eq_true ?_
    show 9218868437227405312 < (9223372036854775808 + (9218868437227405312 + q)) % 9223372036854775808
    omega

/-- A number made whole, each NaN the one. -/
def wholeV (way : Ieee.Toward) (b : Nat) : Nat := if isNaN b then qn else fixB (f64.write ((f64.read b).integral way))

theorem whole_run (name : String) (way : Ieee.Toward) (b : Nat) (w : World) : ∃ r m, (Extern.MathFloor.toIntegral name way #[fl b]).run Tryz.prog w = .ok (fl r) (w.drewN m) ∧ fixB r = wholeV way b := by
  unfold wholeV
  have e : Extern.MathFloor.toIntegral name way #[fl b] = (match f64.read b with
      | .nan s t => if f64.quiet t = t then pure (.float .f64 b) else (choose (.extern "math.Floor,Ceil,Trunc,RoundToEven.signallingNaN kept" 2) >>= fun kept => pure (.float .f64 (if kept == 1 then b else f64.write (.nan s (f64.quiet t)))))
      | d => pure (.float .f64 (f64.write (d.integral way)))) := rfl
  rw [e]
  cases hn : isNaN b with
  | false =>
    have hr : rungB b ≤ 9218868437227405312 := by simpa [isNaN] using hn
    refine ⟨f64.write ((f64.read b).integral way), 0, ?_, rfl⟩
    rcases Nat.lt_or_eq_of_le hr with h | h
    · obtain ⟨m, p, e, _⟩ := read_fin h
      rw [e]
      rfl
    · rw [read_inf h]
      rfl
  | true =>
    have hr : 9218868437227405312 < rungB b := by simpa [isNaN] using hn
    rw [read_nan hr]
    by_cases hq : f64.quiet (rungB b - 9218868437227405312) = rungB b - 9218868437227405312
    · refine ⟨b, 0, ?_, fixB_isNaN hn⟩
      simp only [if_pos hq]
      rfl
    · simp only [if_neg hq]
      generalize hK : (Question.extern "math.Floor,Ceil,Trunc,RoundToEven.signallingNaN kept" 2).cut (w.tape w.drawn (Question.extern "math.Floor,Ceil,Trunc,RoundToEven.signallingNaN kept" 2)) = K
      have hc : (choose (.extern "math.Floor,Ceil,Trunc,RoundToEven.signallingNaN kept" 2)).run Tryz.prog w = .ok K w.drew := by rw [run_choose_drew, hK]; rfl
      by_cases hk : (K == 1) = true
      · refine ⟨b, 1, ?_, fixB_isNaN hn⟩
        rw [Sem.run_bind, hc]
        simp [Result.andThen, hk]
        rfl
      · refine ⟨f64.write (.nan (negB b) (f64.quiet (rungB b - 9218868437227405312))), 1, ?_, fixB_isNaN (quiet_nan _ hr)⟩
        rw [Sem.run_bind, hc]
        simp only [Result.andThen, if_neg hk]
        rfl

def sqrtV (b : Nat) : Nat := match f64.sqrt b with | some r => fixB r | none => qn
theorem sqrt_run (b : Nat) (w : World) : ∃ r m, (Extern.MathSqrt.sqrt #[fl b]).run Tryz.prog w = .ok (fl r) (w.drewN m) ∧ fixB r = sqrtV b := by
  unfold sqrtV
  have e : Extern.MathSqrt.sqrt #[fl b] = (match f64.sqrt b with
      | some r => pure (.float .f64 r)
      | none => (choose (.nanBits .f64 b b) >>= fun r => pure (.float .f64 r))) := rfl
  rw [e]
  cases h : f64.sqrt b with
  | some r => exact ⟨r, 0, rfl, rfl⟩
  | none =>
    refine ⟨(Question.nanBits .f64 b b).cut (w.tape w.drawn (Question.nanBits .f64 b b)), 1, ?_, fixB_isNaN (cut_nan b b _)⟩
    have hc : (choose (.nanBits .f64 b b)).run Tryz.prog w = .ok ((Question.nanBits .f64 b b).cut (w.tape w.drawn (Question.nanBits .f64 b b))) w.drew := by rw [run_choose_drew]; rfl
    show Sem.run _ (choose _ >>= _) w = _
    rw [Sem.run_bind, hc]
    rfl

theorem floor_any (b : Nat) (w : World) : Calls Tryz.prog 184 #[fl b] w fun e w' => ∃ r, e = .returned (fl r) ∧ fixB r = wholeV .down b ∧ ∃ m, w' = w.drewN m := by
  obtain ⟨r, m, h1, h2⟩ := whole_run "math.archFloor" .down b w
  have hext : (callFunc 206 #[fl b]).run Tryz.prog w = .ok (.value (fl r)) (w.drewN m) := by
    rw [run_callFunc_extern (e := Extern.MathFloor.toIntegral "math.archFloor" .down) Tryz.func206 (by kernel_rfl) (by kernel_rfl) (by kernel_rfl) (by kernel_rfl), h1]
    rfl
  have H2 := Lib.hid h2
  clear h1 h2
  go_enter Tryz.func184, Tryz.ntmps184
  go_wp2
  go_ret
  exact ⟨r, rfl, H2.out, m, rfl⟩
theorem trunc_any (b : Nat) (w : World) : Calls Tryz.prog 181 #[fl b] w fun e w' => ∃ r, e = .returned (fl r) ∧ fixB r = wholeV .zero b ∧ ∃ m, w' = w.drewN m := by
  obtain ⟨r, m, h1, h2⟩ := whole_run "math.archTrunc" .zero b w
  have hext : (callFunc 204 #[fl b]).run Tryz.prog w = .ok (.value (fl r)) (w.drewN m) := by
    rw [run_callFunc_extern (e := Extern.MathFloor.toIntegral "math.archTrunc" .zero) Tryz.func204 (by kernel_rfl) (by kernel_rfl) (by kernel_rfl) (by kernel_rfl), h1]
    rfl
  have H2 := Lib.hid h2
  clear h1 h2
  go_enter Tryz.func181, Tryz.ntmps181
  go_wp2
  go_ret
  exact ⟨r, rfl, H2.out, m, rfl⟩
theorem sqrt_any (b : Nat) (w : World) : Calls Tryz.prog 185 #[fl b] w fun e w' => ∃ r, e = .returned (fl r) ∧ fixB r = sqrtV b ∧ ∃ m, w' = w.drewN m := by
  obtain ⟨r, m, h1, h2⟩ := sqrt_run b w
  have hext : (callFunc 208 #[fl b]).run Tryz.prog w = .ok (.value (fl r)) (w.drewN m) := by
    rw [run_callFunc_extern (e := Extern.MathSqrt.sqrt) Tryz.func208 (by kernel_rfl) (by kernel_rfl) (by kernel_rfl) (by kernel_rfl), h1]
    rfl
  have H2 := Lib.hid h2
  clear h1 h2
  go_enter Tryz.func185, Tryz.ntmps185
  go_wp2
  go_ret
  exact ⟨r, rfl, H2.out, m, rfl⟩

def yesW (b : Bool) : Nat := if b then 4607182418800017408 else 0
theorem yes_any (b : Bool) (w : World) : Calls Tryz.prog 187 #[.bool b] w fun e w' => e = .returned (fl (yesW b)) ∧ w = w' := by
  cases b with
  | true =>
    go_enter Tryz.func187, Tryz.ntmps187
    go_wp2
    go_ret
    exact ⟨rfl, rfl⟩
  | false =>
    go_enter Tryz.func187, Tryz.ntmps187
    go_wp2
    go_ret
    exact ⟨rfl, rfl⟩
@[go_sem] theorem unary_neg_float (k : FloatKind) (b : Nat) : Op.unary .neg (.float k b) = pure (.float k (Op.negFloat k b)) := rfl
theorem neg_any (b : Nat) (w : World) : Calls Tryz.prog 182 #[fl b] w fun e w' => e = .returned (fl (Op.negFloat .f64 b)) ∧ w = w' := by
  go_enter Tryz.func182, Tryz.ntmps182
  go_wp2
  go_ret
  exact ⟨rfl, rfl⟩
def absW (b : Nat) : Nat := (bits .andNot .u64 b 9223372036854775808).toNat
theorem abs_any (b : Nat) (w : World) : Calls Tryz.prog 183 #[fl b] w fun e w' => e = .returned (fl (absW b)) ∧ w = w' := by
  go_enter Tryz.func183, Tryz.ntmps183
  go_wp2
  go_ret
  exact ⟨rfl, rfl⟩
theorem not_any (b : Nat) (w : World) : Calls Tryz.prog 186 #[fl b] w fun e w' => e = .returned (fl (yesW (!trueB b))) ∧ w = w' := by
  go_enter Tryz.func186, Tryz.ntmps186
  go_wp2_with fail
  refine (true_any _ _).mono ?_
  rintro e w' ⟨rfl, rfl⟩
  go_wp2_with fail
  refine (yes_any _ _).mono ?_
  rintro e w' ⟨rfl, rfl⟩
  go_wp2_with fail
  go_ret
  exact ⟨rfl, rfl⟩
theorem isnan_any (b : Nat) (w : World) : Calls Tryz.prog 188 #[fl b] w fun e w' => e = .returned (fl (yesW (isNaN b))) ∧ w = w' := by
  have he : (!eqF b b) = isNaN b := by rw [eqF_self]; simp
  have HE := Lib.hid he
  clear he
  go_enter Tryz.func188, Tryz.ntmps188
  go_wp2_with fail
  refine (yes_any _ _).mono ?_
  rintro e w' ⟨rfl, rfl⟩
  rw [HE.out]
  go_wp2_with fail
  go_ret
  exact ⟨rfl, rfl⟩
def signW (b : Nat) : Nat := if ltF 0 b then 4607182418800017408 else if ltF b 0 then 13830554455654793216 else b
theorem sign_any (b : Nat) (w : World) : Calls Tryz.prog 189 #[fl b] w fun e w' => e = .returned (fl (signW b)) ∧ w = w' := by
  have HC := Lib.hid (show signW b = if ltF 0 b then 4607182418800017408 else if ltF b 0 then 13830554455654793216 else b from rfl)
  cases h1 : ltF 0 b with
  | true =>
    rw [h1] at HC
    go_enter Tryz.func189, Tryz.ntmps189
    go_wp2
    go_ret
    exact ⟨by rw [HC.out]; rfl, rfl⟩
  | false =>
    cases h2 : ltF b 0 with
    | true =>
      rw [h1, h2] at HC
      go_enter Tryz.func189, Tryz.ntmps189
      go_wp2
      go_ret
      exact ⟨by rw [HC.out]; rfl, rfl⟩
    | false =>
      rw [h1, h2] at HC
      go_enter Tryz.func189, Tryz.ntmps189
      go_wp2
      go_ret
      exact ⟨by rw [HC.out]; rfl, rfl⟩
def hashI (y : Nat) : Int := bits .xor .u64 y ((y : Int) / 4294967296) % 4294967296 * 2654435769 % 4294967296 / 65536
theorem hash_any (b : Nat) (w : World) : Calls Tryz.prog 190 #[fl b] w fun e w' => e = .returned (fl (floatOfInt .f64 (hashI (fixB b)))) ∧ w = w' := by
  go_enter Tryz.func190, Tryz.ntmps190
  go_wp2_with fail
  refine (nbits_any _ _).mono ?_
  rintro e w' ⟨rfl, rfl⟩
  go_wp2_with fail
  go_ret
  exact ⟨rfl, rfl⟩

end Go.Proofs.YtgeapkalabijmaaGreat

/- number.One, operation by operation. -/
namespace Go.Proofs.YtgeapkalabijmaaGreat
open Go Go.RowKit
set_option maxRecDepth 100000
set_option maxHeartbeats 1000000
set_option linter.unusedVariables false
set_option linter.unusedSimpArgs false

/-- The table of the operations. -/
def onesT : Array Value := #[.nilFunc, .func (.func 182) #[] #[], .func (.func 183) #[] #[], .func (.func 184) #[] #[], .func (.func 185) #[] #[], .func (.func 186) #[] #[], .func (.func 188) #[] #[], .func (.func 189) #[] #[], .func (.func 190) #[] #[]]
theorem ones_any (w : World) : Calls Tryz.prog 179 #[] w fun e w' => e = .returned (.slice (some ⟨w.heap.size, 0, none⟩) 9 9) ∧ w' = w.alloc (.cells onesT 143) := by
  go_enter Tryz.func179, Tryz.ntmps179
  go_wp2
  go_ret
  exact ⟨rfl, rfl⟩
theorem ones_cell (w : World) (j : Nat) : (w.alloc (.cells onesT 143)).cell? ⟨w.heap.size, j, none⟩ = onesT[j]? := blk_cell (heap_alloc_new w _) j

theorem one_bad (op : Int) (x : Nat) (w : World) (h : op < 1 ∨ 8 < op) : Calls Tryz.prog 176 #[.int .i64 op, fl x] w fun e w' => e = .returned (.tuple #[fl 0, .int .i64 1]) ∧ Chg w w' Nothing := by
  by_cases h1 : op < 1
  · have b1 : decide (op < 1) = true := decide_eq_true h1
    clear h h1
    go_enter Tryz.func176, Tryz.ntmps176
    go_wp2_with fail
    refine (ones_any _).mono ?_
    rintro e w' ⟨rfl, rfl⟩
    go_wp2_with fail
    go_ret2
    exact ⟨rfl, (Chg.refl _ _).alloc _⟩
  · have b1 : decide (op < 1) = false := decide_eq_false h1
    have b2 : decide (9 ≤ op) = true := decide_eq_true (by omega)
    clear h h1
    go_enter Tryz.func176, Tryz.ntmps176
    go_wp2_with fail
    refine (ones_any _).mono ?_
    rintro e w' ⟨rfl, rfl⟩
    go_wp2_with fail
    go_ret2
    exact ⟨rfl, (Chg.refl _ _).alloc _⟩


theorem one_1 (x : Nat) (w : World) : Calls Tryz.prog 176 #[.int .i64 1, fl x] w fun e w' => e = .returned (.tuple #[fl (fixB (Op.negFloat .f64 (fixB x))), .int .i64 0]) ∧ Chg w w' Nothing := by
  have hc : (w.alloc (.cells onesT 143)).cell? ⟨w.heap.size, 1, none⟩ = some (.func (.func 182) #[] #[]) := ones_cell w 1
  go_enter Tryz.func176, Tryz.ntmps176
  go_wp2_with fail
  refine (ones_any _).mono ?_
  rintro e w' ⟨rfl, rfl⟩
  go_wp2_with fail
  go_region_law (first | (go_simp; go_at_call 115; refine (fix_any _ _).mono ?_; rintro e w' ⟨rfl, rfl⟩) | (go_simp; go_at_call 182; refine (neg_any _ _).mono ?_; rintro e w' ⟨rfl, rfl⟩))
  all_goals
    go_wp2_with fail
    go_ret2
    exact ⟨rfl, ((Chg.refl _ _).alloc _).drewN _⟩


theorem one_2 (x : Nat) (w : World) : Calls Tryz.prog 176 #[.int .i64 2, fl x] w fun e w' => e = .returned (.tuple #[fl (fixB (absW (fixB x))), .int .i64 0]) ∧ Chg w w' Nothing := by
  have hc : (w.alloc (.cells onesT 143)).cell? ⟨w.heap.size, 2, none⟩ = some (.func (.func 183) #[] #[]) := ones_cell w 2
  go_enter Tryz.func176, Tryz.ntmps176
  go_wp2_with fail
  refine (ones_any _).mono ?_
  rintro e w' ⟨rfl, rfl⟩
  go_wp2_with fail
  go_region_law (first | (go_simp; go_at_call 115; refine (fix_any _ _).mono ?_; rintro e w' ⟨rfl, rfl⟩) | (go_simp; go_at_call 183; refine (abs_any _ _).mono ?_; rintro e w' ⟨rfl, rfl⟩))
  all_goals
    go_wp2_with fail
    go_ret2
    exact ⟨rfl, ((Chg.refl _ _).alloc _).drewN _⟩


theorem one_3 (x : Nat) (w : World) : Calls Tryz.prog 176 #[.int .i64 3, fl x] w fun e w' => e = .returned (.tuple #[fl (wholeV .down (fixB x)), .int .i64 0]) ∧ Chg w w' Nothing := by
  have hc : (w.alloc (.cells onesT 143)).cell? ⟨w.heap.size, 3, none⟩ = some (.func (.func 184) #[] #[]) := ones_cell w 3
  go_enter Tryz.func176, Tryz.ntmps176
  go_wp2_with fail
  refine (ones_any _).mono ?_
  rintro e w' ⟨rfl, rfl⟩
  go_wp2_with fail
  go_region_law (first | (go_simp; go_at_call 115; refine (fix_any _ _).mono ?_; rintro e w' ⟨rfl, rfl⟩) | (go_simp; go_at_call 184; refine (floor_any _ _).mono ?_; rintro e w' ⟨r, rfl, hr, m, rfl⟩))
  all_goals
    go_wp2_with fail
    go_ret2
    exact ⟨by rw [← hr]; rfl, ((Chg.refl _ _).alloc _).drewN _⟩


theorem one_4 (x : Nat) (w : World) : Calls Tryz.prog 176 #[.int .i64 4, fl x] w fun e w' => e = .returned (.tuple #[fl (sqrtV (fixB x)), .int .i64 0]) ∧ Chg w w' Nothing := by
  have hc : (w.alloc (.cells onesT 143)).cell? ⟨w.heap.size, 4, none⟩ = some (.func (.func 185) #[] #[]) := ones_cell w 4
  go_enter Tryz.func176, Tryz.ntmps176
  go_wp2_with fail
  refine (ones_any _).mono ?_
  rintro e w' ⟨rfl, rfl⟩
  go_wp2_with fail
  go_region_law (first | (go_simp; go_at_call 115; refine (fix_any _ _).mono ?_; rintro e w' ⟨rfl, rfl⟩) | (go_simp; go_at_call 185; refine (sqrt_any _ _).mono ?_; rintro e w' ⟨r, rfl, hr, m, rfl⟩))
  all_goals
    go_wp2_with fail
    go_ret2
    exact ⟨by rw [← hr]; rfl, ((Chg.refl _ _).alloc _).drewN _⟩


theorem one_5 (x : Nat) (w : World) : Calls Tryz.prog 176 #[.int .i64 5, fl x] w fun e w' => e = .returned (.tuple #[fl (fixB (yesW (!trueB (fixB x)))), .int .i64 0]) ∧ Chg w w' Nothing := by
  have hc : (w.alloc (.cells onesT 143)).cell? ⟨w.heap.size, 5, none⟩ = some (.func (.func 186) #[] #[]) := ones_cell w 5
  go_enter Tryz.func176, Tryz.ntmps176
  go_wp2_with fail
  refine (ones_any _).mono ?_
  rintro e w' ⟨rfl, rfl⟩
  go_wp2_with fail
  go_region_law (first | (go_simp; go_at_call 115; refine (fix_any _ _).mono ?_; rintro e w' ⟨rfl, rfl⟩) | (go_simp; go_at_call 186; refine (not_any _ _).mono ?_; rintro e w' ⟨rfl, rfl⟩))
  all_goals
    go_wp2_with fail
    go_ret2
    exact ⟨rfl, ((Chg.refl _ _).alloc _).drewN _⟩


theorem one_6 (x : Nat) (w : World) : Calls Tryz.prog 176 #[.int .i64 6, fl x] w fun e w' => e = .returned (.tuple #[fl (fixB (yesW (isNaN (fixB x)))), .int .i64 0]) ∧ Chg w w' Nothing := by
  have hc : (w.alloc (.cells onesT 143)).cell? ⟨w.heap.size, 6, none⟩ = some (.func (.func 188) #[] #[]) := ones_cell w 6
  go_enter Tryz.func176, Tryz.ntmps176
  go_wp2_with fail
  refine (ones_any _).mono ?_
  rintro e w' ⟨rfl, rfl⟩
  go_wp2_with fail
  go_region_law (first | (go_simp; go_at_call 115; refine (fix_any _ _).mono ?_; rintro e w' ⟨rfl, rfl⟩) | (go_simp; go_at_call 188; refine (isnan_any _ _).mono ?_; rintro e w' ⟨rfl, rfl⟩))
  all_goals
    go_wp2_with fail
    go_ret2
    exact ⟨rfl, ((Chg.refl _ _).alloc _).drewN _⟩


theorem one_7 (x : Nat) (w : World) : Calls Tryz.prog 176 #[.int .i64 7, fl x] w fun e w' => e = .returned (.tuple #[fl (fixB (signW (fixB x))), .int .i64 0]) ∧ Chg w w' Nothing := by
  have hc : (w.alloc (.cells onesT 143)).cell? ⟨w.heap.size, 7, none⟩ = some (.func (.func 189) #[] #[]) := ones_cell w 7
  go_enter Tryz.func176, Tryz.ntmps176
  go_wp2_with fail
  refine (ones_any _).mono ?_
  rintro e w' ⟨rfl, rfl⟩
  go_wp2_with fail
  go_region_law (first | (go_simp; go_at_call 115; refine (fix_any _ _).mono ?_; rintro e w' ⟨rfl, rfl⟩) | (go_simp; go_at_call 189; refine (sign_any _ _).mono ?_; rintro e w' ⟨rfl, rfl⟩))
  all_goals
    go_wp2_with fail
    go_ret2
    exact ⟨rfl, ((Chg.refl _ _).alloc _).drewN _⟩


theorem one_8 (x : Nat) (w : World) : Calls Tryz.prog 176 #[.int .i64 8, fl x] w fun e w' => e = .returned (.tuple #[fl (fixB (floatOfInt .f64 (hashI (fixB (fixB x))))), .int .i64 0]) ∧ Chg w w' Nothing := by
  have hc : (w.alloc (.cells onesT 143)).cell? ⟨w.heap.size, 8, none⟩ = some (.func (.func 190) #[] #[]) := ones_cell w 8
  go_enter Tryz.func176, Tryz.ntmps176
  go_wp2_with fail
  refine (ones_any _).mono ?_
  rintro e w' ⟨rfl, rfl⟩
  go_wp2_with fail
  go_region_law (first | (go_simp; go_at_call 115; refine (fix_any _ _).mono ?_; rintro e w' ⟨rfl, rfl⟩) | (go_simp; go_at_call 190; refine (hash_any _ _).mono ?_; rintro e w' ⟨rfl, rfl⟩))
  all_goals
    go_wp2_with fail
    go_ret2
    exact ⟨rfl, ((Chg.refl _ _).alloc _).drewN _⟩


end Go.Proofs.YtgeapkalabijmaaGreat

/- The document's One, operation by operation. -/
namespace Go.Proofs.YtgeapkalabijmaaGreat
open Go Go.RowKit
set_option maxRecDepth 100000
set_option maxHeartbeats 1000000
set_option linter.unusedVariables false
set_option linter.unusedSimpArgs false

def hashR (y : Nat) : Int := wrap64 (IntKind.u64.wrap (((IntKind.u64.wrap ((bits .xor .u64 y (IntKind.u64.wrap ((y : Int) / 4294967296))).tmod 4294967296 * 2654435769)).tmod 4294967296).tdiv 65536))
theorem hash_range {y : Nat} (h : y < 18446744073709551616) : ∃ n : Nat, n < 65536 ∧ hashI y = n ∧ hashR y = n := by
  have e1 : ((y : Int) / 4294967296) = ((y / 4294967296 : Nat) : Int) := by omega
  have hw : IntKind.u64.wrap (((y / 4294967296 : Nat)) : Int) = ((y / 4294967296 : Nat) : Int) := by rw [IntKind.wrap_u64]; omega
  have hx : bits .xor .u64 (y : Int) (((y / 4294967296 : Nat)) : Int) = ((y ^^^ (y / 4294967296) : Nat) : Int) := bits_xor_u64_nat _ _ h (by omega)
  unfold hashI hashR
  rw [e1, hw, hx]
  generalize y ^^^ (y / 4294967296) = X
  refine ⟨X % 4294967296 * 2654435769 % 4294967296 / 65536, by omega, by omega, ?_⟩
  have t1 : ((X : Int)).tmod 4294967296 = ((X % 4294967296 : Nat) : Int) := by rw [Int.tmod_eq_emod_of_nonneg (by omega)]; omega
  rw [t1]
  have hX : X % 4294967296 < 4294967296 := Nat.mod_lt _ (by decide)
  generalize X % 4294967296 = Y at hX
  have t2 : IntKind.u64.wrap ((Y : Int) * 2654435769) = ((Y * 2654435769 : Nat) : Int) := by rw [IntKind.wrap_u64]; omega
  rw [t2]
  have t3 : (((Y * 2654435769 : Nat) : Int)).tmod 4294967296 = ((Y * 2654435769 % 4294967296 : Nat) : Int) := by rw [Int.tmod_eq_emod_of_nonneg (by omega)]; omega
  rw [t3]
  have hZ : Y * 2654435769 % 4294967296 < 4294967296 := Nat.mod_lt _ (by decide)
  generalize Y * 2654435769 % 4294967296 = Z at hZ
  have t4 : ((Z : Int)).tdiv 65536 = ((Z / 65536 : Nat) : Int) := by rw [Int.tdiv_eq_ediv_of_nonneg (by omega)]; omega
  rw [t4, IntKind.wrap_u64]
  unfold wrap64
  omega

/-- The document's sign. -/
def signR (b : Nat) : Nat := if ltF b 0 then 13830554455654793216 else if ltF 0 b then 4607182418800017408 else b
end Go.Proofs.YtgeapkalabijmaaGreat

/- One: both say alike. -/
namespace Go.Proofs.YtgeapkalabijmaaGreat
open Go Go.RowKit
set_option maxRecDepth 100000
set_option maxHeartbeats 1000000
set_option linter.unusedVariables false
set_option linter.unusedSimpArgs false

theorem fix_zero : fixB 0 = 0 := by decide
theorem trueB_fix (b : Nat) : trueB (fixB b) = trueB b := by
  unfold trueB
  have := eqF_fix b 0
  rw [fix_zero] at this
  rw [isNaN_fix, this]
theorem wholeV_fix (way : Ieee.Toward) (b : Nat) : wholeV way (fixB b) = wholeV way b := by
  unfold wholeV
  rw [isNaN_fix]
  cases h : isNaN b with
  | true => rfl
  | false => rw [fixB_num h]
theorem sqrt_nan {b : Nat} (h : isNaN b = true) : f64.sqrt b = none := by
  have h' : 9218868437227405312 < rungB b := by simpa [isNaN] using h
  unfold Ieee.Format.sqrt
  rw [read_nan h']
  rfl
theorem sqrtV_fix (b : Nat) : sqrtV (fixB b) = sqrtV b := by
  cases h : isNaN b with
  | true => unfold sqrtV; rw [sqrt_nan h, sqrt_nan (by rw [isNaN_fix]; exact h)]
  | false => rw [fixB_num h]
theorem lt_fix_zero (b : Nat) : ltF 0 (fixB b) = ltF 0 b := by have := ltF_fix 0 b; rwa [fix_zero] at this
theorem lt_zero_fix (b : Nat) : ltF (fixB b) 0 = ltF b 0 := by have := ltF_fix b 0; rwa [fix_zero] at this
theorem lt_not {a b : Nat} (h : ltF a b = true) : ltF b a = false := by
  unfold ltF at h ⊢
  simp only [Bool.and_eq_true, decide_eq_true_eq] at h
  have : ¬ sk b < sk a := by omega
  simp [this]
theorem sign_two (x : Nat) : fixB (signW (fixB x)) = fixB (signR x) := by
  unfold signW signR
  rw [lt_fix_zero, lt_zero_fix]
  cases h1 : ltF 0 x with
  | true => rw [lt_not h1]; rfl
  | false =>
    cases h2 : ltF x 0 with
    | true => rfl
    | false => exact fixB_fix x

theorem neg_xor (b : Nat) : Op.negFloat .f64 b = b ^^^ 9223372036854775808 := rfl
/-- What One makes of a number. -/
def oneV (op : Int) (x : Nat) : Nat :=
  if op = 1 then fixB (Op.negFloat .f64 (fixB x)) else if op = 2 then fixB (absW (fixB x)) else if op = 3 then wholeV .down x else if op = 4 then sqrtV x
  else if op = 5 then fixB (yesW (!trueB x)) else if op = 6 then fixB (yesW (isNaN x)) else if op = 7 then fixB (signR x) else if op = 8 then fixB (floatOfInt .f64 (hashI (fixB x))) else 0
def oneE (op : Int) : Int := if 1 ≤ op ∧ op ≤ 8 then 0 else 1
theorem oneV_1 (x : Nat) : oneV 1 x = fixB (Op.negFloat .f64 (fixB x)) := by unfold oneV; rw [if_pos rfl]
theorem oneE_1 : oneE 1 = 0 := by unfold oneE; rw [if_pos (by decide)]
theorem oneV_2 (x : Nat) : oneV 2 x = fixB (absW (fixB x)) := by unfold oneV; rw [if_neg (by decide), if_pos rfl]
theorem oneE_2 : oneE 2 = 0 := by unfold oneE; rw [if_pos (by decide)]
theorem oneV_3 (x : Nat) : oneV 3 x = wholeV .down x := by unfold oneV; rw [if_neg (by decide), if_neg (by decide), if_pos rfl]
theorem oneE_3 : oneE 3 = 0 := by unfold oneE; rw [if_pos (by decide)]
theorem oneV_4 (x : Nat) : oneV 4 x = sqrtV x := by unfold oneV; rw [if_neg (by decide), if_neg (by decide), if_neg (by decide), if_pos rfl]
theorem oneE_4 : oneE 4 = 0 := by unfold oneE; rw [if_pos (by decide)]
theorem oneV_5 (x : Nat) : oneV 5 x = fixB (yesW (!trueB x)) := by unfold oneV; rw [if_neg (by decide), if_neg (by decide), if_neg (by decide), if_neg (by decide), if_pos rfl]
theorem oneE_5 : oneE 5 = 0 := by unfold oneE; rw [if_pos (by decide)]
theorem oneV_6 (x : Nat) : oneV 6 x = fixB (yesW (isNaN x)) := by unfold oneV; rw [if_neg (by decide), if_neg (by decide), if_neg (by decide), if_neg (by decide), if_neg (by decide), if_pos rfl]
theorem oneE_6 : oneE 6 = 0 := by unfold oneE; rw [if_pos (by decide)]
theorem oneV_7 (x : Nat) : oneV 7 x = fixB (signR x) := by unfold oneV; rw [if_neg (by decide), if_neg (by decide), if_neg (by decide), if_neg (by decide), if_neg (by decide), if_neg (by decide), if_pos rfl]
theorem oneE_7 : oneE 7 = 0 := by unfold oneE; rw [if_pos (by decide)]
theorem oneV_8 (x : Nat) : oneV 8 x = fixB (floatOfInt .f64 (hashI (fixB x))) := by unfold oneV; rw [if_neg (by decide), if_neg (by decide), if_neg (by decide), if_neg (by decide), if_neg (by decide), if_neg (by decide), if_neg (by decide), if_pos rfl]
theorem oneE_8 : oneE 8 = 0 := by unfold oneE; rw [if_pos (by decide)]

theorem one_any (op : Int) (x : Nat) (w : World) : Calls Tryz.prog 176 #[.int .i64 op, fl x] w fun e w' => e = .returned (.tuple #[fl (oneV op x), .int .i64 (oneE op)]) ∧ Chg w w' Nothing := by
  by_cases hb : op < 1 ∨ 8 < op
  · refine (one_bad op x w hb).mono fun e w' ⟨he, hc⟩ => ⟨?_, hc⟩
    rw [he]
    have e1 : oneE op = 1 := by unfold oneE; rw [if_neg (by omega)]
    have e2 : oneV op x = 0 := by
      unfold oneV
      rw [if_neg (by omega), if_neg (by omega), if_neg (by omega), if_neg (by omega), if_neg (by omega), if_neg (by omega), if_neg (by omega), if_neg (by omega)]
    rw [e1, e2]
  · have : op = 1 ∨ op = 2 ∨ op = 3 ∨ op = 4 ∨ op = 5 ∨ op = 6 ∨ op = 7 ∨ op = 8 := by omega
    rcases this with rfl | rfl | rfl | rfl | rfl | rfl | rfl | rfl
    · rw [oneV_1, oneE_1]
      refine (one_1 x w).mono fun e w' ⟨he, hc⟩ => ⟨?_, hc⟩
      rw [he]
    · rw [oneV_2, oneE_2]
      refine (one_2 x w).mono fun e w' ⟨he, hc⟩ => ⟨?_, hc⟩
      rw [he]
    · rw [oneV_3, oneE_3]
      refine (one_3 x w).mono fun e w' ⟨he, hc⟩ => ⟨?_, hc⟩
      rw [he, wholeV_fix]
    · rw [oneV_4, oneE_4]
      refine (one_4 x w).mono fun e w' ⟨he, hc⟩ => ⟨?_, hc⟩
      rw [he, sqrtV_fix]
    · rw [oneV_5, oneE_5]
      refine (one_5 x w).mono fun e w' ⟨he, hc⟩ => ⟨?_, hc⟩
      rw [he, trueB_fix]
    · rw [oneV_6, oneE_6]
      refine (one_6 x w).mono fun e w' ⟨he, hc⟩ => ⟨?_, hc⟩
      rw [he, isNaN_fix]
    · rw [oneV_7, oneE_7]
      refine (one_7 x w).mono fun e w' ⟨he, hc⟩ => ⟨?_, hc⟩
      rw [he, sign_two]
    · rw [oneV_8, oneE_8]
      refine (one_8 x w).mono fun e w' ⟨he, hc⟩ => ⟨?_, hc⟩
      rw [he, fixB_fix]

theorem Chg.of_drewN (w : World) (m : Nat) : Chg w (w.drewN m) Nothing := (Chg.refl _ _).drewN m
end Go.Proofs.YtgeapkalabijmaaGreat

/- What the operations of two numbers compute. -/
namespace Go.Proofs.YtgeapkalabijmaaGreat
open Go Go.RowKit
set_option maxRecDepth 100000
set_option maxHeartbeats 1000000
set_option linter.unusedVariables false
set_option linter.unusedSimpArgs false

/-- Reckoning: what comes of it, each NaN the one. -/
def arV (op : BinOp) (a b : Nat) : Nat := match floatBits op .f64 a b with | some r => fixB r | none => qn
theorem ar_run (op : BinOp) (hop : op = .add ∨ op = .sub ∨ op = .mul ∨ op = .quo) (T : TypeId) (a b : Nat) (w : World) : ∃ r m, (binOp op T (fl a) (fl b)).run Tryz.prog w = .ok (fl r) (w.drewN m) ∧ fixB r = arV op a b := by
  unfold arV
  cases h : floatBits op .f64 a b with
  | some r => exact ⟨r, 0, run_float_arith w op T .f64 a b r h, rfl⟩
  | none =>
    refine ⟨(Question.nanBits .f64 a b).cut (w.tape w.drawn (Question.nanBits .f64 a b)), 1, ?_, fixB_isNaN (cut_nan a b _)⟩
    have hc : (choose (.nanBits .f64 a b)).run Tryz.prog w = .ok ((Question.nanBits .f64 a b).cut (w.tape w.drawn (Question.nanBits .f64 a b))) w.drew := by rw [run_choose_drew]; rfl
    have e : binOp op T (fl a) (fl b) = (choose (.nanBits .f64 a b) >>= fun r => pure (.float .f64 r)) := by
      rcases hop with rfl | rfl | rfl | rfl
      all_goals
        simp only [floatBits] at h
        simp [binOp, Op.floatArith, h]
    rw [e, Sem.run_bind, hc]
    rfl
theorem nanf_any (w : World) : Calls Tryz.prog 209 #[] w fun e w' => e = .returned (fl 9221120237041090561) ∧ w = w' := by
  go_enter Tryz.func209, Tryz.ntmps209
  go_wp2
  go_ret
  exact ⟨rfl, rfl⟩

theorem fadd_any (a b : Nat) (w : World) : Calls Tryz.prog 191 #[fl a, fl b] w fun e w' => ∃ r, e = .returned (fl r) ∧ fixB r = arV .add a b ∧ ∃ m, w' = w.drewN m := by
  obtain ⟨r, m, h1, h2⟩ := ar_run .add (by simp) 61 a b w
  have H2 := Lib.hid h2
  clear h2
  go_enter Tryz.func191, Tryz.ntmps191
  go_wp2
  go_ret
  exact ⟨r, rfl, H2.out, m, rfl⟩

theorem fsub_any (a b : Nat) (w : World) : Calls Tryz.prog 192 #[fl a, fl b] w fun e w' => ∃ r, e = .returned (fl r) ∧ fixB r = arV .sub a b ∧ ∃ m, w' = w.drewN m := by
  obtain ⟨r, m, h1, h2⟩ := ar_run .sub (by simp) 61 a b w
  have H2 := Lib.hid h2
  clear h2
  go_enter Tryz.func192, Tryz.ntmps192
  go_wp2
  go_ret
  exact ⟨r, rfl, H2.out, m, rfl⟩

theorem fmul_any (a b : Nat) (w : World) : Calls Tryz.prog 193 #[fl a, fl b] w fun e w' => ∃ r, e = .returned (fl r) ∧ fixB r = arV .mul a b ∧ ∃ m, w' = w.drewN m := by
  obtain ⟨r, m, h1, h2⟩ := ar_run .mul (by simp) 61 a b w
  have H2 := Lib.hid h2
  clear h2
  go_enter Tryz.func193, Tryz.ntmps193
  go_wp2
  go_ret
  exact ⟨r, rfl, H2.out, m, rfl⟩

theorem fquo_any (a b : Nat) (w : World) : Calls Tryz.prog 194 #[fl a, fl b] w fun e w' => ∃ r, e = .returned (fl r) ∧ fixB r = arV .quo a b ∧ ∃ m, w' = w.drewN m := by
  obtain ⟨r, m, h1, h2⟩ := ar_run .quo (by simp) 61 a b w
  have H2 := Lib.hid h2
  clear h2
  go_enter Tryz.func194, Tryz.ntmps194
  go_wp2
  go_ret
  exact ⟨r, rfl, H2.out, m, rfl⟩


end Go.Proofs.YtgeapkalabijmaaGreat

/- Min, max, and the operations that compare. -/
namespace Go.Proofs.YtgeapkalabijmaaGreat
open Go Go.RowKit
set_option maxRecDepth 100000
set_option maxHeartbeats 1000000
set_option linter.unusedVariables false
set_option linter.unusedSimpArgs false

theorem eqF_of_nan {b : Nat} (h : isNaN b = true) : eqF b b = false := by rw [eqF_self, h]; rfl
theorem eqF_of_num {b : Nat} (h : isNaN b = false) : eqF b b = true := by rw [eqF_self, h]; rfl


def leastW (a b : Nat) : Nat := if isNaN a then 9221120237041090561 else if isNaN b then 9221120237041090561 else if decide (0 < cmpC a b) then b else a
theorem least_any (a b : Nat) (w : World) : Calls Tryz.prog 196 #[fl a, fl b] w fun e w' => e = .returned (fl (leastW a b)) ∧ w = w' := by
  have HC := Lib.hid (show leastW a b = if isNaN a then 9221120237041090561 else if isNaN b then 9221120237041090561 else if decide (0 < cmpC a b) then b else a from rfl)
  cases h1 : isNaN a with
  | true =>
    rw [h1] at HC
    have e1 := eqF_of_nan h1
    go_enter Tryz.func196, Tryz.ntmps196
    go_wp2_with fail
    refine (nanf_any _).mono ?_
    rintro e w' ⟨rfl, rfl⟩
    go_wp2_with fail
    go_ret
    exact ⟨by rw [HC.out]; rfl, rfl⟩
  | false =>
    have e1 := eqF_of_num h1
    cases h2 : isNaN b with
    | true =>
      rw [h1, h2] at HC
      have e2 := eqF_of_nan h2
      go_enter Tryz.func196, Tryz.ntmps196
      go_wp2_with fail
      refine (nanf_any _).mono ?_
      rintro e w' ⟨rfl, rfl⟩
      go_wp2_with fail
      go_ret
      exact ⟨by rw [HC.out]; rfl, rfl⟩
    | false =>
      have e2 := eqF_of_num h2
      cases h3 : decide (0 < cmpC a b) with
      | true =>
        rw [h1, h2, h3] at HC
        go_enter Tryz.func196, Tryz.ntmps196
        go_wp2_with fail
        refine (compare_any _ _ _).mono ?_
        rintro e w' ⟨rfl, rfl⟩
        go_wp2_with fail
        go_ret
        exact ⟨by rw [HC.out]; rfl, rfl⟩
      | false =>
        rw [h1, h2, h3] at HC
        go_enter Tryz.func196, Tryz.ntmps196
        go_wp2_with fail
        refine (compare_any _ _ _).mono ?_
        rintro e w' ⟨rfl, rfl⟩
        go_wp2_with fail
        go_ret
        exact ⟨by rw [HC.out]; rfl, rfl⟩


def greatestW (a b : Nat) : Nat := if isNaN a then 9221120237041090561 else if isNaN b then 9221120237041090561 else if decide (cmpC a b < 0) then b else a
theorem greatest_any (a b : Nat) (w : World) : Calls Tryz.prog 197 #[fl a, fl b] w fun e w' => e = .returned (fl (greatestW a b)) ∧ w = w' := by
  have HC := Lib.hid (show greatestW a b = if isNaN a then 9221120237041090561 else if isNaN b then 9221120237041090561 else if decide (cmpC a b < 0) then b else a from rfl)
  cases h1 : isNaN a with
  | true =>
    rw [h1] at HC
    have e1 := eqF_of_nan h1
    go_enter Tryz.func197, Tryz.ntmps197
    go_wp2_with fail
    refine (nanf_any _).mono ?_
    rintro e w' ⟨rfl, rfl⟩
    go_wp2_with fail
    go_ret
    exact ⟨by rw [HC.out]; rfl, rfl⟩
  | false =>
    have e1 := eqF_of_num h1
    cases h2 : isNaN b with
    | true =>
      rw [h1, h2] at HC
      have e2 := eqF_of_nan h2
      go_enter Tryz.func197, Tryz.ntmps197
      go_wp2_with fail
      refine (nanf_any _).mono ?_
      rintro e w' ⟨rfl, rfl⟩
      go_wp2_with fail
      go_ret
      exact ⟨by rw [HC.out]; rfl, rfl⟩
    | false =>
      have e2 := eqF_of_num h2
      cases h3 : decide (cmpC a b < 0) with
      | true =>
        rw [h1, h2, h3] at HC
        go_enter Tryz.func197, Tryz.ntmps197
        go_wp2_with fail
        refine (compare_any _ _ _).mono ?_
        rintro e w' ⟨rfl, rfl⟩
        go_wp2_with fail
        go_ret
        exact ⟨by rw [HC.out]; rfl, rfl⟩
      | false =>
        rw [h1, h2, h3] at HC
        go_enter Tryz.func197, Tryz.ntmps197
        go_wp2_with fail
        refine (compare_any _ _ _).mono ?_
        rintro e w' ⟨rfl, rfl⟩
        go_wp2_with fail
        go_ret
        exact ⟨by rw [HC.out]; rfl, rfl⟩


theorem two5_any (a b : Nat) (w : World) : Calls Tryz.prog 198 #[fl a, fl b] w fun e w' => e = .returned (fl (yesW (ltF a b))) ∧ w = w' := by
  go_enter Tryz.func198, Tryz.ntmps198
  go_wp2_with fail
  refine (yes_any _ _).mono ?_
  rintro e w' ⟨rfl, rfl⟩
  go_wp2_with fail
  go_ret
  exact ⟨rfl, rfl⟩


theorem two6_any (a b : Nat) (w : World) : Calls Tryz.prog 199 #[fl a, fl b] w fun e w' => e = .returned (fl (yesW (ltF a b || eqF a b))) ∧ w = w' := by
  go_enter Tryz.func199, Tryz.ntmps199
  go_wp2_with fail
  refine (yes_any _ _).mono ?_
  rintro e w' ⟨rfl, rfl⟩
  go_wp2_with fail
  go_ret
  exact ⟨rfl, rfl⟩


theorem two7_any (a b : Nat) (w : World) : Calls Tryz.prog 200 #[fl a, fl b] w fun e w' => e = .returned (fl (yesW (eqF a b))) ∧ w = w' := by
  go_enter Tryz.func200, Tryz.ntmps200
  go_wp2_with fail
  refine (yes_any _ _).mono ?_
  rintro e w' ⟨rfl, rfl⟩
  go_wp2_with fail
  go_ret
  exact ⟨rfl, rfl⟩


theorem two8_any (a b : Nat) (w : World) : Calls Tryz.prog 201 #[fl a, fl b] w fun e w' => e = .returned (fl (yesW ((fixB a : Int) == (fixB b : Int)))) ∧ w = w' := by
  go_enter Tryz.func201, Tryz.ntmps201
  go_wp2_with fail
  refine (same_any _ _ _).mono ?_
  rintro e w' ⟨rfl, rfl⟩
  go_wp2_with fail
  refine (yes_any _ _).mono ?_
  rintro e w' ⟨rfl, rfl⟩
  go_wp2_with fail
  go_ret
  exact ⟨rfl, rfl⟩
theorem two9_any (a b : Nat) (w : World) : Calls Tryz.prog 202 #[fl a, fl b] w fun e w' => e = .returned (fl (yesW (decide (cmpC a b < 0)))) ∧ w = w' := by
  go_enter Tryz.func202, Tryz.ntmps202
  go_wp2_with fail
  refine (compare_any _ _ _).mono ?_
  rintro e w' ⟨rfl, rfl⟩
  go_wp2_with fail
  refine (yes_any _ _).mono ?_
  rintro e w' ⟨rfl, rfl⟩
  go_wp2_with fail
  go_ret
  exact ⟨rfl, rfl⟩

end Go.Proofs.YtgeapkalabijmaaGreat

/- The document's Two, operation by operation (but mod). -/
namespace Go.Proofs.YtgeapkalabijmaaGreat
open Go Go.RowKit
set_option maxRecDepth 100000
set_option maxHeartbeats 1000000
set_option linter.unusedVariables false
set_option linter.unusedSimpArgs false

/-- The document's first. -/
def firstW (a b : Nat) (s : Int) : Nat := if isNaN a then qn else if isNaN b then qn else if cmpR a b == s then b else a
end Go.Proofs.YtgeapkalabijmaaGreat
