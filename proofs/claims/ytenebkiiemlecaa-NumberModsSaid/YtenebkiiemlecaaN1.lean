/- The small functions of layer 1, and what they compute. -/
import Derived.Test.YtenebkiiemlecaaNum
import Derived.Test.YtenebkiiemlecaaIeee
import Derived.Laws.Bits64b
namespace Go.Proofs.Ytenebkiiemlecaa
open Go Go.RowKit
set_option linter.unusedVariables false
set_option linter.unusedSimpArgs false

abbrev fl : Nat → Value := Value.float .f64
attribute [go_sem] lt_eq eq_eq gt_eq
theorem neq_eq (a b : Nat) : (f64.order a b != some .eq) = !eqF a b := by rw [bne, eq_eq]
attribute [go_sem] neq_eq

theorem eqF_self (b : Nat) : eqF b b = !isNaN b := by simp [eqF]
theorem nanB_eq (b : Nat) : nanB b = isNaN b := by unfold nanB; rw [neq_eq, eqF_self]; simp
theorem isNaN_q : isNaN 9221120237041090560 = true := by decide
theorem isNaN_fix (b : Nat) : isNaN (fixB b) = isNaN b := by
  unfold fixB
  rw [nanB_eq]
  cases h : isNaN b with
  | true => simp [isNaN_q]
  | false => simp [h]
theorem fixB_nan {b : Nat} (h : isNaN b = true) : fixB b = 9221120237041090560 := by unfold fixB; rw [nanB_eq, h]; rfl
theorem fixB_num {b : Nat} (h : isNaN b = false) : fixB b = b := by unfold fixB; rw [nanB_eq, h]; rfl
theorem fixB_fix (b : Nat) : fixB (fixB b) = fixB b := by
  cases h : isNaN b with
  | true => rw [fixB_nan h]; exact fixB_nan isNaN_q
  | false => rw [fixB_num h, fixB_num h]
theorem fixB_lt {b : Nat} (h : b < 18446744073709551616) : fixB b < 18446744073709551616 := by
  cases hn : isNaN b with
  | true => rw [fixB_nan hn]; decide
  | false => rw [fixB_num hn]; exact h
/-- Comparisons don't see which NaN it is. -/
theorem ltF_fix (a b : Nat) : ltF (fixB a) (fixB b) = ltF a b := by
  unfold ltF
  rw [isNaN_fix, isNaN_fix]
  cases ha : isNaN a with
  | true => rfl
  | false => cases hb : isNaN b with
    | true => rfl
    | false => rw [fixB_num ha, fixB_num hb]
theorem eqF_fix (a b : Nat) : eqF (fixB a) (fixB b) = eqF a b := by
  unfold eqF
  rw [isNaN_fix, isNaN_fix]
  cases ha : isNaN a with
  | true => rfl
  | false => cases hb : isNaN b with
    | true => rfl
    | false => rw [fixB_num ha, fixB_num hb]

theorem raw_any (b : Nat) (w : World) : Calls Try.prog 12 #[.int .u64 b] w fun e w' => e = .returned (fl b) ∧ w = w' := by
  go_enter Try.func12, Try.ntmps12
  go_wp2
  go_ret
  exact ⟨rfl, rfl⟩
theorem exact_any (a b : Nat) (w : World) : Calls Try.prog 16 #[fl a, fl b] w fun e w' => e = .returned (.bool ((a : Int) == (b : Int))) ∧ w = w' := by
  go_enter Try.func16, Try.ntmps16
  go_wp2
  go_ret
  exact ⟨rfl, rfl⟩

/-- key: a number's place among all words. -/
def keyI (y : Nat) : Int := if ((y : Int) / 9223372036854775808 == 1) then bits .xor .u64 IntKind.u64.max y else bits .or .u64 y 9223372036854775808
theorem key_any (b : Nat) (w : World) : Calls Try.prog 47 #[fl b] w fun e w' => e = .returned (.int .u64 (keyI (fixB b))) ∧ w = w' := by
  go_enter Try.func47, Try.ntmps47
  go_wp2_with fail
  refine (nbits_any _ _).mono ?_
  rintro e w' ⟨rfl, rfl⟩
  have HK := Lib.hid (show keyI (fixB b) = if ((fixB b : Int) / 9223372036854775808 == 1) then bits .xor .u64 IntKind.u64.max (fixB b : Nat) else bits .or .u64 (fixB b : Nat) 9223372036854775808 from rfl)
  have hs : ¬ (IntKind.u64.signed = true) := by decide
  cases h : ((fixB b : Int) / 9223372036854775808 == 1) with
  | true =>
    rw [h] at HK
    go_wp2_with fail
    go_ret
    exact ⟨by rw [HK.out]; rfl, rfl⟩
  | false =>
    rw [h] at HK
    go_wp2_with fail
    go_ret
    exact ⟨by rw [HK.out]; rfl, rfl⟩

def cmpC (a b : Nat) : Int := if keyI (fixB a) < keyI (fixB b) then -1 else if keyI (fixB b) < keyI (fixB a) then 1 else 0
theorem compare_any (a b : Nat) (w : World) : Calls Try.prog 23 #[fl a, fl b] w fun e w' => e = .returned (.int .i64 (cmpC a b)) ∧ w = w' := by
  have HC := Lib.hid (show cmpC a b = if keyI (fixB a) < keyI (fixB b) then -1 else if keyI (fixB b) < keyI (fixB a) then 1 else 0 from rfl)
  go_enter Try.func23, Try.ntmps23
  go_wp2_with fail
  refine (key_any _ _).mono ?_
  rintro e w' ⟨rfl, rfl⟩
  go_wp2_with fail
  refine (key_any _ _).mono ?_
  rintro e w' ⟨rfl, rfl⟩
  generalize keyI (fixB a) = x at HC
  generalize keyI (fixB b) = y at HC
  by_cases h1 : x < y
  · have b1 : decide (x < y) = true := decide_eq_true h1
    have V := Lib.hid (HC.out.trans (if_pos h1))
    clear h1
    go_wp2_with fail
    go_ret
    exact ⟨by rw [V.out]; rfl, rfl⟩
  · have b1 : decide (x < y) = false := decide_eq_false h1
    by_cases h2 : y < x
    · have b2 : decide (y < x) = true := decide_eq_true h2
      have V := Lib.hid (HC.out.trans ((if_neg h1).trans (if_pos h2)))
      clear h1 h2
      go_wp2_with fail
      go_ret
      exact ⟨by rw [V.out]; rfl, rfl⟩
    · have b2 : decide (y < x) = false := decide_eq_false h2
      have V := Lib.hid (HC.out.trans ((if_neg h1).trans (if_neg h2)))
      clear h1 h2
      go_wp2_with fail
      go_ret
      exact ⟨by rw [V.out]; rfl, rfl⟩

def classI (b : Nat) : Int := if isNaN b then 4 else if ltF b 0 then 0 else if ltF 0 b then 3 else if ((fixB b : Int) == 0) then 2 else 1
theorem class_any (b : Nat) (w : World) : Calls Try.prog 48 #[fl b] w fun e w' => e = .returned (.int .i64 (classI b)) ∧ w = w' := by
  have HC := Lib.hid (show classI b = if isNaN b then 4 else if ltF b 0 then 0 else if ltF 0 b then 3 else if ((fixB b : Int) == 0) then 2 else 1 from rfl)
  have he := eqF_self b
  cases h1 : isNaN b with
  | true =>
    rw [h1] at he HC
    simp only [Bool.not_true] at he
    go_enter Try.func48, Try.ntmps48
    go_wp2_with fail
    go_ret
    exact ⟨by rw [HC.out]; rfl, rfl⟩
  | false =>
    rw [h1] at he HC
    simp only [Bool.not_false] at he
    cases h2 : ltF b 0 with
    | true =>
      rw [h2] at HC
      go_enter Try.func48, Try.ntmps48
      go_wp2_with fail
      go_ret
      exact ⟨by rw [HC.out]; rfl, rfl⟩
    | false =>
      rw [h2] at HC
      cases h3 : ltF 0 b with
      | true =>
        rw [h3] at HC
        go_enter Try.func48, Try.ntmps48
        go_wp2_with fail
        go_ret
        exact ⟨by rw [HC.out]; rfl, rfl⟩
      | false =>
        rw [h3] at HC
        go_enter Try.func48, Try.ntmps48
        go_wp2_with fail
        refine (rbits_any _ _).mono ?_
        rintro e w' ⟨rfl, rfl⟩
        cases h4 : ((fixB b : Int) == 0) with
        | true =>
          rw [h4] at HC
          go_wp2_with fail
          go_ret
          exact ⟨by rw [HC.out]; rfl, rfl⟩
        | false =>
          rw [h4] at HC
          go_wp2_with fail
          go_ret
          exact ⟨by rw [HC.out]; rfl, rfl⟩

def cmpR (a b : Nat) : Int := if classI a < classI b ∨ classI a = classI b ∧ ltF a b = true then -1 else if classI b < classI a ∨ ltF b a = true then 1 else 0
theorem rcompare_any (a b : Nat) (w : World) : Calls Try.prog 31 #[fl a, fl b] w fun e w' => e = .returned (.int .i64 (cmpR a b)) ∧ w = w' := by
  have HC := Lib.hid (show cmpR a b = if classI a < classI b ∨ classI a = classI b ∧ ltF a b = true then -1 else if classI b < classI a ∨ ltF b a = true then 1 else 0 from rfl)
  go_enter Try.func31, Try.ntmps31
  go_wp2_with fail
  refine (class_any _ _).mono ?_
  rintro e w' ⟨rfl, rfl⟩
  go_wp2_with fail
  refine (class_any _ _).mono ?_
  rintro e w' ⟨rfl, rfl⟩
  generalize classI a = x at HC
  generalize classI b = y at HC
  by_cases h1 : x < y
  · have b1 : decide (x < y) = true := decide_eq_true h1
    have V := Lib.hid (HC.out.trans (if_pos (.inl h1)))
    clear h1
    go_wp2_with fail
    go_ret
    exact ⟨by rw [V.out]; rfl, rfl⟩
  · have b1 : decide (x < y) = false := decide_eq_false h1
    by_cases h2 : x = y
    · subst h2
      have b2 : (x == x) = true := by simp
      have b3 : decide (x < x) = false := decide_eq_false h1
      cases h3 : ltF a b with
      | true =>
        have V := Lib.hid (HC.out.trans (if_pos (.inr ⟨rfl, h3⟩)))
        clear h1
        go_wp2_with fail
        go_ret
        exact ⟨by rw [V.out]; rfl, rfl⟩
      | false =>
        cases h4 : ltF b a with
        | true =>
          have V := Lib.hid (HC.out.trans ((if_neg (by simp [h1, h3])).trans (if_pos (.inr h4))))
          clear h1
          go_wp2_with fail
          go_ret
          exact ⟨by rw [V.out]; rfl, rfl⟩
        | false =>
          have V := Lib.hid (HC.out.trans ((if_neg (by simp [h1, h3])).trans (if_neg (by simp [h1, h4]))))
          clear h1
          go_wp2_with fail
          go_ret
          exact ⟨by rw [V.out]; rfl, rfl⟩
    · have b2 : (x == y) = false := by simpa using h2
      have h3 : y < x := by omega
      have b3 : decide (y < x) = true := decide_eq_true h3
      have V := Lib.hid (HC.out.trans ((if_neg (by simp [h1, h2])).trans (if_pos (.inl h3))))
      clear h1 h2 h3
      go_wp2_with fail
      go_ret
      exact ⟨by rw [V.out]; rfl, rfl⟩

def trueB (b : Nat) : Bool := !isNaN b && !eqF b 0
theorem true_any (b : Nat) (w : World) : Calls Try.prog 24 #[fl b] w fun e w' => e = .returned (.bool (trueB b)) ∧ w = w' := by
  have HC := Lib.hid (show trueB b = (!isNaN b && !eqF b 0) from rfl)
  have he := eqF_self b
  cases h1 : isNaN b with
  | true =>
    rw [h1] at he HC
    simp only [Bool.not_true] at he
    go_enter Try.func24, Try.ntmps24
    go_wp2_with fail
    go_ret
    exact ⟨by rw [HC.out]; rfl, rfl⟩
  | false =>
    rw [h1] at he HC
    simp only [Bool.not_false] at he
    cases h2 : eqF b 0 with
    | true =>
      rw [h2] at HC
      go_enter Try.func24, Try.ntmps24
      go_wp2_with fail
      go_ret
      exact ⟨by rw [HC.out]; rfl, rfl⟩
    | false =>
      rw [h2] at HC
      go_enter Try.func24, Try.ntmps24
      go_wp2_with fail
      go_ret
      exact ⟨by rw [HC.out]; rfl, rfl⟩
theorem rtrue0_any (b : Nat) (w : World) : Calls Try.prog 34 #[fl b] w fun e w' => e = .returned (.bool (ltF b 0 || ltF 0 b)) ∧ w = w' := by
  cases h1 : ltF b 0 with
  | true =>
    go_enter Try.func34, Try.ntmps34
    go_wp2_with fail
    go_ret
    exact ⟨rfl, rfl⟩
  | false =>
    cases h2 : ltF 0 b with
    | true =>
      go_enter Try.func34, Try.ntmps34
      go_wp2_with fail
      go_ret
      exact ⟨rfl, rfl⟩
    | false =>
      go_enter Try.func34, Try.ntmps34
      go_wp2_with fail
      go_ret
      exact ⟨rfl, rfl⟩
theorem true_two (b : Nat) : (ltF b 0 || ltF 0 b) = trueB b := by
  unfold trueB ltF eqF
  have h0 : isNaN 0 = false := by decide
  rw [h0]
  cases isNaN b with
  | true => rfl
  | false =>
    by_cases h1 : sk b < sk 0
    · have : ¬ sk b = sk 0 := by omega
      simp [h1, this]
    · by_cases h2 : sk 0 < sk b
      · have : ¬ sk b = sk 0 := by omega
        simp [h1, h2, this]
      · have : sk b = sk 0 := by omega
        simp [h1, h2, this]
theorem rtrue_any (b : Nat) (w : World) : Calls Try.prog 34 #[fl b] w fun e w' => e = .returned (.bool (trueB b)) ∧ w = w' := by
  rw [← true_two]; exact rtrue0_any b w

end Go.Proofs.Ytenebkiiemlecaa
