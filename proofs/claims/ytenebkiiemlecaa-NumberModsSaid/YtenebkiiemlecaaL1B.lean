/- NumberFixes and NumberOrder: the walks. -/
import Derived.Test.YtenebkiiemlecaaL1A
namespace Go.Proofs.Ytenebkiiemlecaa
open Go Go.RowKit
set_option linter.unusedVariables false
set_option linter.unusedSimpArgs false

theorem fixes_walk (a b : Nat) (w : World) (ha : a < 18446744073709551616) (hb : b < 18446744073709551616) : Calls Try.prog 7 #[.int .u64 a, .int .u64 b] w fun e w' => e = .returned (.bool true) ∧ Chg w w' Nothing := by
  have HC := Lib.hid (cmp_two ha hb)
  go_enter Try.func7, Try.ntmps7
  go_wp2_with fail
  refine (raw_any _ _).mono ?_
  rintro e w0 ⟨rfl, rfl⟩
  go_wp2_with fail
  refine (raw_any _ _).mono ?_
  rintro e w0 ⟨rfl, rfl⟩
  go_wp2_with fail
  refine (fix_any _ _).mono ?_
  rintro e w0 ⟨rfl, rfl⟩
  go_wp2_with fail
  refine (rfix_any _ _).mono ?_
  rintro e w0 ⟨rfl, rfl⟩
  go_wp2_with fail
  refine (exact_any _ _ _).mono ?_
  rintro e w0 ⟨rfl, rfl⟩
  have h1 : ((fixB a : Int) == (fixB a : Int)) = true := by simp
  go_wp2_with fail
  refine (nbits_any _ _).mono ?_
  rintro e w0 ⟨rfl, rfl⟩
  go_wp2_with fail
  refine (rbits_any _ _).mono ?_
  rintro e w0 ⟨rfl, rfl⟩
  go_wp2_with fail
  refine (of_any _ _).mono ?_
  rintro e w0 ⟨rfl, rfl⟩
  go_wp2_with fail
  refine (rof_any _ _).mono ?_
  rintro e w0 ⟨rfl, rfl⟩
  rw [Int.toNat_natCast]
  go_wp2_with fail
  refine (exact_any _ _ _).mono ?_
  rintro e w0 ⟨rfl, rfl⟩
  go_wp2_with fail
  refine (live_any _).mono ?_
  rintro e w3 ⟨rfl, hc3⟩
  go_wp2_with fail
  refine (same_any _ _ _).mono ?_
  rintro e w0 ⟨rfl, rfl⟩
  go_wp2_with fail
  refine (rsame_any _ _ _).mono ?_
  rintro e w0 ⟨rfl, rfl⟩
  generalize ((fixB a : Int) == (fixB b : Int)) = B
  have h2 : (B == B) = true := by simp
  go_wp2_with fail
  refine (compare_any _ _ _).mono ?_
  rintro e w0 ⟨rfl, rfl⟩
  go_wp2_with fail
  refine (rcompare_any _ _ _).mono ?_
  rintro e w0 ⟨rfl, rfl⟩
  rw [HC.out]
  go_wp2_with fail
  go_ret
  exact ⟨by simp, hc3⟩

theorem tk_inj {x y : Nat} (hx : x < 18446744073709551616) (hy : y < 18446744073709551616) : tk x = tk y ↔ x = y := by
  unfold tk
  have r1 := rungB_lt x
  have r2 := rungB_lt y
  rcases word_split hx with ⟨h1, h2⟩ | ⟨h1, h2⟩ <;> rcases word_split hy with ⟨h3, h4⟩ | ⟨h3, h4⟩ <;> rw [h1, h3] <;> simp only [if_true, if_false, Bool.false_eq_true] <;> omega
theorem tk_lt {a b : Nat} (ha : a < 18446744073709551616) (hb : b < 18446744073709551616) (h : ltF a b = true) : tk (fixB a) < tk (fixB b) := by
  rcases class_facts ha with ⟨a1, _⟩ | ⟨a1, a2, a3, a4⟩
  · rw [ltF_nan_left a1] at h; cases h
  · rcases class_facts hb with ⟨b1, _⟩ | ⟨b1, b2, b3, b4⟩
    · rw [ltF_nan_right b1] at h; cases h
    · have := (ltF_iff a1 b1).1 h
      omega
/-- How two numbers stand, both ways. -/
theorem cmp_facts {a b : Nat} (ha : a < 18446744073709551616) (hb : b < 18446744073709551616) :
    (cmpC a b = 1 ∧ cmpC b a = -1 ∧ ((fixB a : Int) == (fixB b : Int)) = false ∧ ltF a b = false ∧ tk (fixB b) < tk (fixB a)) ∨
    (cmpC a b = 0 ∧ cmpC b a = 0 ∧ ((fixB a : Int) == (fixB b : Int)) = true ∧ ltF a b = false ∧ ltF b a = false ∧ tk (fixB b) = tk (fixB a)) ∨
    (cmpC a b = -1 ∧ cmpC b a = 1 ∧ ((fixB a : Int) == (fixB b : Int)) = false ∧ ltF b a = false ∧ tk (fixB a) < tk (fixB b)) := by
  have i1 := tk_inj (fixB_lt ha) (fixB_lt hb)
  have l1 := tk_lt ha hb
  have l2 := tk_lt hb ha
  rw [cmpC_eq ha hb, cmpC_eq hb ha]
  have f1 : tk (fixB b) ≤ tk (fixB a) → ltF a b = false := fun h => by
    cases hl : ltF a b with
    | false => rfl
    | true => have := l1 hl; omega
  have f2 : tk (fixB a) ≤ tk (fixB b) → ltF b a = false := fun h => by
    cases hl : ltF b a with
    | false => rfl
    | true => have := l2 hl; omega
  have e1 : ¬ tk (fixB a) = tk (fixB b) → ((fixB a : Int) == (fixB b : Int)) = false := fun h => by
    simp only [beq_eq_false_iff_ne, ne_eq]
    intro hh
    exact h (i1.2 (by omega))
  have e2 : tk (fixB a) = tk (fixB b) → ((fixB a : Int) == (fixB b : Int)) = true := fun h => by
    simp only [beq_iff_eq]
    have := i1.1 h
    omega
  generalize tk (fixB a) = x at *
  generalize tk (fixB b) = y at *
  by_cases h1 : x < y
  · right; right
    refine ⟨by rw [if_pos h1], by rw [if_neg (by omega), if_pos h1], e1 (by omega), f2 (by omega), h1⟩
  · by_cases h2 : y < x
    · left
      refine ⟨by rw [if_neg h1, if_pos h2], by rw [if_pos h2], e1 (by omega), f1 (by omega), h2⟩
    · right; left
      refine ⟨by rw [if_neg h1, if_neg h2], by rw [if_neg h2, if_neg h1], e2 (by omega), f1 (by omega), f2 (by omega), by omega⟩
theorem cmp_trans {a b c : Nat} (ha : a < 18446744073709551616) (hb : b < 18446744073709551616) (hc : c < 18446744073709551616) :
    (cmpC a b ≤ 0 → cmpC b c ≤ 0 → cmpC a c ≤ 0) ∧ (cmpC a b < 0 → cmpC b c ≤ 0 → cmpC a c < 0) := by
  rcases cmp_facts ha hb with ⟨h1, _, _, _, h2⟩ | ⟨h1, _, _, _, _, h2⟩ | ⟨h1, _, _, _, h2⟩ <;>
  rcases cmp_facts hb hc with ⟨h3, _, _, _, h4⟩ | ⟨h3, _, _, _, _, h4⟩ | ⟨h3, _, _, _, h4⟩ <;>
  rcases cmp_facts ha hc with ⟨h5, _, _, _, h6⟩ | ⟨h5, _, _, _, _, h6⟩ | ⟨h5, _, _, _, h6⟩ <;>
  constructor <;> omega
theorem tk_range {a : Nat} (ha : a < 18446744073709551616) : -9218868437227405313 ≤ tk (fixB a) ∧ tk (fixB a) ≤ 9221120237041090560 := by
  obtain ⟨r, h, h'⟩ := word_facts ha
  omega
theorem cmp_low {a : Nat} (ha : a < 18446744073709551616) : cmpC 18442240474082181120 a ≤ 0 := by
  have h := tk_range ha
  have e : tk (fixB 18442240474082181120) = -9218868437227405313 := by decide
  rw [cmpC_eq (by decide) ha, e]
  split
  · omega
  · rw [if_neg (by omega)]; omega
theorem cmp_high {a : Nat} (ha : a < 18446744073709551616) : cmpC a 9221120237041090561 ≤ 0 := by
  have h := tk_range ha
  have e : tk (fixB 9221120237041090561) = 9221120237041090560 := by decide
  rw [cmpC_eq ha (by decide), e]
  split
  · omega
  · rw [if_neg (by omega)]; omega

theorem inf_neg (w : World) : Calls Try.prog 35 #[.int .i64 (-1)] w fun e w' => e = .returned (fl 18442240474082181120) ∧ w = w' := by
  go_enter Try.func35, Try.ntmps35
  go_wp2_with fail
  go_ret
  exact ⟨rfl, rfl⟩

set_option maxHeartbeats 1000000 in
theorem order_1 (a b c : Nat) (w : World) (hp : cmpC a b = 1) (hq : cmpC b a = (-1)) (hs : ((fixB a : Int) == (fixB b : Int)) = false) (hL : cmpC 18442240474082181120 a ≤ 0) (hH : cmpC a 9221120237041090561 ≤ 0) (hl1 : ltF a b = false) (hn : (isNaN a = true) ∨ (isNaN a = false ∧ fixB a = a)) : Calls Try.prog 10 #[.int .u64 a, .int .u64 b, .int .u64 c] w fun e w' => e = .returned (.bool true) ∧ Chg w w' Nothing := by
  have HP := Lib.hid hp
  have HQ := Lib.hid hq
  have HN := Lib.hid hn
  have HB := Lib.hid (fixB_fix a)
  clear hp hq hn
  obtain ⟨q, Eq⟩ : ∃ q, q = cmpC b c := ⟨_, rfl⟩
  obtain ⟨r, Er⟩ : ∃ r, r = cmpC a c := ⟨_, rfl⟩
  first | rw [← Eq] at hq1 | skip
  first | rw [← Er] at hr1 | skip
  first | rw [← Er] at hr2 | skip
  have EQ := Lib.hid Eq.symm
  have ER := Lib.hid Er.symm
  clear Eq Er
  go_enter Try.func10, Try.ntmps10
  go_wp2_with fail
  refine (raw_any _ _).mono ?_
  rintro e w0 ⟨rfl, rfl⟩
  go_wp2_with fail
  refine (raw_any _ _).mono ?_
  rintro e w0 ⟨rfl, rfl⟩
  go_wp2_with fail
  refine (raw_any _ _).mono ?_
  rintro e w0 ⟨rfl, rfl⟩
  go_wp2_with fail
  refine (compare_any _ _ _).mono ?_
  rintro e w0 ⟨rfl, rfl⟩
  rw [HP.out]
  go_wp2_with fail
  refine (compare_any _ _ _).mono ?_
  rintro e w0 ⟨rfl, rfl⟩
  rw [EQ.out]
  go_wp2_with fail
  refine (compare_any _ _ _).mono ?_
  rintro e w0 ⟨rfl, rfl⟩
  rw [ER.out]
  go_wp2_with fail
  refine (compare_any _ _ _).mono ?_
  rintro e w0 ⟨rfl, rfl⟩
  rw [HQ.out]
  go_wp2_with fail
  refine (inf_neg _).mono ?_
  rintro e w0 ⟨rfl, rfl⟩
  go_wp2_with fail
  refine (compare_any _ _ _).mono ?_
  rintro e w0 ⟨rfl, rfl⟩
  go_wp2_with fail
  refine (nanf_any _).mono ?_
  rintro e w0 ⟨rfl, rfl⟩
  go_wp2_with fail
  refine (compare_any _ _ _).mono ?_
  rintro e w0 ⟨rfl, rfl⟩
  go_wp2_with fail
  refine (same_any _ _ _).mono ?_
  rintro e w0 ⟨rfl, rfl⟩
  rw [hs]
  go_wp2_with fail
  refine (same_any _ _ _).mono ?_
  rintro e w0 ⟨rfl, rfl⟩
  rw [hs]
  go_wp2_with fail
  refine (nbits_any _ _).mono ?_
  rintro e w0 ⟨rfl, rfl⟩
  go_wp2_with fail
  refine (nbits_any _ _).mono ?_
  rintro e w0 ⟨rfl, rfl⟩
  go_wp2_with fail
  all_goals
    refine (nbits_any _ _).mono ?_
    rintro e w0 ⟨rfl, rfl⟩
    go_wp2_with fail
    refine (of_any _ _).mono ?_
    rintro e w0 ⟨rfl, rfl⟩
    rw [Int.toNat_natCast, HB.out]
    go_wp2_with fail
    refine (same_any _ _ _).mono ?_
    rintro e w0 ⟨rfl, rfl⟩
    rw [HB.out]
    have hself : ((fixB a : Int) == (fixB a : Int)) = true := by simp
    rcases HN.out with hn | ⟨hn, hf⟩
    · have e1 := eqF_of_nan hn
      clear hn
      go_wp2_with fail
      refine (live_any _).mono ?_
      rintro e w9 ⟨rfl, hc9⟩
      go_wp2_with fail
      go_ret
      exact ⟨rfl, hc9⟩
    · have e1 := eqF_of_num hn
      have HF := Lib.hid hf
      have ha2 : ((a : Int) == (a : Int)) = true := by simp
      clear hn hf
      go_wp2_with fail
      refine (nbits_any _ _).mono ?_
      rintro e w0 ⟨rfl, rfl⟩
      rw [HF.out]
      go_wp2_with fail
      refine (live_any _).mono ?_
      rintro e w9 ⟨rfl, hc9⟩
      go_wp2_with fail
      go_ret
      exact ⟨rfl, hc9⟩
set_option maxHeartbeats 1000000 in
theorem order_2 (a b c : Nat) (w : World) (hp : cmpC a b = 0) (hq : cmpC b a = 0) (hs : ((fixB a : Int) == (fixB b : Int)) = true) (hL : cmpC 18442240474082181120 a ≤ 0) (hH : cmpC a 9221120237041090561 ≤ 0) (hl1 : ltF a b = false) (hl2 : ltF b a = false) (hq1 : 0 < cmpC b c) (hn : (isNaN a = true) ∨ (isNaN a = false ∧ fixB a = a)) : Calls Try.prog 10 #[.int .u64 a, .int .u64 b, .int .u64 c] w fun e w' => e = .returned (.bool true) ∧ Chg w w' Nothing := by
  have HP := Lib.hid hp
  have HQ := Lib.hid hq
  have HN := Lib.hid hn
  have HB := Lib.hid (fixB_fix a)
  clear hp hq hn
  obtain ⟨q, Eq⟩ : ∃ q, q = cmpC b c := ⟨_, rfl⟩
  obtain ⟨r, Er⟩ : ∃ r, r = cmpC a c := ⟨_, rfl⟩
  first | rw [← Eq] at hq1 | skip
  first | rw [← Er] at hr1 | skip
  first | rw [← Er] at hr2 | skip
  have EQ := Lib.hid Eq.symm
  have ER := Lib.hid Er.symm
  clear Eq Er
  go_enter Try.func10, Try.ntmps10
  go_wp2_with fail
  refine (raw_any _ _).mono ?_
  rintro e w0 ⟨rfl, rfl⟩
  go_wp2_with fail
  refine (raw_any _ _).mono ?_
  rintro e w0 ⟨rfl, rfl⟩
  go_wp2_with fail
  refine (raw_any _ _).mono ?_
  rintro e w0 ⟨rfl, rfl⟩
  go_wp2_with fail
  refine (compare_any _ _ _).mono ?_
  rintro e w0 ⟨rfl, rfl⟩
  rw [HP.out]
  go_wp2_with fail
  refine (compare_any _ _ _).mono ?_
  rintro e w0 ⟨rfl, rfl⟩
  rw [EQ.out]
  go_wp2_with fail
  refine (compare_any _ _ _).mono ?_
  rintro e w0 ⟨rfl, rfl⟩
  rw [ER.out]
  go_wp2_with fail
  refine (compare_any _ _ _).mono ?_
  rintro e w0 ⟨rfl, rfl⟩
  rw [HQ.out]
  go_wp2_with fail
  refine (inf_neg _).mono ?_
  rintro e w0 ⟨rfl, rfl⟩
  go_wp2_with fail
  refine (compare_any _ _ _).mono ?_
  rintro e w0 ⟨rfl, rfl⟩
  go_wp2_with fail
  refine (nanf_any _).mono ?_
  rintro e w0 ⟨rfl, rfl⟩
  go_wp2_with fail
  refine (compare_any _ _ _).mono ?_
  rintro e w0 ⟨rfl, rfl⟩
  go_wp2_with fail
  refine (same_any _ _ _).mono ?_
  rintro e w0 ⟨rfl, rfl⟩
  rw [hs]
  go_wp2_with fail
  refine (same_any _ _ _).mono ?_
  rintro e w0 ⟨rfl, rfl⟩
  rw [hs]
  go_wp2_with fail
  refine (nbits_any _ _).mono ?_
  rintro e w0 ⟨rfl, rfl⟩
  go_wp2_with fail
  refine (nbits_any _ _).mono ?_
  rintro e w0 ⟨rfl, rfl⟩
  go_wp2_with fail
  all_goals
    refine (nbits_any _ _).mono ?_
    rintro e w0 ⟨rfl, rfl⟩
    go_wp2_with fail
    refine (of_any _ _).mono ?_
    rintro e w0 ⟨rfl, rfl⟩
    rw [Int.toNat_natCast, HB.out]
    go_wp2_with fail
    refine (same_any _ _ _).mono ?_
    rintro e w0 ⟨rfl, rfl⟩
    rw [HB.out]
    have hself : ((fixB a : Int) == (fixB a : Int)) = true := by simp
    rcases HN.out with hn | ⟨hn, hf⟩
    · have e1 := eqF_of_nan hn
      clear hn
      go_wp2_with fail
      refine (live_any _).mono ?_
      rintro e w9 ⟨rfl, hc9⟩
      go_wp2_with fail
      go_ret
      exact ⟨rfl, hc9⟩
    · have e1 := eqF_of_num hn
      have HF := Lib.hid hf
      have ha2 : ((a : Int) == (a : Int)) = true := by simp
      clear hn hf
      go_wp2_with fail
      refine (nbits_any _ _).mono ?_
      rintro e w0 ⟨rfl, rfl⟩
      rw [HF.out]
      go_wp2_with fail
      refine (live_any _).mono ?_
      rintro e w9 ⟨rfl, hc9⟩
      go_wp2_with fail
      go_ret
      exact ⟨rfl, hc9⟩
set_option maxHeartbeats 1000000 in
theorem order_3 (a b c : Nat) (w : World) (hp : cmpC a b = 0) (hq : cmpC b a = 0) (hs : ((fixB a : Int) == (fixB b : Int)) = true) (hL : cmpC 18442240474082181120 a ≤ 0) (hH : cmpC a 9221120237041090561 ≤ 0) (hl1 : ltF a b = false) (hl2 : ltF b a = false) (hq1 : cmpC b c ≤ 0) (hr1 : cmpC a c ≤ 0) (hn : (isNaN a = true) ∨ (isNaN a = false ∧ fixB a = a)) : Calls Try.prog 10 #[.int .u64 a, .int .u64 b, .int .u64 c] w fun e w' => e = .returned (.bool true) ∧ Chg w w' Nothing := by
  have HP := Lib.hid hp
  have HQ := Lib.hid hq
  have HN := Lib.hid hn
  have HB := Lib.hid (fixB_fix a)
  clear hp hq hn
  obtain ⟨q, Eq⟩ : ∃ q, q = cmpC b c := ⟨_, rfl⟩
  obtain ⟨r, Er⟩ : ∃ r, r = cmpC a c := ⟨_, rfl⟩
  first | rw [← Eq] at hq1 | skip
  first | rw [← Er] at hr1 | skip
  first | rw [← Er] at hr2 | skip
  have EQ := Lib.hid Eq.symm
  have ER := Lib.hid Er.symm
  clear Eq Er
  go_enter Try.func10, Try.ntmps10
  go_wp2_with fail
  refine (raw_any _ _).mono ?_
  rintro e w0 ⟨rfl, rfl⟩
  go_wp2_with fail
  refine (raw_any _ _).mono ?_
  rintro e w0 ⟨rfl, rfl⟩
  go_wp2_with fail
  refine (raw_any _ _).mono ?_
  rintro e w0 ⟨rfl, rfl⟩
  go_wp2_with fail
  refine (compare_any _ _ _).mono ?_
  rintro e w0 ⟨rfl, rfl⟩
  rw [HP.out]
  go_wp2_with fail
  refine (compare_any _ _ _).mono ?_
  rintro e w0 ⟨rfl, rfl⟩
  rw [EQ.out]
  go_wp2_with fail
  refine (compare_any _ _ _).mono ?_
  rintro e w0 ⟨rfl, rfl⟩
  rw [ER.out]
  go_wp2_with fail
  refine (compare_any _ _ _).mono ?_
  rintro e w0 ⟨rfl, rfl⟩
  rw [HQ.out]
  go_wp2_with fail
  refine (inf_neg _).mono ?_
  rintro e w0 ⟨rfl, rfl⟩
  go_wp2_with fail
  refine (compare_any _ _ _).mono ?_
  rintro e w0 ⟨rfl, rfl⟩
  go_wp2_with fail
  refine (nanf_any _).mono ?_
  rintro e w0 ⟨rfl, rfl⟩
  go_wp2_with fail
  refine (compare_any _ _ _).mono ?_
  rintro e w0 ⟨rfl, rfl⟩
  go_wp2_with fail
  refine (same_any _ _ _).mono ?_
  rintro e w0 ⟨rfl, rfl⟩
  rw [hs]
  go_wp2_with fail
  refine (same_any _ _ _).mono ?_
  rintro e w0 ⟨rfl, rfl⟩
  rw [hs]
  go_wp2_with fail
  refine (nbits_any _ _).mono ?_
  rintro e w0 ⟨rfl, rfl⟩
  go_wp2_with fail
  refine (nbits_any _ _).mono ?_
  rintro e w0 ⟨rfl, rfl⟩
  go_wp2_with fail
  all_goals
    refine (nbits_any _ _).mono ?_
    rintro e w0 ⟨rfl, rfl⟩
    go_wp2_with fail
    refine (of_any _ _).mono ?_
    rintro e w0 ⟨rfl, rfl⟩
    rw [Int.toNat_natCast, HB.out]
    go_wp2_with fail
    refine (same_any _ _ _).mono ?_
    rintro e w0 ⟨rfl, rfl⟩
    rw [HB.out]
    have hself : ((fixB a : Int) == (fixB a : Int)) = true := by simp
    rcases HN.out with hn | ⟨hn, hf⟩
    · have e1 := eqF_of_nan hn
      clear hn
      go_wp2_with fail
      refine (live_any _).mono ?_
      rintro e w9 ⟨rfl, hc9⟩
      go_wp2_with fail
      go_ret
      exact ⟨rfl, hc9⟩
    · have e1 := eqF_of_num hn
      have HF := Lib.hid hf
      have ha2 : ((a : Int) == (a : Int)) = true := by simp
      clear hn hf
      go_wp2_with fail
      refine (nbits_any _ _).mono ?_
      rintro e w0 ⟨rfl, rfl⟩
      rw [HF.out]
      go_wp2_with fail
      refine (live_any _).mono ?_
      rintro e w9 ⟨rfl, hc9⟩
      go_wp2_with fail
      go_ret
      exact ⟨rfl, hc9⟩
set_option maxHeartbeats 1000000 in
theorem order_4 (a b c : Nat) (w : World) (hp : cmpC a b = (-1)) (hq : cmpC b a = 1) (hs : ((fixB a : Int) == (fixB b : Int)) = false) (hL : cmpC 18442240474082181120 a ≤ 0) (hH : cmpC a 9221120237041090561 ≤ 0) (hl2 : ltF b a = false) (hq1 : 0 < cmpC b c) (hn : (isNaN a = true) ∨ (isNaN a = false ∧ fixB a = a)) : Calls Try.prog 10 #[.int .u64 a, .int .u64 b, .int .u64 c] w fun e w' => e = .returned (.bool true) ∧ Chg w w' Nothing := by
  have HP := Lib.hid hp
  have HQ := Lib.hid hq
  have HN := Lib.hid hn
  have HB := Lib.hid (fixB_fix a)
  clear hp hq hn
  obtain ⟨q, Eq⟩ : ∃ q, q = cmpC b c := ⟨_, rfl⟩
  obtain ⟨r, Er⟩ : ∃ r, r = cmpC a c := ⟨_, rfl⟩
  first | rw [← Eq] at hq1 | skip
  first | rw [← Er] at hr1 | skip
  first | rw [← Er] at hr2 | skip
  have EQ := Lib.hid Eq.symm
  have ER := Lib.hid Er.symm
  clear Eq Er
  go_enter Try.func10, Try.ntmps10
  go_wp2_with fail
  refine (raw_any _ _).mono ?_
  rintro e w0 ⟨rfl, rfl⟩
  go_wp2_with fail
  refine (raw_any _ _).mono ?_
  rintro e w0 ⟨rfl, rfl⟩
  go_wp2_with fail
  refine (raw_any _ _).mono ?_
  rintro e w0 ⟨rfl, rfl⟩
  go_wp2_with fail
  refine (compare_any _ _ _).mono ?_
  rintro e w0 ⟨rfl, rfl⟩
  rw [HP.out]
  go_wp2_with fail
  refine (compare_any _ _ _).mono ?_
  rintro e w0 ⟨rfl, rfl⟩
  rw [EQ.out]
  go_wp2_with fail
  refine (compare_any _ _ _).mono ?_
  rintro e w0 ⟨rfl, rfl⟩
  rw [ER.out]
  go_wp2_with fail
  refine (compare_any _ _ _).mono ?_
  rintro e w0 ⟨rfl, rfl⟩
  rw [HQ.out]
  go_wp2_with fail
  refine (inf_neg _).mono ?_
  rintro e w0 ⟨rfl, rfl⟩
  go_wp2_with fail
  refine (compare_any _ _ _).mono ?_
  rintro e w0 ⟨rfl, rfl⟩
  go_wp2_with fail
  refine (nanf_any _).mono ?_
  rintro e w0 ⟨rfl, rfl⟩
  go_wp2_with fail
  refine (compare_any _ _ _).mono ?_
  rintro e w0 ⟨rfl, rfl⟩
  go_wp2_with fail
  refine (same_any _ _ _).mono ?_
  rintro e w0 ⟨rfl, rfl⟩
  rw [hs]
  go_wp2_with fail
  refine (same_any _ _ _).mono ?_
  rintro e w0 ⟨rfl, rfl⟩
  rw [hs]
  go_wp2_with fail
  refine (nbits_any _ _).mono ?_
  rintro e w0 ⟨rfl, rfl⟩
  go_wp2_with fail
  refine (nbits_any _ _).mono ?_
  rintro e w0 ⟨rfl, rfl⟩
  go_wp2_with fail
  all_goals
    refine (nbits_any _ _).mono ?_
    rintro e w0 ⟨rfl, rfl⟩
    go_wp2_with fail
    refine (of_any _ _).mono ?_
    rintro e w0 ⟨rfl, rfl⟩
    rw [Int.toNat_natCast, HB.out]
    go_wp2_with fail
    refine (same_any _ _ _).mono ?_
    rintro e w0 ⟨rfl, rfl⟩
    rw [HB.out]
    have hself : ((fixB a : Int) == (fixB a : Int)) = true := by simp
    rcases HN.out with hn | ⟨hn, hf⟩
    · have e1 := eqF_of_nan hn
      clear hn
      go_wp2_with fail
      refine (live_any _).mono ?_
      rintro e w9 ⟨rfl, hc9⟩
      go_wp2_with fail
      go_ret
      exact ⟨rfl, hc9⟩
    · have e1 := eqF_of_num hn
      have HF := Lib.hid hf
      have ha2 : ((a : Int) == (a : Int)) = true := by simp
      clear hn hf
      go_wp2_with fail
      refine (nbits_any _ _).mono ?_
      rintro e w0 ⟨rfl, rfl⟩
      rw [HF.out]
      go_wp2_with fail
      refine (live_any _).mono ?_
      rintro e w9 ⟨rfl, hc9⟩
      go_wp2_with fail
      go_ret
      exact ⟨rfl, hc9⟩
set_option maxHeartbeats 1000000 in
theorem order_5 (a b c : Nat) (w : World) (hp : cmpC a b = (-1)) (hq : cmpC b a = 1) (hs : ((fixB a : Int) == (fixB b : Int)) = false) (hL : cmpC 18442240474082181120 a ≤ 0) (hH : cmpC a 9221120237041090561 ≤ 0) (hl2 : ltF b a = false) (hq1 : cmpC b c ≤ 0) (hr1 : cmpC a c < 0) (hr2 : cmpC a c ≤ 0) (hn : (isNaN a = true) ∨ (isNaN a = false ∧ fixB a = a)) : Calls Try.prog 10 #[.int .u64 a, .int .u64 b, .int .u64 c] w fun e w' => e = .returned (.bool true) ∧ Chg w w' Nothing := by
  have HP := Lib.hid hp
  have HQ := Lib.hid hq
  have HN := Lib.hid hn
  have HB := Lib.hid (fixB_fix a)
  clear hp hq hn
  obtain ⟨q, Eq⟩ : ∃ q, q = cmpC b c := ⟨_, rfl⟩
  obtain ⟨r, Er⟩ : ∃ r, r = cmpC a c := ⟨_, rfl⟩
  first | rw [← Eq] at hq1 | skip
  first | rw [← Er] at hr1 | skip
  first | rw [← Er] at hr2 | skip
  have EQ := Lib.hid Eq.symm
  have ER := Lib.hid Er.symm
  clear Eq Er
  go_enter Try.func10, Try.ntmps10
  go_wp2_with fail
  refine (raw_any _ _).mono ?_
  rintro e w0 ⟨rfl, rfl⟩
  go_wp2_with fail
  refine (raw_any _ _).mono ?_
  rintro e w0 ⟨rfl, rfl⟩
  go_wp2_with fail
  refine (raw_any _ _).mono ?_
  rintro e w0 ⟨rfl, rfl⟩
  go_wp2_with fail
  refine (compare_any _ _ _).mono ?_
  rintro e w0 ⟨rfl, rfl⟩
  rw [HP.out]
  go_wp2_with fail
  refine (compare_any _ _ _).mono ?_
  rintro e w0 ⟨rfl, rfl⟩
  rw [EQ.out]
  go_wp2_with fail
  refine (compare_any _ _ _).mono ?_
  rintro e w0 ⟨rfl, rfl⟩
  rw [ER.out]
  go_wp2_with fail
  refine (compare_any _ _ _).mono ?_
  rintro e w0 ⟨rfl, rfl⟩
  rw [HQ.out]
  go_wp2_with fail
  refine (inf_neg _).mono ?_
  rintro e w0 ⟨rfl, rfl⟩
  go_wp2_with fail
  refine (compare_any _ _ _).mono ?_
  rintro e w0 ⟨rfl, rfl⟩
  go_wp2_with fail
  refine (nanf_any _).mono ?_
  rintro e w0 ⟨rfl, rfl⟩
  go_wp2_with fail
  refine (compare_any _ _ _).mono ?_
  rintro e w0 ⟨rfl, rfl⟩
  go_wp2_with fail
  refine (same_any _ _ _).mono ?_
  rintro e w0 ⟨rfl, rfl⟩
  rw [hs]
  go_wp2_with fail
  refine (same_any _ _ _).mono ?_
  rintro e w0 ⟨rfl, rfl⟩
  rw [hs]
  go_wp2_with fail
  refine (nbits_any _ _).mono ?_
  rintro e w0 ⟨rfl, rfl⟩
  go_wp2_with fail
  refine (nbits_any _ _).mono ?_
  rintro e w0 ⟨rfl, rfl⟩
  go_wp2_with fail
  all_goals
    refine (nbits_any _ _).mono ?_
    rintro e w0 ⟨rfl, rfl⟩
    go_wp2_with fail
    refine (of_any _ _).mono ?_
    rintro e w0 ⟨rfl, rfl⟩
    rw [Int.toNat_natCast, HB.out]
    go_wp2_with fail
    refine (same_any _ _ _).mono ?_
    rintro e w0 ⟨rfl, rfl⟩
    rw [HB.out]
    have hself : ((fixB a : Int) == (fixB a : Int)) = true := by simp
    rcases HN.out with hn | ⟨hn, hf⟩
    · have e1 := eqF_of_nan hn
      clear hn
      go_wp2_with fail
      refine (live_any _).mono ?_
      rintro e w9 ⟨rfl, hc9⟩
      go_wp2_with fail
      go_ret
      exact ⟨rfl, hc9⟩
    · have e1 := eqF_of_num hn
      have HF := Lib.hid hf
      have ha2 : ((a : Int) == (a : Int)) = true := by simp
      clear hn hf
      go_wp2_with fail
      refine (nbits_any _ _).mono ?_
      rintro e w0 ⟨rfl, rfl⟩
      rw [HF.out]
      go_wp2_with fail
      refine (live_any _).mono ?_
      rintro e w9 ⟨rfl, hc9⟩
      go_wp2_with fail
      go_ret
      exact ⟨rfl, hc9⟩
theorem order_walk (a b c : Nat) (w : World) (ha : a < 18446744073709551616) (hb : b < 18446744073709551616) (hc : c < 18446744073709551616) : Calls Try.prog 10 #[.int .u64 a, .int .u64 b, .int .u64 c] w fun e w' => e = .returned (.bool true) ∧ Chg w w' Nothing := by
  have HT := cmp_trans ha hb hc
  have HL := cmp_low ha
  have HH := cmp_high ha
  have hn : (isNaN a = true) ∨ (isNaN a = false ∧ fixB a = a) := by
    cases h : isNaN a with
    | true => exact .inl rfl
    | false => exact .inr ⟨rfl, fixB_num h⟩
  rcases cmp_facts ha hb with ⟨h1, h2, h3, h4, _⟩ | ⟨h1, h2, h3, h4, h5, _⟩ | ⟨h1, h2, h3, h4, _⟩
  · exact order_1 a b c w h1 h2 h3 HL HH h4 hn
  · by_cases hq : 0 < cmpC b c
    · exact order_2 a b c w h1 h2 h3 HL HH h4 h5 hq hn
    · exact order_3 a b c w h1 h2 h3 HL HH h4 h5 (by omega) (HT.1 (by omega) (by omega)) hn
  · by_cases hq : 0 < cmpC b c
    · exact order_4 a b c w h1 h2 h3 HL HH h4 hq hn
    · exact order_5 a b c w h1 h2 h3 HL HH h4 (by omega) (HT.2 (by omega) (by omega)) (HT.1 (by omega) (by omega)) hn

end Go.Proofs.Ytenebkiiemlecaa
