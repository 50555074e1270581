/- NumberHashes, NumberMods, NumberNumbers: the walks. -/
import Derived.Test.YtenebkiiemlecaaL1D
import Derived.Test.YtenebkiiemlecaaL1C
namespace Go.Proofs.Ytenebkiiemlecaa
open Go Go.RowKit
set_option linter.unusedVariables false
set_option linter.unusedSimpArgs false

/-- A whole number up to 2^53 as a float. -/
theorem int_word {n : Nat} (h : n ≤ 9007199254740992) : ∃ R, floatOfInt .f64 (n : Int) = R ∧ f64.nearest false n 0 = R ∧ R < 9218868437227405312 ∧ units R = n * lsbs 1074 := by
  obtain ⟨R, h1, h2⟩ := units_of h
  have e : floatOfInt .f64 (n : Int) = f64.nearest (decide ((n : Int) < 0)) ((n : Int).natAbs) 0 := rfl
  have e2 : decide ((n : Int) < 0) = false := decide_eq_false (by omega)
  have e3 : ((n : Int).natAbs) = n := Int.natAbs_natCast n
  have e4 := nearest_lsbs false h1 h2.symm
  have e5 : (-1074 + ((1074 : Nat) : Int)) = 0 := by decide
  rw [e5] at e4
  have e6 : f64.word false R = R := rfl
  rw [e6] at e4
  exact ⟨R, by rw [e, e2, e3, e4], e4, h1, h2⟩
theorem small_word {R : Nat} (h : R < 9218868437227405312) : rungB R = R ∧ negB R = false ∧ sk R = R := by
  have h1 : rungB R = R := by unfold rungB; omega
  have h2 : negB R = false := by
    unfold negB
    have : R / 9223372036854775808 = 0 := by omega
    rw [this]; rfl
  refine ⟨h1, h2, ?_⟩
  unfold sk
  rw [h1, h2]
  simp
theorem int_facts {n : Nat} (h : n ≤ 9007199254740992) : ∃ R, floatOfInt .f64 (n : Int) = R ∧ R < 9218868437227405312 ∧ isNaN R = false ∧ fixB R = R ∧ wholeN R = n ∧ geW R 0 = true ∧ idxB R = true ∧ (n < 9007199254740992 → wholeB R 0 = true) ∧ (1 ≤ n → n < 9007199254740992 → wholeB R oneW = true) := by
  obtain ⟨R, h1, h2, h3, h4⟩ := int_word h
  obtain ⟨r1, r2, r3⟩ := small_word h3
  have hn : isNaN R = false := num_of_rung (by rw [r1]; exact h3)
  have hw : wholeN R = n := by unfold wholeN; rw [r1, h4, Nat.mul_div_cancel _ (lsbs_pos _)]
  have hz : wholeV .zero R = R := by
    unfold wholeV
    rw [hn, integral_zero (by rw [r1]; exact h3), r2, hw]
    simp only [Bool.false_eq_true, if_false]
    have : f64.write (.number false n 0) = f64.nearest false n 0 := rfl
    rw [this, h2, fixB_num hn]
  have hge : geW R 0 = true := by
    unfold geW
    have k0 : sk 0 = 0 := by decide
    have n0 : isNaN 0 = false := by decide
    by_cases hR : R = 0
    · subst hR; decide
    · rw [(ltF_iff n0 hn).2 (by rw [k0, r3]; omega)]; rfl
  have hself : eqF (wholeV .zero R) R = true := by rw [hz]; exact eqF_of_num hn
  have hlt : ∀ W K : Nat, isNaN W = false → W < 9218868437227405312 → units W = K * lsbs 1074 → n < K → ltF R W = true := fun W K nW hW hu hK => by
    refine (ltF_iff hn nW).2 ?_
    rw [r3, (small_word hW).2.2]
    have : units R < units W := by rw [h4, hu]; exact Nat.mul_lt_mul_of_pos_right hK (lsbs_pos _)
    have := units_lt_iff.1 this
    omega
  refine ⟨R, h1, h3, hn, fixB_num hn, hw, hge, ?_, ?_, ?_⟩
  · unfold idxB
    rw [hge, hself, hlt _ _ (by decide) (by decide) units_63 (by omega)]
    rfl
  · intro h53
    rw [wholeB_eq (by decide) (by decide), hge, hself, hlt _ _ (by decide) (by decide) units_53 h53]
    rfl
  · intro hp h53
    rw [wholeB_eq one_facts.1 (by rw [one_facts.2]; decide), hself, hlt _ _ (by decide) (by decide) units_53 h53]
    have : geW R oneW = true := by
      unfold geW
      have hu1 : units oneW = 1 * lsbs 1074 := units_one
      have hle : units oneW ≤ units R := by rw [hu1, h4]; exact Nat.mul_le_mul_right _ hp
      have hle2 : oneW ≤ R := by
        rcases Nat.lt_or_ge R oneW with h | h
        · have := units_step h; omega
        · exact h
      rcases Nat.lt_or_eq_of_le hle2 with h | h
      · rw [(ltF_iff one_facts.1 hn).2 (by rw [one_facts.2, r3]; unfold oneW at h; omega)]; rfl
      · rw [← h, eqF_of_num one_facts.1]; simp
    rw [this]
    rfl

/-- A hash. -/
theorem hash_facts {a : Nat} (ha : a < 18446744073709551616) : idxE (oneV 8 a) 65536 = 0 := by
  obtain ⟨n, h1, h2, _⟩ := hash_range (fixB_lt ha)
  obtain ⟨R, e1, e2, e3, e4, e5, e6, e7, _⟩ := int_facts (n := n) (by omega)
  rw [oneV_8, h2, e1, e4]
  unfold idxE
  rw [e7, e5, decide_eq_true (by omega)]
  rfl
theorem hash_of {a b : Nat} (h : fixB a = fixB b) : oneV 8 a = oneV 8 b := by rw [oneV_8, oneV_8, h]

theorem hashes_walk (a b : Nat) (w : World) (ha : a < 18446744073709551616) (hb : b < 18446744073709551616) : Calls Try.prog 9 #[.int .u64 a, .int .u64 b] w fun e w' => e = .returned (.bool true) ∧ Chg w w' Nothing := by
  have HE := Lib.hid (hash_facts ha)
  have HX := Lib.hid (hash_of (fixB_fix a))
  have HY := Lib.hid (fun h => hash_of (a := a) (b := b) h)
  cases hs : ((fixB a : Int) == (fixB b : Int)) with
  | false =>
    go_enter Try.func9, Try.ntmps9
    go_wp2_with fail
    refine (raw_any _ _).mono ?_
    rintro e w0 ⟨rfl, rfl⟩
    go_wp2_with fail
    refine (raw_any _ _).mono ?_
    rintro e w0 ⟨rfl, rfl⟩
    go_wp2_with fail
    refine (lone_any _ _ _).mono ?_
    rintro e w1 ⟨rfl, hc1⟩
    go_wp2_with fail
    refine (lone_any _ _ _).mono ?_
    rintro e w2 ⟨rfl, hc2⟩
    go_wp2_with fail
    refine (index_any _ _ _).mono ?_
    rintro e w3 ⟨rfl, m3, hw3⟩
    have hc3 : Chg w2 w3 Nothing := by rw [hw3]; exact Chg.of_drewN _ _
    clear hw3
    rw [HE.out]
    generalize idxI (oneV 8 a) 65536 = I
    go_wp2_with fail
    refine (same_any _ _ _).mono ?_
    rintro e w4 ⟨rfl, rfl⟩
    rw [hs]
    go_wp2_with fail
    refine (live_any _).mono ?_
    rintro e w5 ⟨rfl, hc5⟩
    go_wp2_with fail
    refine (fix_any _ _).mono ?_
    rintro e w6 ⟨rfl, rfl⟩
    go_wp2_with fail
    refine (lone_any _ _ _).mono ?_
    rintro e w7 ⟨rfl, hc7⟩
    go_wp2_with fail
    refine (exact_yes HX.out _).mono ?_
    rintro e w8 ⟨rfl, rfl⟩
    go_wp2_with fail
    go_ret
    exact ⟨rfl, hc1.then (hc2.then (hc3.then (hc5.then hc7)))⟩
  | true =>
    have hs2 : fixB a = fixB b := by simp only [beq_iff_eq] at hs; omega
    have HZ := Lib.hid (HY.out hs2)
    clear hs2
    go_enter Try.func9, Try.ntmps9
    go_wp2_with fail
    refine (raw_any _ _).mono ?_
    rintro e w0 ⟨rfl, rfl⟩
    go_wp2_with fail
    refine (raw_any _ _).mono ?_
    rintro e w0 ⟨rfl, rfl⟩
    go_wp2_with fail
    refine (lone_any _ _ _).mono ?_
    rintro e w1 ⟨rfl, hc1⟩
    go_wp2_with fail
    refine (lone_any _ _ _).mono ?_
    rintro e w2 ⟨rfl, hc2⟩
    go_wp2_with fail
    refine (index_any _ _ _).mono ?_
    rintro e w3 ⟨rfl, m3, hw3⟩
    have hc3 : Chg w2 w3 Nothing := by rw [hw3]; exact Chg.of_drewN _ _
    clear hw3
    rw [HE.out]
    generalize idxI (oneV 8 a) 65536 = I
    go_wp2_with fail
    refine (same_any _ _ _).mono ?_
    rintro e w4 ⟨rfl, rfl⟩
    rw [hs]
    go_wp2_with fail
    refine (exact_yes HZ.out _).mono ?_
    rintro e w4 ⟨rfl, rfl⟩
    go_wp2_with fail
    refine (live_any _).mono ?_
    rintro e w5 ⟨rfl, hc5⟩
    go_wp2_with fail
    refine (fix_any _ _).mono ?_
    rintro e w6 ⟨rfl, rfl⟩
    go_wp2_with fail
    refine (lone_any _ _ _).mono ?_
    rintro e w7 ⟨rfl, hc7⟩
    go_wp2_with fail
    refine (exact_yes HX.out _).mono ?_
    rintro e w8 ⟨rfl, rfl⟩
    go_wp2_with fail
    go_ret
    exact ⟨rfl, hc1.then (hc2.then (hc3.then (hc5.then hc7)))⟩

theorem num_1 : oneV 8 9223372036854775808 = 4674736413210574848 := by rw [oneV_8]; decide +kernel
theorem num_2 : oneV 8 4607182418800017408 = 4676018443768561664 := by rw [oneV_8]; decide +kernel
theorem num_3 : twoV 4 4607182418800017408 9223372036854775808 = 18442240474082181120 := by rw [twoV_4]; decide +kernel
theorem num_4 : idxI 9223372036854775808 1 = 0 := by decide +kernel
theorem num_5 : idxE 9223372036854775808 1 = 0 := by decide +kernel
theorem num_6 : idxE 0 0 = 10 := by decide +kernel
theorem num_7 : cmpC 0 9223372036854775808 = 1 := by decide +kernel
theorem numbers_walk (w : World) : Calls Try.prog 11 #[] w fun e w' => e = .returned (.bool true) ∧ Chg w w' Nothing := by
  have q1 : eqF 4674736413210574848 4674736413210574848 = true := by decide
  have q2 : eqF 4676018443768561664 4676018443768561664 = true := by decide
  go_enter Try.func11, Try.ntmps11
  go_wp2_with fail
  refine (raw_any _ _).mono ?_
  rintro e w0 ⟨rfl, rfl⟩
  go_wp2_with fail
  refine (one_any _ _ _).mono ?_
  rintro e w1 ⟨rfl, hc1⟩
  rw [num_1, oneE_8]
  go_wp2_with fail
  refine (one_any _ _ _).mono ?_
  rintro e w2 ⟨rfl, hc2⟩
  rw [num_2, oneE_8]
  go_wp2_with fail
  refine (raw_any _ _).mono ?_
  rintro e w0 ⟨rfl, rfl⟩
  go_wp2_with fail
  refine (two_any _ _ _ _ (by decide) (by decide)).mono ?_
  rintro e w3 ⟨rfl, hc3⟩
  rw [num_3, twoE_4]
  go_wp2_with fail
  refine (raw_any _ _).mono ?_
  rintro e w0 ⟨rfl, rfl⟩
  go_wp2_with fail
  refine (index_any _ _ _).mono ?_
  rintro e w4 ⟨rfl, m4, hw4⟩
  have hc4 : Chg w3 w4 Nothing := by rw [hw4]; exact Chg.of_drewN _ _
  clear hw4
  rw [num_4, num_5]
  go_wp2_with fail
  refine (index_any _ _ _).mono ?_
  rintro e w5 ⟨rfl, m5, hw5⟩
  have hc5 : Chg w4 w5 Nothing := by rw [hw5]; exact Chg.of_drewN _ _
  clear hw5
  rw [num_6]
  generalize idxI 0 0 = I
  go_wp2_with fail
  refine (inf_neg _).mono ?_
  rintro e w0 ⟨rfl, rfl⟩
  go_wp2_with fail
  refine (exact_yes rfl _).mono ?_
  rintro e w0 ⟨rfl, rfl⟩
  go_wp2_with fail
  refine (raw_any _ _).mono ?_
  rintro e w0 ⟨rfl, rfl⟩
  go_wp2_with fail
  refine (compare_any _ _ _).mono ?_
  rintro e w0 ⟨rfl, rfl⟩
  rw [num_7]
  go_wp2_with fail
  go_ret
  exact ⟨rfl, hc1.then (hc2.then (hc3.then (hc4.then hc5)))⟩

end Go.Proofs.Ytenebkiiemlecaa
