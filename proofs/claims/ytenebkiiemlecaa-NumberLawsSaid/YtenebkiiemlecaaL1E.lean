/- NumberLaws: the walks. -/
import Derived.Test.YtenebkiiemlecaaL1D
namespace Go.Proofs.Ytenebkiiemlecaa
open Go Go.RowKit
set_option linter.unusedVariables false
set_option linter.unusedSimpArgs false

set_option maxRecDepth 100000 in
set_option maxHeartbeats 2000000 in
theorem laws_a (a b lo hi t1 t2 t3 u v f g : Nat) (w : World) (ha : a < 18446744073709551616) (hb : b < 18446744073709551616) (hlo : twoV 6 a b = lo) (hhi : twoV 7 a b = hi) (h1 : twoV 8 a b = t1) (h2 : twoV 8 b a = t2) (h3 : twoV 10 a b = t3) (hu : floatBits .add .f64 t1 t2 = some u) (hv : floatBits .add .f64 u t3 = some v) (hf : oneV 3 a = f) (na : eqF a a = false) (v1 : eqF v 4607182418800017408 = false) (v0 : eqF v 0 = true) (hnot : arV .sub a a = qn) : Calls Try.prog 5 #[.int .u64 a, .int .u64 b] w fun e w' => e = .returned (.bool true) ∧ Chg w w' Nothing := by
  have HLO := Lib.hid hlo
  clear hlo
  have HHI := Lib.hid hhi
  clear hhi
  have H1 := Lib.hid h1
  clear h1
  have H2 := Lib.hid h2
  clear h2
  have H3 := Lib.hid h3
  clear h3
  have HF := Lib.hid hf
  clear hf
  have T1 := Lib.hid (add_turn a b)
  have T2 := Lib.hid (mul_turn a b)
  have T3 := Lib.hid (sub_less a hb)
  have T4 := Lib.hid (neg_neg ha)
  have T5 := Lib.hid (abs_neg ha)
  have T6 := Lib.hid (not_is a)
  have B1 := neg_lt hb
  have su : ∀ w, (binOp .add 23 (fl t1) (fl t2)).run Try.prog w = .ok (fl u) w := fun w => run_float_arith w .add _ .f64 _ _ _ hu
  have sv : ∀ w, (binOp .add 23 (fl u) (fl t3)).run Try.prog w = .ok (fl v) w := fun w => run_float_arith w .add _ .f64 _ _ _ hv
  clear hu hv
  have HNOT := Lib.hid hnot
  clear hnot
  go_enter Try.func5, Try.ntmps5
  go_wp2_with fail
  refine (raw_any _ _).mono ?_
  rintro e w0 ⟨rfl, rfl⟩
  go_wp2_with fail
  refine (raw_any _ _).mono ?_
  rintro e w0 ⟨rfl, rfl⟩
  go_wp2_with fail
  refine (ltwo_any _ _ _ _ ha hb).mono ?_
  rintro e w1 ⟨rfl, hc1⟩
  go_wp2_with fail
  refine (ltwo_any _ _ _ _ hb ha).mono ?_
  rintro e w2 ⟨rfl, hc2⟩
  go_wp2_with fail
  refine (exact_yes T1.out _).mono ?_
  rintro e w0 ⟨rfl, rfl⟩
  go_wp2_with fail
  refine (ltwo_any _ _ _ _ ha hb).mono ?_
  rintro e w3 ⟨rfl, hc3⟩
  go_wp2_with fail
  refine (ltwo_any _ _ _ _ hb ha).mono ?_
  rintro e w4 ⟨rfl, hc4⟩
  go_wp2_with fail
  refine (exact_yes T2.out _).mono ?_
  rintro e w0 ⟨rfl, rfl⟩
  go_wp2_with fail
  refine (ltwo_any _ _ _ _ ha hb).mono ?_
  rintro e w5 ⟨rfl, hc5⟩
  go_wp2_with fail
  refine (lone_any _ _ _).mono ?_
  rintro e w6 ⟨rfl, hc6⟩
  go_wp2_with fail
  refine (ltwo_any _ _ _ _ ha B1).mono ?_
  rintro e w7 ⟨rfl, hc7⟩
  go_wp2_with fail
  refine (exact_yes T3.out _).mono ?_
  rintro e w0 ⟨rfl, rfl⟩
  go_wp2_with fail
  refine (lone_any _ _ _).mono ?_
  rintro e w8 ⟨rfl, hc8⟩
  go_wp2_with fail
  refine (lone_any _ _ _).mono ?_
  rintro e w9 ⟨rfl, hc9⟩
  go_wp2_with fail
  refine (fix_any _ _).mono ?_
  rintro e w0 ⟨rfl, rfl⟩
  go_wp2_with fail
  refine (exact_yes T4.out _).mono ?_
  rintro e w0 ⟨rfl, rfl⟩
  go_wp2_with fail
  refine (lone_any _ _ _).mono ?_
  rintro e w10 ⟨rfl, hc10⟩
  go_wp2_with fail
  refine (lone_any _ _ _).mono ?_
  rintro e w11 ⟨rfl, hc11⟩
  go_wp2_with fail
  refine (lone_any _ _ _).mono ?_
  rintro e w12 ⟨rfl, hc12⟩
  go_wp2_with fail
  refine (exact_yes T5.out _).mono ?_
  rintro e w0 ⟨rfl, rfl⟩
  go_wp2_with fail
  refine (ltwo_any _ _ _ _ ha hb).mono ?_
  rintro e w13 ⟨rfl, hc13⟩
  rw [HLO.out]
  go_wp2_with fail
  refine (ltwo_any _ _ _ _ ha hb).mono ?_
  rintro e w14 ⟨rfl, hc14⟩
  rw [HHI.out]
  go_wp2_with fail
  refine (lone_any _ _ _).mono ?_
  rintro e w15 ⟨rfl, hc15⟩
  rw [HF.out]
  obtain ⟨r, m, R1, R2⟩ := ar_run .sub (by simp) 23 a a w15
  have hr0 := not_zero_of (R2.trans HNOT.out)
  clear R2
  have hcd := (Chg.refl w15 Nothing).drewN m
  go_wp2_with fail
  refine (ltwo_any _ _ _ _ ha hb).mono ?_
  rintro e w16 ⟨rfl, hc16⟩
  rw [H1.out]
  go_wp2_with fail
  refine (ltwo_any _ _ _ _ hb ha).mono ?_
  rintro e w17 ⟨rfl, hc17⟩
  rw [H2.out]
  go_wp2_with fail
  refine (ltwo_any _ _ _ _ ha hb).mono ?_
  rintro e w18 ⟨rfl, hc18⟩
  rw [H3.out]
  go_wp2_with fail
  refine (true_any _ _).mono ?_
  rintro e w0 ⟨rfl, rfl⟩
  go_wp2_with fail
  refine (lone_any _ _ _).mono ?_
  rintro e w19 ⟨rfl, hc19⟩
  have t6 := T6.out
  have tt : (trueB a == trueB a) = true := by simp
  generalize trueB a = TB at t6 tt ⊢
  generalize oneV 5 a = OV at t6 ⊢
  go_wp2_with fail
  refine (live_any _).mono ?_
  rintro e w20 ⟨rfl, hc20⟩
  go_wp2_with fail
  go_ret
  exact ⟨by simp, hc1.then (hc2.then (hc3.then (hc4.then (hc5.then (hc6.then (hc7.then (hc8.then (hc9.then (hc10.then (hc11.then (hc12.then (hc13.then (hc14.then (hc15.then (hcd.then (hc16.then (hc17.then (hc18.then (hc19.then (hc20))))))))))))))))))))⟩

set_option maxRecDepth 100000 in
set_option maxHeartbeats 2000000 in
theorem laws_b0 (a b lo hi t1 t2 t3 u v f g : Nat) (w : World) (ha : a < 18446744073709551616) (hb : b < 18446744073709551616) (hlo : twoV 6 a b = lo) (hhi : twoV 7 a b = hi) (h1 : twoV 8 a b = t1) (h2 : twoV 8 b a = t2) (h3 : twoV 10 a b = t3) (hu : floatBits .add .f64 t1 t2 = some u) (hv : floatBits .add .f64 u t3 = some v) (hf : oneV 3 a = f) (na : eqF a a = true) (nb : eqF b b = false) (v1 : eqF v 4607182418800017408 = false) (v0 : eqF v 0 = true) (hnot : arV .sub a a = qn) : Calls Try.prog 5 #[.int .u64 a, .int .u64 b] w fun e w' => e = .returned (.bool true) ∧ Chg w w' Nothing := by
  have HLO := Lib.hid hlo
  clear hlo
  have HHI := Lib.hid hhi
  clear hhi
  have H1 := Lib.hid h1
  clear h1
  have H2 := Lib.hid h2
  clear h2
  have H3 := Lib.hid h3
  clear h3
  have HF := Lib.hid hf
  clear hf
  have T1 := Lib.hid (add_turn a b)
  have T2 := Lib.hid (mul_turn a b)
  have T3 := Lib.hid (sub_less a hb)
  have T4 := Lib.hid (neg_neg ha)
  have T5 := Lib.hid (abs_neg ha)
  have T6 := Lib.hid (not_is a)
  have B1 := neg_lt hb
  have su : ∀ w, (binOp .add 23 (fl t1) (fl t2)).run Try.prog w = .ok (fl u) w := fun w => run_float_arith w .add _ .f64 _ _ _ hu
  have sv : ∀ w, (binOp .add 23 (fl u) (fl t3)).run Try.prog w = .ok (fl v) w := fun w => run_float_arith w .add _ .f64 _ _ _ hv
  clear hu hv
  have HNOT := Lib.hid hnot
  clear hnot
  go_enter Try.func5, Try.ntmps5
  go_wp2_with fail
  refine (raw_any _ _).mono ?_
  rintro e w0 ⟨rfl, rfl⟩
  go_wp2_with fail
  refine (raw_any _ _).mono ?_
  rintro e w0 ⟨rfl, rfl⟩
  go_wp2_with fail
  refine (ltwo_any _ _ _ _ ha hb).mono ?_
  rintro e w1 ⟨rfl, hc1⟩
  go_wp2_with fail
  refine (ltwo_any _ _ _ _ hb ha).mono ?_
  rintro e w2 ⟨rfl, hc2⟩
  go_wp2_with fail
  refine (exact_yes T1.out _).mono ?_
  rintro e w0 ⟨rfl, rfl⟩
  go_wp2_with fail
  refine (ltwo_any _ _ _ _ ha hb).mono ?_
  rintro e w3 ⟨rfl, hc3⟩
  go_wp2_with fail
  refine (ltwo_any _ _ _ _ hb ha).mono ?_
  rintro e w4 ⟨rfl, hc4⟩
  go_wp2_with fail
  refine (exact_yes T2.out _).mono ?_
  rintro e w0 ⟨rfl, rfl⟩
  go_wp2_with fail
  refine (ltwo_any _ _ _ _ ha hb).mono ?_
  rintro e w5 ⟨rfl, hc5⟩
  go_wp2_with fail
  refine (lone_any _ _ _).mono ?_
  rintro e w6 ⟨rfl, hc6⟩
  go_wp2_with fail
  refine (ltwo_any _ _ _ _ ha B1).mono ?_
  rintro e w7 ⟨rfl, hc7⟩
  go_wp2_with fail
  refine (exact_yes T3.out _).mono ?_
  rintro e w0 ⟨rfl, rfl⟩
  go_wp2_with fail
  refine (lone_any _ _ _).mono ?_
  rintro e w8 ⟨rfl, hc8⟩
  go_wp2_with fail
  refine (lone_any _ _ _).mono ?_
  rintro e w9 ⟨rfl, hc9⟩
  go_wp2_with fail
  refine (fix_any _ _).mono ?_
  rintro e w0 ⟨rfl, rfl⟩
  go_wp2_with fail
  refine (exact_yes T4.out _).mono ?_
  rintro e w0 ⟨rfl, rfl⟩
  go_wp2_with fail
  refine (lone_any _ _ _).mono ?_
  rintro e w10 ⟨rfl, hc10⟩
  go_wp2_with fail
  refine (lone_any _ _ _).mono ?_
  rintro e w11 ⟨rfl, hc11⟩
  go_wp2_with fail
  refine (lone_any _ _ _).mono ?_
  rintro e w12 ⟨rfl, hc12⟩
  go_wp2_with fail
  refine (exact_yes T5.out _).mono ?_
  rintro e w0 ⟨rfl, rfl⟩
  go_wp2_with fail
  refine (ltwo_any _ _ _ _ ha hb).mono ?_
  rintro e w13 ⟨rfl, hc13⟩
  rw [HLO.out]
  go_wp2_with fail
  refine (ltwo_any _ _ _ _ ha hb).mono ?_
  rintro e w14 ⟨rfl, hc14⟩
  rw [HHI.out]
  go_wp2_with fail
  refine (lone_any _ _ _).mono ?_
  rintro e w15 ⟨rfl, hc15⟩
  rw [HF.out]
  obtain ⟨r, m, R1, R2⟩ := ar_run .sub (by simp) 23 a a w15
  have hr0 := not_zero_of (R2.trans HNOT.out)
  clear R2
  have hcd := (Chg.refl w15 Nothing).drewN m
  go_wp2_with fail
  refine (ltwo_any _ _ _ _ ha hb).mono ?_
  rintro e w16 ⟨rfl, hc16⟩
  rw [H1.out]
  go_wp2_with fail
  refine (ltwo_any _ _ _ _ hb ha).mono ?_
  rintro e w17 ⟨rfl, hc17⟩
  rw [H2.out]
  go_wp2_with fail
  refine (ltwo_any _ _ _ _ ha hb).mono ?_
  rintro e w18 ⟨rfl, hc18⟩
  rw [H3.out]
  go_wp2_with fail
  refine (true_any _ _).mono ?_
  rintro e w0 ⟨rfl, rfl⟩
  go_wp2_with fail
  refine (lone_any _ _ _).mono ?_
  rintro e w19 ⟨rfl, hc19⟩
  have t6 := T6.out
  have tt : (trueB a == trueB a) = true := by simp
  generalize trueB a = TB at t6 tt ⊢
  generalize oneV 5 a = OV at t6 ⊢
  go_wp2_with fail
  refine (live_any _).mono ?_
  rintro e w20 ⟨rfl, hc20⟩
  go_wp2_with fail
  go_ret
  exact ⟨by simp, hc1.then (hc2.then (hc3.then (hc4.then (hc5.then (hc6.then (hc7.then (hc8.then (hc9.then (hc10.then (hc11.then (hc12.then (hc13.then (hc14.then (hc15.then (hcd.then (hc16.then (hc17.then (hc18.then (hc19.then (hc20))))))))))))))))))))⟩

set_option maxRecDepth 100000 in
set_option maxHeartbeats 2000000 in
theorem laws_b1 (a b lo hi t1 t2 t3 u v f g : Nat) (w : World) (ha : a < 18446744073709551616) (hb : b < 18446744073709551616) (hlo : twoV 6 a b = lo) (hhi : twoV 7 a b = hi) (h1 : twoV 8 a b = t1) (h2 : twoV 8 b a = t2) (h3 : twoV 10 a b = t3) (hu : floatBits .add .f64 t1 t2 = some u) (hv : floatBits .add .f64 u t3 = some v) (hf : oneV 3 a = f) (na : eqF a a = true) (nb : eqF b b = false) (v1 : eqF v 4607182418800017408 = false) (v0 : eqF v 0 = true) (hsub : floatBits .sub .f64 a a = some 0) (hadd : floatBits .add .f64 f 4607182418800017408 = some g) (hle2 : (ltF f a || eqF f a) = true) (hor : ltF a g = true ∨ (ltF a g = false ∧ eqF f a = true)) : Calls Try.prog 5 #[.int .u64 a, .int .u64 b] w fun e w' => e = .returned (.bool true) ∧ Chg w w' Nothing := by
  have HLO := Lib.hid hlo
  clear hlo
  have HHI := Lib.hid hhi
  clear hhi
  have H1 := Lib.hid h1
  clear h1
  have H2 := Lib.hid h2
  clear h2
  have H3 := Lib.hid h3
  clear h3
  have HF := Lib.hid hf
  clear hf
  have T1 := Lib.hid (add_turn a b)
  have T2 := Lib.hid (mul_turn a b)
  have T3 := Lib.hid (sub_less a hb)
  have T4 := Lib.hid (neg_neg ha)
  have T5 := Lib.hid (abs_neg ha)
  have T6 := Lib.hid (not_is a)
  have B1 := neg_lt hb
  have su : ∀ w, (binOp .add 23 (fl t1) (fl t2)).run Try.prog w = .ok (fl u) w := fun w => run_float_arith w .add _ .f64 _ _ _ hu
  have sv : ∀ w, (binOp .add 23 (fl u) (fl t3)).run Try.prog w = .ok (fl v) w := fun w => run_float_arith w .add _ .f64 _ _ _ hv
  clear hu hv
  have ssub : ∀ w, (binOp .sub 23 (fl a) (fl a)).run Try.prog w = .ok (fl 0) w := fun w => run_float_arith w .sub _ .f64 _ _ _ hsub
  have sadd : ∀ w, (binOp .add 23 (fl f) (fl 4607182418800017408)).run Try.prog w = .ok (fl g) w := fun w => run_float_arith w .add _ .f64 _ _ _ hadd
  have z0 : eqF 0 0 = true := by decide
  clear hsub hadd
  have HOR := Lib.hid hor
  clear hor
  go_enter Try.func5, Try.ntmps5
  go_wp2_with fail
  refine (raw_any _ _).mono ?_
  rintro e w0 ⟨rfl, rfl⟩
  go_wp2_with fail
  refine (raw_any _ _).mono ?_
  rintro e w0 ⟨rfl, rfl⟩
  go_wp2_with fail
  refine (ltwo_any _ _ _ _ ha hb).mono ?_
  rintro e w1 ⟨rfl, hc1⟩
  go_wp2_with fail
  refine (ltwo_any _ _ _ _ hb ha).mono ?_
  rintro e w2 ⟨rfl, hc2⟩
  go_wp2_with fail
  refine (exact_yes T1.out _).mono ?_
  rintro e w0 ⟨rfl, rfl⟩
  go_wp2_with fail
  refine (ltwo_any _ _ _ _ ha hb).mono ?_
  rintro e w3 ⟨rfl, hc3⟩
  go_wp2_with fail
  refine (ltwo_any _ _ _ _ hb ha).mono ?_
  rintro e w4 ⟨rfl, hc4⟩
  go_wp2_with fail
  refine (exact_yes T2.out _).mono ?_
  rintro e w0 ⟨rfl, rfl⟩
  go_wp2_with fail
  refine (ltwo_any _ _ _ _ ha hb).mono ?_
  rintro e w5 ⟨rfl, hc5⟩
  go_wp2_with fail
  refine (lone_any _ _ _).mono ?_
  rintro e w6 ⟨rfl, hc6⟩
  go_wp2_with fail
  refine (ltwo_any _ _ _ _ ha B1).mono ?_
  rintro e w7 ⟨rfl, hc7⟩
  go_wp2_with fail
  refine (exact_yes T3.out _).mono ?_
  rintro e w0 ⟨rfl, rfl⟩
  go_wp2_with fail
  refine (lone_any _ _ _).mono ?_
  rintro e w8 ⟨rfl, hc8⟩
  go_wp2_with fail
  refine (lone_any _ _ _).mono ?_
  rintro e w9 ⟨rfl, hc9⟩
  go_wp2_with fail
  refine (fix_any _ _).mono ?_
  rintro e w0 ⟨rfl, rfl⟩
  go_wp2_with fail
  refine (exact_yes T4.out _).mono ?_
  rintro e w0 ⟨rfl, rfl⟩
  go_wp2_with fail
  refine (lone_any _ _ _).mono ?_
  rintro e w10 ⟨rfl, hc10⟩
  go_wp2_with fail
  refine (lone_any _ _ _).mono ?_
  rintro e w11 ⟨rfl, hc11⟩
  go_wp2_with fail
  refine (lone_any _ _ _).mono ?_
  rintro e w12 ⟨rfl, hc12⟩
  go_wp2_with fail
  refine (exact_yes T5.out _).mono ?_
  rintro e w0 ⟨rfl, rfl⟩
  go_wp2_with fail
  refine (ltwo_any _ _ _ _ ha hb).mono ?_
  rintro e w13 ⟨rfl, hc13⟩
  rw [HLO.out]
  go_wp2_with fail
  refine (ltwo_any _ _ _ _ ha hb).mono ?_
  rintro e w14 ⟨rfl, hc14⟩
  rw [HHI.out]
  go_wp2_with fail
  refine (lone_any _ _ _).mono ?_
  rintro e w15 ⟨rfl, hc15⟩
  rw [HF.out]
  rcases HOR.out with hg | ⟨hg, hfa⟩
  · go_wp2_with fail
    refine (ltwo_any _ _ _ _ ha hb).mono ?_
    rintro e w16 ⟨rfl, hc16⟩
    rw [H1.out]
    go_wp2_with fail
    refine (ltwo_any _ _ _ _ hb ha).mono ?_
    rintro e w17 ⟨rfl, hc17⟩
    rw [H2.out]
    go_wp2_with fail
    refine (ltwo_any _ _ _ _ ha hb).mono ?_
    rintro e w18 ⟨rfl, hc18⟩
    rw [H3.out]
    go_wp2_with fail
    refine (true_any _ _).mono ?_
    rintro e w0 ⟨rfl, rfl⟩
    go_wp2_with fail
    refine (lone_any _ _ _).mono ?_
    rintro e w19 ⟨rfl, hc19⟩
    have t6 := T6.out
    have tt : (trueB a == trueB a) = true := by simp
    generalize trueB a = TB at t6 tt ⊢
    generalize oneV 5 a = OV at t6 ⊢
    go_wp2_with fail
    refine (live_any _).mono ?_
    rintro e w20 ⟨rfl, hc20⟩
    go_wp2_with fail
    go_ret
    exact ⟨by simp, hc1.then (hc2.then (hc3.then (hc4.then (hc5.then (hc6.then (hc7.then (hc8.then (hc9.then (hc10.then (hc11.then (hc12.then (hc13.then (hc14.then (hc15.then (hc16.then (hc17.then (hc18.then (hc19.then (hc20)))))))))))))))))))⟩
  · go_wp2_with fail
    refine (ltwo_any _ _ _ _ ha hb).mono ?_
    rintro e w16 ⟨rfl, hc16⟩
    rw [H1.out]
    go_wp2_with fail
    refine (ltwo_any _ _ _ _ hb ha).mono ?_
    rintro e w17 ⟨rfl, hc17⟩
    rw [H2.out]
    go_wp2_with fail
    refine (ltwo_any _ _ _ _ ha hb).mono ?_
    rintro e w18 ⟨rfl, hc18⟩
    rw [H3.out]
    go_wp2_with fail
    refine (true_any _ _).mono ?_
    rintro e w0 ⟨rfl, rfl⟩
    go_wp2_with fail
    refine (lone_any _ _ _).mono ?_
    rintro e w19 ⟨rfl, hc19⟩
    have t6 := T6.out
    have tt : (trueB a == trueB a) = true := by simp
    generalize trueB a = TB at t6 tt ⊢
    generalize oneV 5 a = OV at t6 ⊢
    go_wp2_with fail
    refine (live_any _).mono ?_
    rintro e w20 ⟨rfl, hc20⟩
    go_wp2_with fail
    go_ret
    exact ⟨by simp, hc1.then (hc2.then (hc3.then (hc4.then (hc5.then (hc6.then (hc7.then (hc8.then (hc9.then (hc10.then (hc11.then (hc12.then (hc13.then (hc14.then (hc15.then (hc16.then (hc17.then (hc18.then (hc19.then (hc20)))))))))))))))))))⟩

set_option maxRecDepth 100000 in
set_option maxHeartbeats 2000000 in
theorem laws_p0 (a b lo hi t1 t2 t3 u v f g : Nat) (w : World) (ha : a < 18446744073709551616) (hb : b < 18446744073709551616) (hlo : twoV 6 a b = lo) (hhi : twoV 7 a b = hi) (h1 : twoV 8 a b = t1) (h2 : twoV 8 b a = t2) (h3 : twoV 10 a b = t3) (hu : floatBits .add .f64 t1 t2 = some u) (hv : floatBits .add .f64 u t3 = some v) (hf : oneV 3 a = f) (na : eqF a a = true) (nb : eqF b b = true) (s1 : ((fixB lo : Int) == (fixB a : Int)) = true) (s2 : ((fixB hi : Int) == (fixB b : Int)) = true) (hle : cmpC lo hi ≤ 0) (v1 : eqF v 4607182418800017408 = true) (hnot : arV .sub a a = qn) : Calls Try.prog 5 #[.int .u64 a, .int .u64 b] w fun e w' => e = .returned (.bool true) ∧ Chg w w' Nothing := by
  have HLO := Lib.hid hlo
  clear hlo
  have HHI := Lib.hid hhi
  clear hhi
  have H1 := Lib.hid h1
  clear h1
  have H2 := Lib.hid h2
  clear h2
  have H3 := Lib.hid h3
  clear h3
  have HF := Lib.hid hf
  clear hf
  have T1 := Lib.hid (add_turn a b)
  have T2 := Lib.hid (mul_turn a b)
  have T3 := Lib.hid (sub_less a hb)
  have T4 := Lib.hid (neg_neg ha)
  have T5 := Lib.hid (abs_neg ha)
  have T6 := Lib.hid (not_is a)
  have B1 := neg_lt hb
  have su : ∀ w, (binOp .add 23 (fl t1) (fl t2)).run Try.prog w = .ok (fl u) w := fun w => run_float_arith w .add _ .f64 _ _ _ hu
  have sv : ∀ w, (binOp .add 23 (fl u) (fl t3)).run Try.prog w = .ok (fl v) w := fun w => run_float_arith w .add _ .f64 _ _ _ hv
  clear hu hv
  have HNOT := Lib.hid hnot
  clear hnot
  go_enter Try.func5, Try.ntmps5
  go_wp2_with fail
  refine (raw_any _ _).mono ?_
  rintro e w0 ⟨rfl, rfl⟩
  go_wp2_with fail
  refine (raw_any _ _).mono ?_
  rintro e w0 ⟨rfl, rfl⟩
  go_wp2_with fail
  refine (ltwo_any _ _ _ _ ha hb).mono ?_
  rintro e w1 ⟨rfl, hc1⟩
  go_wp2_with fail
  refine (ltwo_any _ _ _ _ hb ha).mono ?_
  rintro e w2 ⟨rfl, hc2⟩
  go_wp2_with fail
  refine (exact_yes T1.out _).mono ?_
  rintro e w0 ⟨rfl, rfl⟩
  go_wp2_with fail
  refine (ltwo_any _ _ _ _ ha hb).mono ?_
  rintro e w3 ⟨rfl, hc3⟩
  go_wp2_with fail
  refine (ltwo_any _ _ _ _ hb ha).mono ?_
  rintro e w4 ⟨rfl, hc4⟩
  go_wp2_with fail
  refine (exact_yes T2.out _).mono ?_
  rintro e w0 ⟨rfl, rfl⟩
  go_wp2_with fail
  refine (ltwo_any _ _ _ _ ha hb).mono ?_
  rintro e w5 ⟨rfl, hc5⟩
  go_wp2_with fail
  refine (lone_any _ _ _).mono ?_
  rintro e w6 ⟨rfl, hc6⟩
  go_wp2_with fail
  refine (ltwo_any _ _ _ _ ha B1).mono ?_
  rintro e w7 ⟨rfl, hc7⟩
  go_wp2_with fail
  refine (exact_yes T3.out _).mono ?_
  rintro e w0 ⟨rfl, rfl⟩
  go_wp2_with fail
  refine (lone_any _ _ _).mono ?_
  rintro e w8 ⟨rfl, hc8⟩
  go_wp2_with fail
  refine (lone_any _ _ _).mono ?_
  rintro e w9 ⟨rfl, hc9⟩
  go_wp2_with fail
  refine (fix_any _ _).mono ?_
  rintro e w0 ⟨rfl, rfl⟩
  go_wp2_with fail
  refine (exact_yes T4.out _).mono ?_
  rintro e w0 ⟨rfl, rfl⟩
  go_wp2_with fail
  refine (lone_any _ _ _).mono ?_
  rintro e w10 ⟨rfl, hc10⟩
  go_wp2_with fail
  refine (lone_any _ _ _).mono ?_
  rintro e w11 ⟨rfl, hc11⟩
  go_wp2_with fail
  refine (lone_any _ _ _).mono ?_
  rintro e w12 ⟨rfl, hc12⟩
  go_wp2_with fail
  refine (exact_yes T5.out _).mono ?_
  rintro e w0 ⟨rfl, rfl⟩
  go_wp2_with fail
  refine (ltwo_any _ _ _ _ ha hb).mono ?_
  rintro e w13 ⟨rfl, hc13⟩
  rw [HLO.out]
  go_wp2_with fail
  refine (ltwo_any _ _ _ _ ha hb).mono ?_
  rintro e w14 ⟨rfl, hc14⟩
  rw [HHI.out]
  go_wp2_with fail
  refine (same_any _ _ _).mono ?_
  rintro e w0 ⟨rfl, rfl⟩
  go_wp2_with fail
  refine (same_any _ _ _).mono ?_
  rintro e w0 ⟨rfl, rfl⟩
  go_wp2_with fail
  refine (compare_any _ _ _).mono ?_
  rintro e w0 ⟨rfl, rfl⟩
  go_wp2_with fail
  refine (lone_any _ _ _).mono ?_
  rintro e w15 ⟨rfl, hc15⟩
  rw [HF.out]
  obtain ⟨r, m, R1, R2⟩ := ar_run .sub (by simp) 23 a a w15
  have hr0 := not_zero_of (R2.trans HNOT.out)
  clear R2
  have hcd := (Chg.refl w15 Nothing).drewN m
  go_wp2_with fail
  refine (ltwo_any _ _ _ _ ha hb).mono ?_
  rintro e w16 ⟨rfl, hc16⟩
  rw [H1.out]
  go_wp2_with fail
  refine (ltwo_any _ _ _ _ hb ha).mono ?_
  rintro e w17 ⟨rfl, hc17⟩
  rw [H2.out]
  go_wp2_with fail
  refine (ltwo_any _ _ _ _ ha hb).mono ?_
  rintro e w18 ⟨rfl, hc18⟩
  rw [H3.out]
  go_wp2_with fail
  refine (true_any _ _).mono ?_
  rintro e w0 ⟨rfl, rfl⟩
  go_wp2_with fail
  refine (lone_any _ _ _).mono ?_
  rintro e w19 ⟨rfl, hc19⟩
  have t6 := T6.out
  have tt : (trueB a == trueB a) = true := by simp
  generalize trueB a = TB at t6 tt ⊢
  generalize oneV 5 a = OV at t6 ⊢
  go_wp2_with fail
  refine (live_any _).mono ?_
  rintro e w20 ⟨rfl, hc20⟩
  go_wp2_with fail
  go_ret
  exact ⟨by simp, hc1.then (hc2.then (hc3.then (hc4.then (hc5.then (hc6.then (hc7.then (hc8.then (hc9.then (hc10.then (hc11.then (hc12.then (hc13.then (hc14.then (hc15.then (hcd.then (hc16.then (hc17.then (hc18.then (hc19.then (hc20))))))))))))))))))))⟩

set_option maxRecDepth 100000 in
set_option maxHeartbeats 2000000 in
theorem laws_p1 (a b lo hi t1 t2 t3 u v f g : Nat) (w : World) (ha : a < 18446744073709551616) (hb : b < 18446744073709551616) (hlo : twoV 6 a b = lo) (hhi : twoV 7 a b = hi) (h1 : twoV 8 a b = t1) (h2 : twoV 8 b a = t2) (h3 : twoV 10 a b = t3) (hu : floatBits .add .f64 t1 t2 = some u) (hv : floatBits .add .f64 u t3 = some v) (hf : oneV 3 a = f) (na : eqF a a = true) (nb : eqF b b = true) (s1 : ((fixB lo : Int) == (fixB a : Int)) = true) (s2 : ((fixB hi : Int) == (fixB b : Int)) = true) (hle : cmpC lo hi ≤ 0) (v1 : eqF v 4607182418800017408 = true) (hsub : floatBits .sub .f64 a a = some 0) (hadd : floatBits .add .f64 f 4607182418800017408 = some g) (hle2 : (ltF f a || eqF f a) = true) (hor : ltF a g = true ∨ (ltF a g = false ∧ eqF f a = true)) : Calls Try.prog 5 #[.int .u64 a, .int .u64 b] w fun e w' => e = .returned (.bool true) ∧ Chg w w' Nothing := by
  have HLO := Lib.hid hlo
  clear hlo
  have HHI := Lib.hid hhi
  clear hhi
  have H1 := Lib.hid h1
  clear h1
  have H2 := Lib.hid h2
  clear h2
  have H3 := Lib.hid h3
  clear h3
  have HF := Lib.hid hf
  clear hf
  have T1 := Lib.hid (add_turn a b)
  have T2 := Lib.hid (mul_turn a b)
  have T3 := Lib.hid (sub_less a hb)
  have T4 := Lib.hid (neg_neg ha)
  have T5 := Lib.hid (abs_neg ha)
  have T6 := Lib.hid (not_is a)
  have B1 := neg_lt hb
  have su : ∀ w, (binOp .add 23 (fl t1) (fl t2)).run Try.prog w = .ok (fl u) w := fun w => run_float_arith w .add _ .f64 _ _ _ hu
  have sv : ∀ w, (binOp .add 23 (fl u) (fl t3)).run Try.prog w = .ok (fl v) w := fun w => run_float_arith w .add _ .f64 _ _ _ hv
  clear hu hv
  have ssub : ∀ w, (binOp .sub 23 (fl a) (fl a)).run Try.prog w = .ok (fl 0) w := fun w => run_float_arith w .sub _ .f64 _ _ _ hsub
  have sadd : ∀ w, (binOp .add 23 (fl f) (fl 4607182418800017408)).run Try.prog w = .ok (fl g) w := fun w => run_float_arith w .add _ .f64 _ _ _ hadd
  have z0 : eqF 0 0 = true := by decide
  clear hsub hadd
  have HOR := Lib.hid hor
  clear hor
  go_enter Try.func5, Try.ntmps5
  go_wp2_with fail
  refine (raw_any _ _).mono ?_
  rintro e w0 ⟨rfl, rfl⟩
  go_wp2_with fail
  refine (raw_any _ _).mono ?_
  rintro e w0 ⟨rfl, rfl⟩
  go_wp2_with fail
  refine (ltwo_any _ _ _ _ ha hb).mono ?_
  rintro e w1 ⟨rfl, hc1⟩
  go_wp2_with fail
  refine (ltwo_any _ _ _ _ hb ha).mono ?_
  rintro e w2 ⟨rfl, hc2⟩
  go_wp2_with fail
  refine (exact_yes T1.out _).mono ?_
  rintro e w0 ⟨rfl, rfl⟩
  go_wp2_with fail
  refine (ltwo_any _ _ _ _ ha hb).mono ?_
  rintro e w3 ⟨rfl, hc3⟩
  go_wp2_with fail
  refine (ltwo_any _ _ _ _ hb ha).mono ?_
  rintro e w4 ⟨rfl, hc4⟩
  go_wp2_with fail
  refine (exact_yes T2.out _).mono ?_
  rintro e w0 ⟨rfl, rfl⟩
  go_wp2_with fail
  refine (ltwo_any _ _ _ _ ha hb).mono ?_
  rintro e w5 ⟨rfl, hc5⟩
  go_wp2_with fail
  refine (lone_any _ _ _).mono ?_
  rintro e w6 ⟨rfl, hc6⟩
  go_wp2_with fail
  refine (ltwo_any _ _ _ _ ha B1).mono ?_
  rintro e w7 ⟨rfl, hc7⟩
  go_wp2_with fail
  refine (exact_yes T3.out _).mono ?_
  rintro e w0 ⟨rfl, rfl⟩
  go_wp2_with fail
  refine (lone_any _ _ _).mono ?_
  rintro e w8 ⟨rfl, hc8⟩
  go_wp2_with fail
  refine (lone_any _ _ _).mono ?_
  rintro e w9 ⟨rfl, hc9⟩
  go_wp2_with fail
  refine (fix_any _ _).mono ?_
  rintro e w0 ⟨rfl, rfl⟩
  go_wp2_with fail
  refine (exact_yes T4.out _).mono ?_
  rintro e w0 ⟨rfl, rfl⟩
  go_wp2_with fail
  refine (lone_any _ _ _).mono ?_
  rintro e w10 ⟨rfl, hc10⟩
  go_wp2_with fail
  refine (lone_any _ _ _).mono ?_
  rintro e w11 ⟨rfl, hc11⟩
  go_wp2_with fail
  refine (lone_any _ _ _).mono ?_
  rintro e w12 ⟨rfl, hc12⟩
  go_wp2_with fail
  refine (exact_yes T5.out _).mono ?_
  rintro e w0 ⟨rfl, rfl⟩
  go_wp2_with fail
  refine (ltwo_any _ _ _ _ ha hb).mono ?_
  rintro e w13 ⟨rfl, hc13⟩
  rw [HLO.out]
  go_wp2_with fail
  refine (ltwo_any _ _ _ _ ha hb).mono ?_
  rintro e w14 ⟨rfl, hc14⟩
  rw [HHI.out]
  go_wp2_with fail
  refine (same_any _ _ _).mono ?_
  rintro e w0 ⟨rfl, rfl⟩
  go_wp2_with fail
  refine (same_any _ _ _).mono ?_
  rintro e w0 ⟨rfl, rfl⟩
  go_wp2_with fail
  refine (compare_any _ _ _).mono ?_
  rintro e w0 ⟨rfl, rfl⟩
  go_wp2_with fail
  refine (lone_any _ _ _).mono ?_
  rintro e w15 ⟨rfl, hc15⟩
  rw [HF.out]
  rcases HOR.out with hg | ⟨hg, hfa⟩
  · go_wp2_with fail
    refine (ltwo_any _ _ _ _ ha hb).mono ?_
    rintro e w16 ⟨rfl, hc16⟩
    rw [H1.out]
    go_wp2_with fail
    refine (ltwo_any _ _ _ _ hb ha).mono ?_
    rintro e w17 ⟨rfl, hc17⟩
    rw [H2.out]
    go_wp2_with fail
    refine (ltwo_any _ _ _ _ ha hb).mono ?_
    rintro e w18 ⟨rfl, hc18⟩
    rw [H3.out]
    go_wp2_with fail
    refine (true_any _ _).mono ?_
    rintro e w0 ⟨rfl, rfl⟩
    go_wp2_with fail
    refine (lone_any _ _ _).mono ?_
    rintro e w19 ⟨rfl, hc19⟩
    have t6 := T6.out
    have tt : (trueB a == trueB a) = true := by simp
    generalize trueB a = TB at t6 tt ⊢
    generalize oneV 5 a = OV at t6 ⊢
    go_wp2_with fail
    refine (live_any _).mono ?_
    rintro e w20 ⟨rfl, hc20⟩
    go_wp2_with fail
    go_ret
    exact ⟨by simp, hc1.then (hc2.then (hc3.then (hc4.then (hc5.then (hc6.then (hc7.then (hc8.then (hc9.then (hc10.then (hc11.then (hc12.then (hc13.then (hc14.then (hc15.then (hc16.then (hc17.then (hc18.then (hc19.then (hc20)))))))))))))))))))⟩
  · go_wp2_with fail
    refine (ltwo_any _ _ _ _ ha hb).mono ?_
    rintro e w16 ⟨rfl, hc16⟩
    rw [H1.out]
    go_wp2_with fail
    refine (ltwo_any _ _ _ _ hb ha).mono ?_
    rintro e w17 ⟨rfl, hc17⟩
    rw [H2.out]
    go_wp2_with fail
    refine (ltwo_any _ _ _ _ ha hb).mono ?_
    rintro e w18 ⟨rfl, hc18⟩
    rw [H3.out]
    go_wp2_with fail
    refine (true_any _ _).mono ?_
    rintro e w0 ⟨rfl, rfl⟩
    go_wp2_with fail
    refine (lone_any _ _ _).mono ?_
    rintro e w19 ⟨rfl, hc19⟩
    have t6 := T6.out
    have tt : (trueB a == trueB a) = true := by simp
    generalize trueB a = TB at t6 tt ⊢
    generalize oneV 5 a = OV at t6 ⊢
    go_wp2_with fail
    refine (live_any _).mono ?_
    rintro e w20 ⟨rfl, hc20⟩
    go_wp2_with fail
    go_ret
    exact ⟨by simp, hc1.then (hc2.then (hc3.then (hc4.then (hc5.then (hc6.then (hc7.then (hc8.then (hc9.then (hc10.then (hc11.then (hc12.then (hc13.then (hc14.then (hc15.then (hc16.then (hc17.then (hc18.then (hc19.then (hc20)))))))))))))))))))⟩

set_option maxRecDepth 100000 in
set_option maxHeartbeats 2000000 in
theorem laws_q0 (a b lo hi t1 t2 t3 u v f g : Nat) (w : World) (ha : a < 18446744073709551616) (hb : b < 18446744073709551616) (hlo : twoV 6 a b = lo) (hhi : twoV 7 a b = hi) (h1 : twoV 8 a b = t1) (h2 : twoV 8 b a = t2) (h3 : twoV 10 a b = t3) (hu : floatBits .add .f64 t1 t2 = some u) (hv : floatBits .add .f64 u t3 = some v) (hf : oneV 3 a = f) (na : eqF a a = true) (nb : eqF b b = true) (s1 : ((fixB lo : Int) == (fixB a : Int)) = false) (s3 : ((fixB lo : Int) == (fixB b : Int)) = true) (s4 : ((fixB hi : Int) == (fixB a : Int)) = true) (hle : cmpC lo hi ≤ 0) (v1 : eqF v 4607182418800017408 = true) (hnot : arV .sub a a = qn) : Calls Try.prog 5 #[.int .u64 a, .int .u64 b] w fun e w' => e = .returned (.bool true) ∧ Chg w w' Nothing := by
  have HLO := Lib.hid hlo
  clear hlo
  have HHI := Lib.hid hhi
  clear hhi
  have H1 := Lib.hid h1
  clear h1
  have H2 := Lib.hid h2
  clear h2
  have H3 := Lib.hid h3
  clear h3
  have HF := Lib.hid hf
  clear hf
  have T1 := Lib.hid (add_turn a b)
  have T2 := Lib.hid (mul_turn a b)
  have T3 := Lib.hid (sub_less a hb)
  have T4 := Lib.hid (neg_neg ha)
  have T5 := Lib.hid (abs_neg ha)
  have T6 := Lib.hid (not_is a)
  have B1 := neg_lt hb
  have su : ∀ w, (binOp .add 23 (fl t1) (fl t2)).run Try.prog w = .ok (fl u) w := fun w => run_float_arith w .add _ .f64 _ _ _ hu
  have sv : ∀ w, (binOp .add 23 (fl u) (fl t3)).run Try.prog w = .ok (fl v) w := fun w => run_float_arith w .add _ .f64 _ _ _ hv
  clear hu hv
  have HNOT := Lib.hid hnot
  clear hnot
  go_enter Try.func5, Try.ntmps5
  go_wp2_with fail
  refine (raw_any _ _).mono ?_
  rintro e w0 ⟨rfl, rfl⟩
  go_wp2_with fail
  refine (raw_any _ _).mono ?_
  rintro e w0 ⟨rfl, rfl⟩
  go_wp2_with fail
  refine (ltwo_any _ _ _ _ ha hb).mono ?_
  rintro e w1 ⟨rfl, hc1⟩
  go_wp2_with fail
  refine (ltwo_any _ _ _ _ hb ha).mono ?_
  rintro e w2 ⟨rfl, hc2⟩
  go_wp2_with fail
  refine (exact_yes T1.out _).mono ?_
  rintro e w0 ⟨rfl, rfl⟩
  go_wp2_with fail
  refine (ltwo_any _ _ _ _ ha hb).mono ?_
  rintro e w3 ⟨rfl, hc3⟩
  go_wp2_with fail
  refine (ltwo_any _ _ _ _ hb ha).mono ?_
  rintro e w4 ⟨rfl, hc4⟩
  go_wp2_with fail
  refine (exact_yes T2.out _).mono ?_
  rintro e w0 ⟨rfl, rfl⟩
  go_wp2_with fail
  refine (ltwo_any _ _ _ _ ha hb).mono ?_
  rintro e w5 ⟨rfl, hc5⟩
  go_wp2_with fail
  refine (lone_any _ _ _).mono ?_
  rintro e w6 ⟨rfl, hc6⟩
  go_wp2_with fail
  refine (ltwo_any _ _ _ _ ha B1).mono ?_
  rintro e w7 ⟨rfl, hc7⟩
  go_wp2_with fail
  refine (exact_yes T3.out _).mono ?_
  rintro e w0 ⟨rfl, rfl⟩
  go_wp2_with fail
  refine (lone_any _ _ _).mono ?_
  rintro e w8 ⟨rfl, hc8⟩
  go_wp2_with fail
  refine (lone_any _ _ _).mono ?_
  rintro e w9 ⟨rfl, hc9⟩
  go_wp2_with fail
  refine (fix_any _ _).mono ?_
  rintro e w0 ⟨rfl, rfl⟩
  go_wp2_with fail
  refine (exact_yes T4.out _).mono ?_
  rintro e w0 ⟨rfl, rfl⟩
  go_wp2_with fail
  refine (lone_any _ _ _).mono ?_
  rintro e w10 ⟨rfl, hc10⟩
  go_wp2_with fail
  refine (lone_any _ _ _).mono ?_
  rintro e w11 ⟨rfl, hc11⟩
  go_wp2_with fail
  refine (lone_any _ _ _).mono ?_
  rintro e w12 ⟨rfl, hc12⟩
  go_wp2_with fail
  refine (exact_yes T5.out _).mono ?_
  rintro e w0 ⟨rfl, rfl⟩
  go_wp2_with fail
  refine (ltwo_any _ _ _ _ ha hb).mono ?_
  rintro e w13 ⟨rfl, hc13⟩
  rw [HLO.out]
  go_wp2_with fail
  refine (ltwo_any _ _ _ _ ha hb).mono ?_
  rintro e w14 ⟨rfl, hc14⟩
  rw [HHI.out]
  go_wp2_with fail
  refine (same_any _ _ _).mono ?_
  rintro e w0 ⟨rfl, rfl⟩
  go_wp2_with fail
  refine (same_any _ _ _).mono ?_
  rintro e w0 ⟨rfl, rfl⟩
  go_wp2_with fail
  refine (same_any _ _ _).mono ?_
  rintro e w0 ⟨rfl, rfl⟩
  go_wp2_with fail
  refine (compare_any _ _ _).mono ?_
  rintro e w0 ⟨rfl, rfl⟩
  go_wp2_with fail
  refine (lone_any _ _ _).mono ?_
  rintro e w15 ⟨rfl, hc15⟩
  rw [HF.out]
  obtain ⟨r, m, R1, R2⟩ := ar_run .sub (by simp) 23 a a w15
  have hr0 := not_zero_of (R2.trans HNOT.out)
  clear R2
  have hcd := (Chg.refl w15 Nothing).drewN m
  go_wp2_with fail
  refine (ltwo_any _ _ _ _ ha hb).mono ?_
  rintro e w16 ⟨rfl, hc16⟩
  rw [H1.out]
  go_wp2_with fail
  refine (ltwo_any _ _ _ _ hb ha).mono ?_
  rintro e w17 ⟨rfl, hc17⟩
  rw [H2.out]
  go_wp2_with fail
  refine (ltwo_any _ _ _ _ ha hb).mono ?_
  rintro e w18 ⟨rfl, hc18⟩
  rw [H3.out]
  go_wp2_with fail
  refine (true_any _ _).mono ?_
  rintro e w0 ⟨rfl, rfl⟩
  go_wp2_with fail
  refine (lone_any _ _ _).mono ?_
  rintro e w19 ⟨rfl, hc19⟩
  have t6 := T6.out
  have tt : (trueB a == trueB a) = true := by simp
  generalize trueB a = TB at t6 tt ⊢
  generalize oneV 5 a = OV at t6 ⊢
  go_wp2_with fail
  refine (live_any _).mono ?_
  rintro e w20 ⟨rfl, hc20⟩
  go_wp2_with fail
  go_ret
  exact ⟨by simp, hc1.then (hc2.then (hc3.then (hc4.then (hc5.then (hc6.then (hc7.then (hc8.then (hc9.then (hc10.then (hc11.then (hc12.then (hc13.then (hc14.then (hc15.then (hcd.then (hc16.then (hc17.then (hc18.then (hc19.then (hc20))))))))))))))))))))⟩

set_option maxRecDepth 100000 in
set_option maxHeartbeats 2000000 in
theorem laws_q1 (a b lo hi t1 t2 t3 u v f g : Nat) (w : World) (ha : a < 18446744073709551616) (hb : b < 18446744073709551616) (hlo : twoV 6 a b = lo) (hhi : twoV 7 a b = hi) (h1 : twoV 8 a b = t1) (h2 : twoV 8 b a = t2) (h3 : twoV 10 a b = t3) (hu : floatBits .add .f64 t1 t2 = some u) (hv : floatBits .add .f64 u t3 = some v) (hf : oneV 3 a = f) (na : eqF a a = true) (nb : eqF b b = true) (s1 : ((fixB lo : Int) == (fixB a : Int)) = false) (s3 : ((fixB lo : Int) == (fixB b : Int)) = true) (s4 : ((fixB hi : Int) == (fixB a : Int)) = true) (hle : cmpC lo hi ≤ 0) (v1 : eqF v 4607182418800017408 = true) (hsub : floatBits .sub .f64 a a = some 0) (hadd : floatBits .add .f64 f 4607182418800017408 = some g) (hle2 : (ltF f a || eqF f a) = true) (hor : ltF a g = true ∨ (ltF a g = false ∧ eqF f a = true)) : Calls Try.prog 5 #[.int .u64 a, .int .u64 b] w fun e w' => e = .returned (.bool true) ∧ Chg w w' Nothing := by
  have HLO := Lib.hid hlo
  clear hlo
  have HHI := Lib.hid hhi
  clear hhi
  have H1 := Lib.hid h1
  clear h1
  have H2 := Lib.hid h2
  clear h2
  have H3 := Lib.hid h3
  clear h3
  have HF := Lib.hid hf
  clear hf
  have T1 := Lib.hid (add_turn a b)
  have T2 := Lib.hid (mul_turn a b)
  have T3 := Lib.hid (sub_less a hb)
  have T4 := Lib.hid (neg_neg ha)
  have T5 := Lib.hid (abs_neg ha)
  have T6 := Lib.hid (not_is a)
  have B1 := neg_lt hb
  have su : ∀ w, (binOp .add 23 (fl t1) (fl t2)).run Try.prog w = .ok (fl u) w := fun w => run_float_arith w .add _ .f64 _ _ _ hu
  have sv : ∀ w, (binOp .add 23 (fl u) (fl t3)).run Try.prog w = .ok (fl v) w := fun w => run_float_arith w .add _ .f64 _ _ _ hv
  clear hu hv
  have ssub : ∀ w, (binOp .sub 23 (fl a) (fl a)).run Try.prog w = .ok (fl 0) w := fun w => run_float_arith w .sub _ .f64 _ _ _ hsub
  have sadd : ∀ w, (binOp .add 23 (fl f) (fl 4607182418800017408)).run Try.prog w = .ok (fl g) w := fun w => run_float_arith w .add _ .f64 _ _ _ hadd
  have z0 : eqF 0 0 = true := by decide
  clear hsub hadd
  have HOR := Lib.hid hor
  clear hor
  go_enter Try.func5, Try.ntmps5
  go_wp2_with fail
  refine (raw_any _ _).mono ?_
  rintro e w0 ⟨rfl, rfl⟩
  go_wp2_with fail
  refine (raw_any _ _).mono ?_
  rintro e w0 ⟨rfl, rfl⟩
  go_wp2_with fail
  refine (ltwo_any _ _ _ _ ha hb).mono ?_
  rintro e w1 ⟨rfl, hc1⟩
  go_wp2_with fail
  refine (ltwo_any _ _ _ _ hb ha).mono ?_
  rintro e w2 ⟨rfl, hc2⟩
  go_wp2_with fail
  refine (exact_yes T1.out _).mono ?_
  rintro e w0 ⟨rfl, rfl⟩
  go_wp2_with fail
  refine (ltwo_any _ _ _ _ ha hb).mono ?_
  rintro e w3 ⟨rfl, hc3⟩
  go_wp2_with fail
  refine (ltwo_any _ _ _ _ hb ha).mono ?_
  rintro e w4 ⟨rfl, hc4⟩
  go_wp2_with fail
  refine (exact_yes T2.out _).mono ?_
  rintro e w0 ⟨rfl, rfl⟩
  go_wp2_with fail
  refine (ltwo_any _ _ _ _ ha hb).mono ?_
  rintro e w5 ⟨rfl, hc5⟩
  go_wp2_with fail
  refine (lone_any _ _ _).mono ?_
  rintro e w6 ⟨rfl, hc6⟩
  go_wp2_with fail
  refine (ltwo_any _ _ _ _ ha B1).mono ?_
  rintro e w7 ⟨rfl, hc7⟩
  go_wp2_with fail
  refine (exact_yes T3.out _).mono ?_
  rintro e w0 ⟨rfl, rfl⟩
  go_wp2_with fail
  refine (lone_any _ _ _).mono ?_
  rintro e w8 ⟨rfl, hc8⟩
  go_wp2_with fail
  refine (lone_any _ _ _).mono ?_
  rintro e w9 ⟨rfl, hc9⟩
  go_wp2_with fail
  refine (fix_any _ _).mono ?_
  rintro e w0 ⟨rfl, rfl⟩
  go_wp2_with fail
  refine (exact_yes T4.out _).mono ?_
  rintro e w0 ⟨rfl, rfl⟩
  go_wp2_with fail
  refine (lone_any _ _ _).mono ?_
  rintro e w10 ⟨rfl, hc10⟩
  go_wp2_with fail
  refine (lone_any _ _ _).mono ?_
  rintro e w11 ⟨rfl, hc11⟩
  go_wp2_with fail
  refine (lone_any _ _ _).mono ?_
  rintro e w12 ⟨rfl, hc12⟩
  go_wp2_with fail
  refine (exact_yes T5.out _).mono ?_
  rintro e w0 ⟨rfl, rfl⟩
  go_wp2_with fail
  refine (ltwo_any _ _ _ _ ha hb).mono ?_
  rintro e w13 ⟨rfl, hc13⟩
  rw [HLO.out]
  go_wp2_with fail
  refine (ltwo_any _ _ _ _ ha hb).mono ?_
  rintro e w14 ⟨rfl, hc14⟩
  rw [HHI.out]
  go_wp2_with fail
  refine (same_any _ _ _).mono ?_
  rintro e w0 ⟨rfl, rfl⟩
  go_wp2_with fail
  refine (same_any _ _ _).mono ?_
  rintro e w0 ⟨rfl, rfl⟩
  go_wp2_with fail
  refine (same_any _ _ _).mono ?_
  rintro e w0 ⟨rfl, rfl⟩
  go_wp2_with fail
  refine (compare_any _ _ _).mono ?_
  rintro e w0 ⟨rfl, rfl⟩
  go_wp2_with fail
  refine (lone_any _ _ _).mono ?_
  rintro e w15 ⟨rfl, hc15⟩
  rw [HF.out]
  rcases HOR.out with hg | ⟨hg, hfa⟩
  · go_wp2_with fail
    refine (ltwo_any _ _ _ _ ha hb).mono ?_
    rintro e w16 ⟨rfl, hc16⟩
    rw [H1.out]
    go_wp2_with fail
    refine (ltwo_any _ _ _ _ hb ha).mono ?_
    rintro e w17 ⟨rfl, hc17⟩
    rw [H2.out]
    go_wp2_with fail
    refine (ltwo_any _ _ _ _ ha hb).mono ?_
    rintro e w18 ⟨rfl, hc18⟩
    rw [H3.out]
    go_wp2_with fail
    refine (true_any _ _).mono ?_
    rintro e w0 ⟨rfl, rfl⟩
    go_wp2_with fail
    refine (lone_any _ _ _).mono ?_
    rintro e w19 ⟨rfl, hc19⟩
    have t6 := T6.out
    have tt : (trueB a == trueB a) = true := by simp
    generalize trueB a = TB at t6 tt ⊢
    generalize oneV 5 a = OV at t6 ⊢
    go_wp2_with fail
    refine (live_any _).mono ?_
    rintro e w20 ⟨rfl, hc20⟩
    go_wp2_with fail
    go_ret
    exact ⟨by simp, hc1.then (hc2.then (hc3.then (hc4.then (hc5.then (hc6.then (hc7.then (hc8.then (hc9.then (hc10.then (hc11.then (hc12.then (hc13.then (hc14.then (hc15.then (hc16.then (hc17.then (hc18.then (hc19.then (hc20)))))))))))))))))))⟩
  · go_wp2_with fail
    refine (ltwo_any _ _ _ _ ha hb).mono ?_
    rintro e w16 ⟨rfl, hc16⟩
    rw [H1.out]
    go_wp2_with fail
    refine (ltwo_any _ _ _ _ hb ha).mono ?_
    rintro e w17 ⟨rfl, hc17⟩
    rw [H2.out]
    go_wp2_with fail
    refine (ltwo_any _ _ _ _ ha hb).mono ?_
    rintro e w18 ⟨rfl, hc18⟩
    rw [H3.out]
    go_wp2_with fail
    refine (true_any _ _).mono ?_
    rintro e w0 ⟨rfl, rfl⟩
    go_wp2_with fail
    refine (lone_any _ _ _).mono ?_
    rintro e w19 ⟨rfl, hc19⟩
    have t6 := T6.out
    have tt : (trueB a == trueB a) = true := by simp
    generalize trueB a = TB at t6 tt ⊢
    generalize oneV 5 a = OV at t6 ⊢
    go_wp2_with fail
    refine (live_any _).mono ?_
    rintro e w20 ⟨rfl, hc20⟩
    go_wp2_with fail
    go_ret
    exact ⟨by simp, hc1.then (hc2.then (hc3.then (hc4.then (hc5.then (hc6.then (hc7.then (hc8.then (hc9.then (hc10.then (hc11.then (hc12.then (hc13.then (hc14.then (hc15.then (hc16.then (hc17.then (hc18.then (hc19.then (hc20)))))))))))))))))))⟩


theorem laws_walk (a b : Nat) (w : World) (ha : a < 18446744073709551616) (hb : b < 18446744073709551616) : Calls Try.prog 5 #[.int .u64 a, .int .u64 b] w fun e w' => e = .returned (.bool true) ∧ Chg w w' Nothing := by
  obtain ⟨t1, t2, t3, u, v, h1, h2, h3, hu, hv, hk⟩ := three_is a b
  cases na : isNaN a with
  | true =>
    have hnf : ¬ rungB a < 9218868437227405312 := fun h => by rw [num_of_rung h] at na; cases na
    rcases hk with ⟨_, h, _⟩ | ⟨v1, v0, _⟩
    · rw [na] at h; cases h
    · exact laws_a a b _ _ t1 t2 t3 u v _ 0 w ha hb rfl rfl h1 h2 h3 hu hv rfl (eqF_of_nan na) v1 v0 (sub_self_not hnf)
  | false =>
    cases nb : isNaN b with
    | true =>
      rcases hk with ⟨_, _, h⟩ | ⟨v1, v0, _⟩
      · rw [nb] at h; cases h
      · by_cases hf : rungB a < 9218868437227405312
        · obtain ⟨f, g, f1, f2, f3, f4⟩ := floor_law ha hf
          exact laws_b1 a b _ _ t1 t2 t3 u v f g w ha hb rfl rfl h1 h2 h3 hu hv f1 (eqF_of_num na) (eqF_of_nan nb) v1 v0 (sub_self ha hf) f2 f3 f4
        · exact laws_b0 a b _ _ t1 t2 t3 u v _ 0 w ha hb rfl rfl h1 h2 h3 hu hv rfl (eqF_of_num na) (eqF_of_nan nb) v1 v0 (sub_self_not hf)
    | false =>
      have v1 : eqF v 4607182418800017408 = true := by
        rcases hk with ⟨h, _⟩ | ⟨_, _, h | h⟩
        · exact h
        · rw [na] at h; cases h
        · rw [nb] at h; cases h
      obtain ⟨lo, hi, e1, e2, e3, e4⟩ := ends_is ha hb na nb
      by_cases hf : rungB a < 9218868437227405312
      · obtain ⟨f, g, f1, f2, f3, f4⟩ := floor_law ha hf
        rcases e4 with ⟨s1, s2⟩ | ⟨s1, s3, s4⟩
        · exact laws_p1 a b lo hi t1 t2 t3 u v f g w ha hb e1 e2 h1 h2 h3 hu hv f1 (eqF_of_num na) (eqF_of_num nb) s1 s2 e3 v1 (sub_self ha hf) f2 f3 f4
        · exact laws_q1 a b lo hi t1 t2 t3 u v f g w ha hb e1 e2 h1 h2 h3 hu hv f1 (eqF_of_num na) (eqF_of_num nb) s1 s3 s4 e3 v1 (sub_self ha hf) f2 f3 f4
      · rcases e4 with ⟨s1, s2⟩ | ⟨s1, s3, s4⟩
        · exact laws_p0 a b lo hi t1 t2 t3 u v _ 0 w ha hb e1 e2 h1 h2 h3 hu hv rfl (eqF_of_num na) (eqF_of_num nb) s1 s2 e3 v1 (sub_self_not hf)
        · exact laws_q0 a b lo hi t1 t2 t3 u v _ 0 w ha hb e1 e2 h1 h2 h3 hu hv rfl (eqF_of_num na) (eqF_of_num nb) s1 s3 s4 e3 v1 (sub_self_not hf)

end Go.Proofs.Ytenebkiiemlecaa
