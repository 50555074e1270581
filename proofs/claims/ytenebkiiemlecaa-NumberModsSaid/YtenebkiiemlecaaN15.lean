/- mod: the code's walk. -/
import Derived.Test.YtenebkiiemlecaaN14
namespace Go.Proofs.Ytenebkiiemlecaa
open Go Go.RowKit
set_option linter.unusedVariables false
set_option linter.unusedSimpArgs false

/-- Towards zero or down: alike from 0 on. -/
theorem whole_way {x : Nat} (hn : isNaN x = false) (h0 : 0 ≤ sk x) : wholeV .zero x = wholeV .down x := by
  unfold wholeV
  rw [hn]
  simp only [Bool.false_eq_true, if_false]
  have hr : rungB x ≤ 9218868437227405312 := by simpa [isNaN] using hn
  rcases Nat.lt_or_eq_of_le hr with h | h
  · cases hneg : negB x with
    | false => rw [integral_zero h, integral_down h hneg, hneg]
    | true =>
      have e : sk x = if negB x then -(rungB x : Int) else (rungB x : Int) := rfl
      rw [hneg, if_pos rfl] at e
      have hz : rungB x = 0 := by omega
      obtain ⟨m, p, e1, e2⟩ := read_fin h
      rw [hz, units_zero] at e2
      have hm : m = 0 := by
        rcases Nat.mul_eq_zero.1 e2 with h | h
        · exact h
        · exact absurd h (Nat.ne_of_gt (Nat.two_pow_pos _))
      subst hm
      rw [e1]
      congr 2
      show Ieee.Datum.number _ _ 0 = Ieee.Datum.number _ _ 0
      congr 1
      unfold Ieee.Toward.cut
      simp
  · rw [read_inf h]
    rfl

def geW (x lo : Nat) : Bool := ltF lo x || eqF x lo
theorem wholeB_eq {x lo : Nat} (hlo : isNaN lo = false) (h0 : 0 ≤ sk lo) : wholeB x lo = (geW x lo && (ltF x 4845873199050653696 && eqF (wholeV .zero x) x)) := by
  unfold wholeB geW
  cases h1 : (ltF lo x || eqF x lo) with
  | false => rfl
  | true =>
    have hn : isNaN x = false := by
      simp only [Bool.or_eq_true] at h1
      rcases h1 with h1 | h1
      · unfold ltF at h1; simp only [Bool.and_eq_true, Bool.not_eq_true'] at h1; exact h1.1.2
      · unfold eqF at h1; simp only [Bool.and_eq_true, Bool.not_eq_true'] at h1; exact h1.1.1
    have k1 : sk lo ≤ sk x := by
      simp only [Bool.or_eq_true] at h1
      rcases h1 with h1 | h1
      · have := (ltF_iff hlo hn).1 h1; omega
      · have := (eqF_iff hn hlo).1 h1; omega
    rw [whole_way hn (by omega)]
    have hc : eqF x (wholeV .down x) = eqF (wholeV .down x) x := by
      unfold eqF
      rw [Bool.and_comm (!isNaN x)]
      congr 1
      exact decide_eq_decide.2 ⟨fun h => h.symm, fun h => h.symm⟩
    rw [hc, Bool.and_assoc]

def modC (x y : Nat) : Nat := if wholeB x 0 then if wholeB y oneW then floatOfInt .f64 ((wholeN x : Int) % (wholeN y : Int)) else 9221120237041090561 else 9221120237041090561
theorem modC_fix (x y : Nat) : fixB (modC x y) = fixB (modV x y) := by
  unfold modC modV
  have : fixB 9221120237041090561 = fixB qn := by decide
  cases wholeB x 0 with
  | false => simp only [Bool.false_eq_true, if_false]; exact this
  | true =>
    cases wholeB y oneW with
    | false => simp only [if_true, Bool.false_eq_true, if_false]; exact this
    | true => rfl

theorem mod_any (x y : Nat) (w : World) : Calls Try.prog 64 #[fl x, fl y] w fun e w' => e = .returned (fl (modC x y)) ∧ ∃ m, w' = w.drewN m := by
  have HC : modC x y = if wholeB x 0 then if wholeB y oneW then floatOfInt .f64 ((wholeN x : Int) % (wholeN y : Int)) else 9221120237041090561 else 9221120237041090561 := rfl
  have ex := wholeB_eq (x := x) (lo := 0) (by decide) (by decide)
  have ey := wholeB_eq (x := y) (lo := oneW) one_facts.1 (by rw [one_facts.2]; decide)
  have gx : geW x 0 = (ltF 0 x || eqF x 0) := rfl
  have gy : geW y oneW = (ltF 4607182418800017408 y || eqF y 4607182418800017408) := rfl
  cases h1 : geW x 0 with
  | false =>
    have V := Lib.hid (show modC x y = 9221120237041090561 from by rw [HC, ex, h1]; rfl)
    rw [h1] at gx
    replace gx := gx.symm
    clear HC ex ey gy
    go_enter Try.func64, Try.ntmps64
    go_wp2_with fail
    refine (nanf_any _).mono ?_
    rintro e w' ⟨rfl, rfl⟩
    go_wp2_with fail
    go_ret
    exact ⟨by rw [V.out]; rfl, 0, rfl⟩
  | true =>
    cases h2 : ltF x 4845873199050653696 with
    | false =>
      have V := Lib.hid (show modC x y = 9221120237041090561 from by rw [HC, ex, h1, h2]; rfl)
      rw [h1] at gx
      replace gx := gx.symm
      clear HC ex ey gy
      go_enter Try.func64, Try.ntmps64
      go_wp2_with fail
      refine (nanf_any _).mono ?_
      rintro e w' ⟨rfl, rfl⟩
      go_wp2_with fail
      go_ret
      exact ⟨by rw [V.out]; rfl, 0, rfl⟩
    | true =>
      cases h3 : geW y oneW with
      | false =>
        have V := Lib.hid (show modC x y = 9221120237041090561 from by rw [HC, ey, h3]; cases wholeB x 0 <;> rfl)
        rw [h1] at gx
        rw [h3] at gy
        replace gx := gx.symm
        replace gy := gy.symm
        clear HC ex ey
        go_enter Try.func64, Try.ntmps64
        go_wp2_with fail
        refine (nanf_any _).mono ?_
        rintro e w' ⟨rfl, rfl⟩
        go_wp2_with fail
        go_ret
        exact ⟨by rw [V.out]; rfl, 0, rfl⟩
      | true =>
        cases h4 : ltF y 4845873199050653696 with
        | false =>
          have V := Lib.hid (show modC x y = 9221120237041090561 from by rw [HC, ey, h3, h4]; cases wholeB x 0 <;> rfl)
          rw [h1] at gx
          rw [h3] at gy
          replace gx := gx.symm
          replace gy := gy.symm
          clear HC ex ey
          go_enter Try.func64, Try.ntmps64
          go_wp2_with fail
          refine (nanf_any _).mono ?_
          rintro e w' ⟨rfl, rfl⟩
          go_wp2_with fail
          go_ret
          exact ⟨by rw [V.out]; rfl, 0, rfl⟩
        | true =>
          cases h5 : eqF (wholeV .zero x) x with
          | false =>
            have V := Lib.hid (show modC x y = 9221120237041090561 from by rw [HC, ex, h1, h2, h5]; rfl)
            have H5 := Lib.hid h5
            rw [h1] at gx
            rw [h3] at gy
            replace gx := gx.symm
            replace gy := gy.symm
            clear HC ex ey h5
            go_enter Try.func64, Try.ntmps64
            go_wp2_with fail
            refine (trunc_any _ _).mono ?_
            rintro e w' ⟨r, rfl, hr, m, rfl⟩
            have t1 := ((eqF_whole hr).2).trans H5.out
            clear hr
            go_wp2_with fail
            refine (nanf_any _).mono ?_
            rintro e w' ⟨rfl, rfl⟩
            go_wp2_with fail
            go_ret
            exact ⟨by rw [V.out]; rfl, _, rfl⟩
          | true =>
            cases h6 : eqF (wholeV .zero y) y with
            | false =>
              have V := Lib.hid (show modC x y = 9221120237041090561 from by rw [HC, ey, h3, h4, h6]; cases wholeB x 0 <;> rfl)
              have H5 := Lib.hid h5
              have H6 := Lib.hid h6
              rw [h1] at gx
              rw [h3] at gy
              replace gx := gx.symm
              replace gy := gy.symm
              clear HC ex ey h5 h6
              go_enter Try.func64, Try.ntmps64
              go_wp2_with fail
              refine (trunc_any _ _).mono ?_
              rintro e w' ⟨r, rfl, hr, m, rfl⟩
              have t1 := ((eqF_whole hr).2).trans H5.out
              clear hr
              go_wp2_with fail
              refine (trunc_any _ _).mono ?_
              rintro e w' ⟨r2, rfl, hr, m2, rfl⟩
              have t2 := ((eqF_whole hr).2).trans H6.out
              clear hr
              go_wp2_with fail
              refine (nanf_any _).mono ?_
              rintro e w' ⟨rfl, rfl⟩
              go_wp2_with fail
              go_ret
              exact ⟨by rw [V.out]; rfl, _, rfl⟩
            | true =>
              have w1 : wholeB x 0 = true := by rw [ex, h1, h2, h5]; rfl
              have w2 : wholeB y oneW = true := by rw [ey, h3, h4, h6]; rfl
              have V := Lib.hid (show modC x y = floatOfInt .f64 ((wholeN x : Int) % (wholeN y : Int)) from by rw [HC, w1, w2]; simp only [if_true])
              obtain ⟨a1, a2, a3, a4, a5⟩ := whole_facts w1 (by decide) (by decide)
              obtain ⟨b1, b2, b3, b4, b5⟩ := whole_facts w2 one_facts.1 (by rw [one_facts.2]; decide)
              have b6 := wholeN_one w2
              have cx : ∀ w, (convert 23 3 (.float .f64 x)).run Try.prog w = .ok (.int .i64 (wholeN x : Nat)) w := fun w => run_convert_float_int w _ _ _ _ _ _ (by rw [Try.underlying23]; rfl) Try.underlying3 a4
              have cy : ∀ w, (convert 23 3 (.float .f64 y)).run Try.prog w = .ok (.int .i64 (wholeN y : Nat)) w := fun w => run_convert_float_int w _ _ _ _ _ _ (by rw [Try.underlying23]; rfl) Try.underlying3 b4
              have H5 := Lib.hid h5
              have H6 := Lib.hid h6
              rw [h1] at gx
              rw [h3] at gy
              replace gx := gx.symm
              replace gy := gy.symm
              clear a1 a2 a3 a4 b1 b2 b3 b4 HC ex ey h5 h6 w1 w2
              generalize wholeN x = X at a5 cx V
              generalize wholeN y = Y at b5 b6 cy V
              have hy : ¬ (Y : Int) = 0 := by omega
              go_enter Try.func64, Try.ntmps64
              go_wp2_with fail
              refine (trunc_any _ _).mono ?_
              rintro e w' ⟨r, rfl, hr, m, rfl⟩
              have t1 := ((eqF_whole hr).2).trans H5.out
              clear hr
              go_wp2_with fail
              refine (trunc_any _ _).mono ?_
              rintro e w' ⟨r2, rfl, hr, m2, rfl⟩
              have t2 := ((eqF_whole hr).2).trans H6.out
              clear hr
              go_wp2_with fail
              go_ret
              exact ⟨by rw [V.out]; rfl, _, rfl⟩

end Go.Proofs.Ytenebkiiemlecaa
