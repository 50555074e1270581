/- Index: the walks. -/
import Derived.Test.YtenebkiiemlecaaL1A
namespace Go.Proofs.Ytenebkiiemlecaa
open Go Go.RowKit
set_option linter.unusedVariables false
set_option linter.unusedSimpArgs false

/-- Is it a whole number from 0 on, below 2^63? -/
def idxB (x : Nat) : Bool := geW x 0 && (ltF x 4890909195324358656 && eqF (wholeV .zero x) x)
def idxI (x : Nat) (n : Int) : Int := if idxB x && decide ((wholeN x : Int) < n) then (wholeN x : Int) else 0
def idxE (x : Nat) (n : Int) : Int := if idxB x && decide ((wholeN x : Int) < n) then 0 else 10
theorem geW_num {x lo : Nat} (h : geW x lo = true) : isNaN x = false := by
  unfold geW at h
  simp only [Bool.or_eq_true] at h
  rcases h with h1 | h1
  · unfold ltF at h1; simp only [Bool.and_eq_true, Bool.not_eq_true'] at h1; exact h1.1.2
  · unfold eqF at h1; simp only [Bool.and_eq_true, Bool.not_eq_true'] at h1; exact h1.1.1
theorem geW_sk {x lo : Nat} (hlo : isNaN lo = false) (h : geW x lo = true) : sk lo ≤ sk x := by
  have hn := geW_num h
  unfold geW at h
  simp only [Bool.or_eq_true] at h
  rcases h with h1 | h1
  · have := (ltF_iff hlo hn).1 h1; omega
  · have := (eqF_iff hn hlo).1 h1; omega
theorem idx_down {x : Nat} : idxB x = (geW x 0 && (ltF x 4890909195324358656 && eqF x (wholeV .down x))) := by
  unfold idxB
  cases h1 : geW x 0 with
  | false => rfl
  | true =>
    have hn := geW_num h1
    have h0 := geW_sk (lo := 0) (by decide) h1
    rw [whole_way hn (by have : sk 0 = 0 := by decide
                         omega)]
    have hc : eqF x (wholeV .down x) = eqF (wholeV .down x) x := by
      unfold eqF
      rw [Bool.and_comm (!isNaN x)]
      congr 1
      exact decide_eq_decide.2 ⟨fun h => h.symm, fun h => h.symm⟩
    rw [hc]
/-- A number from 0 on and below 2^63, as an int. -/
theorem to_int {x : Nat} (h1 : geW x 0 = true) (h2 : ltF x 4890909195324358656 = true) : floatToIntVal .f64 x .i64 = some (wholeN x : Int) ∧ wholeN x < 9223372036854775808 := by
  have hn := geW_num h1
  have k1 := geW_sk (lo := 0) (by decide) h1
  have k2 : sk x < sk 4890909195324358656 := (ltF_iff hn (by decide)).1 h2
  have hk : sk 4890909195324358656 = 4890909195324358656 := by decide
  have hk0 : sk 0 = 0 := by decide
  rw [hk] at k2
  rw [hk0] at k1
  have hr : rungB x < 4890909195324358656 := by
    have e : sk x = if negB x then -(rungB x : Int) else (rungB x : Int) := rfl
    cases hneg : negB x with
    | true => rw [hneg, if_pos rfl] at e; omega
    | false => rw [hneg, if_neg (by decide)] at e; omega
  have hw := wholeN_lt hr _ units_63
  refine ⟨?_, hw⟩
  unfold floatToIntVal
  have ht := toInt_zero (b := x) (by omega)
  have hd : FloatKind.f64.decode x = f64.read x := rfl
  rw [hd, ht]
  have hv : (if negB x = true then -(wholeN x : Int) else (wholeN x : Int)) = wholeN x := by
    cases hneg : negB x with
    | true =>
      have : rungB x = 0 := by
        have e : sk x = if negB x then -(rungB x : Int) else (rungB x : Int) := rfl
        rw [hneg, if_pos rfl] at e; omega
      have hz : wholeN x = 0 := by unfold wholeN; rw [this, units_zero, Nat.zero_div]
      rw [hz]; rfl
    | false => rfl
  rw [hv]
  have m1 : IntKind.i64.min = -9223372036854775808 := by decide
  have m2 : IntKind.i64.max = 9223372036854775807 := by decide
  simp only [m1, m2]
  rw [if_pos (by omega)]


theorem index_any (x : Nat) (n : Int) (w : World) : Calls Try.prog 32 #[fl x, .int .i64 n] w fun e w' => e = .returned (.tuple #[.int .i64 (idxI x n), .int .i64 (idxE x n)]) ∧ ∃ m, w' = w.drewN m := by
  have HI : idxI x n = if idxB x && decide ((wholeN x : Int) < n) then (wholeN x : Int) else 0 := rfl
  have HE : idxE x n = if idxB x && decide ((wholeN x : Int) < n) then 0 else 10 := rfl
  have gx : geW x 0 = (ltF 0 x || eqF x 0) := rfl
  have ex : idxB x = (geW x 0 && (ltF x 4890909195324358656 && eqF (wholeV .zero x) x)) := rfl
  cases h1 : geW x 0 with
  | false =>
    rw [ex, h1] at HI HE
    have V := Lib.hid (show idxI x n = 0 from HI)
    have U := Lib.hid (show idxE x n = 10 from HE)
    rw [h1] at gx
    replace gx := gx.symm
    clear HI HE ex h1
    go_enter Try.func32, Try.ntmps32
    go_wp2_with fail
    go_wp2_with fail
    go_ret2
    exact ⟨by rw [V.out, U.out]; rfl, 0, rfl⟩
  | true =>
    cases h2 : ltF x 4890909195324358656 with
    | false =>
      rw [ex, h1, h2] at HI HE
      have V := Lib.hid (show idxI x n = 0 from HI)
      have U := Lib.hid (show idxE x n = 10 from HE)
      rw [h1] at gx
      replace gx := gx.symm
      clear HI HE ex h1
      go_enter Try.func32, Try.ntmps32
      go_wp2_with fail
      go_wp2_with fail
      go_ret2
      exact ⟨by rw [V.out, U.out]; rfl, 0, rfl⟩
    | true =>
      cases h3 : eqF (wholeV .zero x) x with
      | false =>
        rw [ex, h1, h2, h3] at HI HE
        have V := Lib.hid (show idxI x n = 0 from HI)
        have U := Lib.hid (show idxE x n = 10 from HE)
        have H3 := Lib.hid h3
        rw [h1] at gx
        replace gx := gx.symm
        clear HI HE ex h1 h3
        go_enter Try.func32, Try.ntmps32
        go_wp2_with fail
        refine (trunc_any _ _).mono ?_
        rintro e w' ⟨r, rfl, hr, m, rfl⟩
        have t1 := ((eqF_whole hr).2).trans H3.out
        clear hr
        go_wp2_with fail
        go_ret2
        exact ⟨by rw [V.out, U.out]; rfl, _, rfl⟩
      | true =>
        obtain ⟨t2, t3⟩ := to_int h1 h2
        have cx : ∀ w, (convert 23 3 (.float .f64 x)).run Try.prog w = .ok (.int .i64 (wholeN x : Nat)) w := fun w => run_convert_float_int w _ _ _ _ _ _ (by rw [Try.underlying23]; rfl) Try.underlying3 t2
        rw [ex, h1, h2, h3] at HI HE
        have H3 := Lib.hid h3
        rw [h1] at gx
        replace gx := gx.symm
        clear ex h1 h3 t2
        generalize wholeN x = X at t3 cx HI HE
        by_cases h4 : (X : Int) < n
        · rw [decide_eq_true h4] at HI HE
          have V := Lib.hid (show idxI x n = X from HI)
          have U := Lib.hid (show idxE x n = 0 from HE)
          have b4 : decide (n ≤ (X : Int)) = false := decide_eq_false (by omega)
          clear HI HE h4
          go_enter Try.func32, Try.ntmps32
          go_wp2_with fail
          refine (trunc_any _ _).mono ?_
          rintro e w' ⟨r, rfl, hr, m, rfl⟩
          have t1 := ((eqF_whole hr).2).trans H3.out
          clear hr
          go_wp2_with fail
          go_ret2
          exact ⟨by rw [V.out, U.out]; rfl, _, rfl⟩
        · rw [decide_eq_false h4] at HI HE
          have V := Lib.hid (show idxI x n = 0 from HI)
          have U := Lib.hid (show idxE x n = 10 from HE)
          have b4 : decide (n ≤ (X : Int)) = true := decide_eq_true (by omega)
          clear HI HE h4
          go_enter Try.func32, Try.ntmps32
          go_wp2_with fail
          refine (trunc_any _ _).mono ?_
          rintro e w' ⟨r, rfl, hr, m, rfl⟩
          have t1 := ((eqF_whole hr).2).trans H3.out
          clear hr
          go_wp2_with fail
          go_ret2
          exact ⟨by rw [V.out, U.out]; rfl, _, rfl⟩


theorem rindex_any (x : Nat) (n : Int) (w : World) : Calls Try.prog 33 #[fl x, .int .i64 n] w fun e w' => e = .returned (.tuple #[.int .i64 (idxI x n), .int .i64 (idxE x n)]) ∧ ∃ m, w' = w.drewN m := by
  have HI : idxI x n = if idxB x && decide ((wholeN x : Int) < n) then (wholeN x : Int) else 0 := rfl
  have HE : idxE x n = if idxB x && decide ((wholeN x : Int) < n) then 0 else 10 := rfl
  have gx : geW x 0 = (ltF 0 x || eqF x 0) := rfl
  have ex : idxB x = (geW x 0 && (ltF x 4890909195324358656 && eqF x (wholeV .down x))) := idx_down
  cases h1 : geW x 0 with
  | false =>
    rw [ex, h1] at HI HE
    have V := Lib.hid (show idxI x n = 0 from HI)
    have U := Lib.hid (show idxE x n = 10 from HE)
    rw [h1] at gx
    replace gx := gx.symm
    clear HI HE ex h1
    go_enter Try.func33, Try.ntmps33
    go_wp2_with fail
    go_wp2_with fail
    go_ret2
    exact ⟨by rw [V.out, U.out]; rfl, 0, rfl⟩
  | true =>
    cases h2 : ltF x 4890909195324358656 with
    | false =>
      rw [ex, h1, h2] at HI HE
      have V := Lib.hid (show idxI x n = 0 from HI)
      have U := Lib.hid (show idxE x n = 10 from HE)
      rw [h1] at gx
      replace gx := gx.symm
      clear HI HE ex h1
      go_enter Try.func33, Try.ntmps33
      go_wp2_with fail
      go_wp2_with fail
      go_ret2
      exact ⟨by rw [V.out, U.out]; rfl, 0, rfl⟩
    | true =>
      cases h3 : eqF x (wholeV .down x) with
      | false =>
        rw [ex, h1, h2, h3] at HI HE
        have V := Lib.hid (show idxI x n = 0 from HI)
        have U := Lib.hid (show idxE x n = 10 from HE)
        have H3 := Lib.hid h3
        rw [h1] at gx
        replace gx := gx.symm
        clear HI HE ex h1 h3
        go_enter Try.func33, Try.ntmps33
        go_wp2_with fail
        refine (floor_any _ _).mono ?_
        rintro e w' ⟨r, rfl, hr, m, rfl⟩
        have t1 := ((eqF_whole hr).1).trans H3.out
        clear hr
        go_wp2_with fail
        go_ret2
        exact ⟨by rw [V.out, U.out]; rfl, _, rfl⟩
      | true =>
        obtain ⟨t2, t3⟩ := to_int h1 h2
        have cx : ∀ w, (convert 23 3 (.float .f64 x)).run Try.prog w = .ok (.int .i64 (wholeN x : Nat)) w := fun w => run_convert_float_int w _ _ _ _ _ _ (by rw [Try.underlying23]; rfl) Try.underlying3 t2
        rw [ex, h1, h2, h3] at HI HE
        have H3 := Lib.hid h3
        rw [h1] at gx
        replace gx := gx.symm
        clear ex h1 h3 t2
        generalize wholeN x = X at t3 cx HI HE
        by_cases h4 : (X : Int) < n
        · rw [decide_eq_true h4] at HI HE
          have V := Lib.hid (show idxI x n = X from HI)
          have U := Lib.hid (show idxE x n = 0 from HE)
          have b4 : decide (n ≤ (X : Int)) = false := decide_eq_false (by omega)
          clear HI HE h4
          go_enter Try.func33, Try.ntmps33
          go_wp2_with fail
          refine (floor_any _ _).mono ?_
          rintro e w' ⟨r, rfl, hr, m, rfl⟩
          have t1 := ((eqF_whole hr).1).trans H3.out
          clear hr
          go_wp2_with fail
          go_ret2
          exact ⟨by rw [V.out, U.out]; rfl, _, rfl⟩
        · rw [decide_eq_false h4] at HI HE
          have V := Lib.hid (show idxI x n = 0 from HI)
          have U := Lib.hid (show idxE x n = 10 from HE)
          have b4 : decide (n ≤ (X : Int)) = true := decide_eq_true (by omega)
          clear HI HE h4
          go_enter Try.func33, Try.ntmps33
          go_wp2_with fail
          refine (floor_any _ _).mono ?_
          rintro e w' ⟨r, rfl, hr, m, rfl⟩
          have t1 := ((eqF_whole hr).1).trans H3.out
          clear hr
          go_wp2_with fail
          go_ret2
          exact ⟨by rw [V.out, U.out]; rfl, _, rfl⟩


theorem indexes_walk (a : Nat) (n : Int) (w : World) (ha : a < 18446744073709551616) : Calls Try.prog 8 #[.int .u64 a, .int .i64 n] w fun e w' => e = .returned (.bool true) ∧ Chg w w' Nothing := by
  go_enter Try.func8, Try.ntmps8
  go_wp2_with fail
  refine (raw_any _ _).mono ?_
  rintro e w0 ⟨rfl, rfl⟩
  go_wp2_with fail
  refine (index_any _ _ _).mono ?_
  rintro e w1 ⟨rfl, m1, rfl⟩
  go_wp2_with fail
  refine (rindex_any _ _ _).mono ?_
  rintro e w2 ⟨rfl, m2, rfl⟩
  generalize idxI a n = I
  generalize idxE a n = E
  have hc := (Chg.of_drewN w m1).then (Chg.of_drewN (w.drewN m1) m2)
  generalize (w.drewN m1).drewN m2 = w2 at hc ⊢
  go_wp2_with fail
  refine (live_any _).mono ?_
  rintro e w3 ⟨rfl, hc3⟩
  have h1 : (I == I) = true := by simp
  have h2 : (E == E) = true := by simp
  go_wp2_with fail
  refine (true_any _ _).mono ?_
  rintro e w4 ⟨rfl, rfl⟩
  go_wp2_with fail
  refine (rtrue_any _ _).mono ?_
  rintro e w4 ⟨rfl, rfl⟩
  go_wp2_with fail
  go_ret
  exact ⟨by simp, hc.then hc3⟩

end Go.Proofs.Ytenebkiiemlecaa
