/- The document's Two, operation by operation (but mod). -/
import Derived.Test.YtenebkiiemlecaaN8
namespace Go.Proofs.Ytenebkiiemlecaa
open Go Go.RowKit
set_option linter.unusedVariables false
set_option linter.unusedSimpArgs false

/-- The document's first. -/
def firstW (a b : Nat) (s : Int) : Nat := if isNaN a then qn else if isNaN b then qn else if cmpR a b == s then b else a
theorem first_any (a b : Nat) (s : Int) (w : World) : Calls Try.prog 46 #[fl a, fl b, .int .i64 s] w fun e w' => e = .returned (fl (firstW a b s)) ∧ w = w' := by
  have HC := Lib.hid (show firstW a b s = if isNaN a then qn else if isNaN b then qn else if cmpR a b == s then b else a from rfl)
  have HQ := Lib.hid (show fixB (Int.toNat 9221120237041090560) = qn by decide)
  cases h1 : isNaN a with
  | true =>
    rw [h1] at HC
    have e1 := eqF_of_nan h1
    go_enter Try.func46, Try.ntmps46
    go_wp2_with fail
    refine (rof_any _ _).mono ?_
    rintro e w' ⟨rfl, rfl⟩
    rw [HQ.out]
    go_wp2_with fail
    go_ret
    exact ⟨by rw [HC.out]; rfl, rfl⟩
  | false =>
    have e1 := eqF_of_num h1
    cases h2 : isNaN b with
    | true =>
      rw [h1, h2] at HC
      have e2 := eqF_of_nan h2
      go_enter Try.func46, Try.ntmps46
      go_wp2_with fail
      refine (rof_any _ _).mono ?_
      rintro e w' ⟨rfl, rfl⟩
      rw [HQ.out]
      go_wp2_with fail
      go_ret
      exact ⟨by rw [HC.out]; rfl, rfl⟩
    | false =>
      have e2 := eqF_of_num h2
      cases h3 : (cmpR a b == s) with
      | true =>
        rw [h1, h2, h3] at HC
        go_enter Try.func46, Try.ntmps46
        go_wp2_with fail
        refine (rcompare_any _ _ _).mono ?_
        rintro e w' ⟨rfl, rfl⟩
        go_wp2_with fail
        go_ret
        exact ⟨by rw [HC.out]; rfl, rfl⟩
      | false =>
        rw [h1, h2, h3] at HC
        go_enter Try.func46, Try.ntmps46
        go_wp2_with fail
        refine (rcompare_any _ _ _).mono ?_
        rintro e w' ⟨rfl, rfl⟩
        go_wp2_with fail
        go_ret
        exact ⟨by rw [HC.out]; rfl, rfl⟩

theorem rtwo_bad (op : Int) (x y : Nat) (w : World) (h : op < 1 ∨ 12 < op) : Calls Try.prog 18 #[.int .i64 op, fl x, fl y] w fun e w' => e = .returned (.tuple #[fl 0, .int .i64 1]) ∧ w = w' := by

  have b1 : (op == 1) = false := by simp; omega
  have b2 : (op == 2) = false := by simp; omega
  have b3 : (op == 3) = false := by simp; omega
  have b4 : (op == 4) = false := by simp; omega
  have b5 : (op == 5) = false := by simp; omega
  have b6 : (op == 6) = false := by simp; omega
  have b7 : (op == 7) = false := by simp; omega
  have b8 : (op == 8) = false := by simp; omega
  have b9 : (op == 9) = false := by simp; omega
  have b10 : (op == 10) = false := by simp; omega
  have b11 : (op == 11) = false := by simp; omega
  have b12 : (op == 12) = false := by simp; omega
  clear h
  go_enter Try.func18, Try.ntmps18
  go_wp2_with fail
  go_ret2
  exact ⟨rfl, rfl⟩


theorem rtwo_1 (x y : Nat) (w : World) : Calls Try.prog 18 #[.int .i64 1, fl x, fl y] w fun e w' => e = .returned (.tuple #[fl (arV .add x y), .int .i64 0]) ∧ ∃ m, w' = w.drewN m := by
  obtain ⟨r, m, h1, h2⟩ := ar_run .add (by simp) 23 x y w
  have H2 := Lib.hid h2
  clear h2
  go_enter Try.func18, Try.ntmps18
  go_wp2_with fail
  refine (rfix_any _ _).mono ?_
  rintro e w' ⟨rfl, rfl⟩
  go_wp2_with fail
  go_ret2
  exact ⟨by rw [← H2.out]; rfl, m, rfl⟩


theorem rtwo_2 (x y : Nat) (w : World) : Calls Try.prog 18 #[.int .i64 2, fl x, fl y] w fun e w' => e = .returned (.tuple #[fl (arV .sub x y), .int .i64 0]) ∧ ∃ m, w' = w.drewN m := by
  obtain ⟨r, m, h1, h2⟩ := ar_run .sub (by simp) 23 x y w
  have H2 := Lib.hid h2
  clear h2
  go_enter Try.func18, Try.ntmps18
  go_wp2_with fail
  refine (rfix_any _ _).mono ?_
  rintro e w' ⟨rfl, rfl⟩
  go_wp2_with fail
  go_ret2
  exact ⟨by rw [← H2.out]; rfl, m, rfl⟩


theorem rtwo_3 (x y : Nat) (w : World) : Calls Try.prog 18 #[.int .i64 3, fl x, fl y] w fun e w' => e = .returned (.tuple #[fl (arV .mul x y), .int .i64 0]) ∧ ∃ m, w' = w.drewN m := by
  obtain ⟨r, m, h1, h2⟩ := ar_run .mul (by simp) 23 x y w
  have H2 := Lib.hid h2
  clear h2
  go_enter Try.func18, Try.ntmps18
  go_wp2_with fail
  refine (rfix_any _ _).mono ?_
  rintro e w' ⟨rfl, rfl⟩
  go_wp2_with fail
  go_ret2
  exact ⟨by rw [← H2.out]; rfl, m, rfl⟩


theorem rtwo_4 (x y : Nat) (w : World) : Calls Try.prog 18 #[.int .i64 4, fl x, fl y] w fun e w' => e = .returned (.tuple #[fl (arV .quo x y), .int .i64 0]) ∧ ∃ m, w' = w.drewN m := by
  obtain ⟨r, m, h1, h2⟩ := ar_run .quo (by simp) 23 x y w
  have H2 := Lib.hid h2
  clear h2
  go_enter Try.func18, Try.ntmps18
  go_wp2_with fail
  refine (rfix_any _ _).mono ?_
  rintro e w' ⟨rfl, rfl⟩
  go_wp2_with fail
  go_ret2
  exact ⟨by rw [← H2.out]; rfl, m, rfl⟩


theorem rtwo_6 (x y : Nat) (w : World) : Calls Try.prog 18 #[.int .i64 6, fl x, fl y] w fun e w' => e = .returned (.tuple #[fl (fixB (firstW x y 1)), .int .i64 0]) ∧ ∃ m, w' = w.drewN m := by
  go_enter Try.func18, Try.ntmps18
  go_wp2_with fail
  refine (first_any _ _ _ _).mono ?_
  rintro e w' ⟨rfl, rfl⟩
  go_wp2_with fail
  refine (rfix_any _ _).mono ?_
  rintro e w' ⟨rfl, rfl⟩
  go_wp2_with fail
  go_ret2
  exact ⟨rfl, 0, rfl⟩


theorem rtwo_7 (x y : Nat) (w : World) : Calls Try.prog 18 #[.int .i64 7, fl x, fl y] w fun e w' => e = .returned (.tuple #[fl (fixB (firstW x y (-1))), .int .i64 0]) ∧ ∃ m, w' = w.drewN m := by
  go_enter Try.func18, Try.ntmps18
  go_wp2_with fail
  refine (first_any _ _ _ _).mono ?_
  rintro e w' ⟨rfl, rfl⟩
  go_wp2_with fail
  refine (rfix_any _ _).mono ?_
  rintro e w' ⟨rfl, rfl⟩
  go_wp2_with fail
  go_ret2
  exact ⟨rfl, 0, rfl⟩


theorem rtwo_8 (x y : Nat) (w : World) : Calls Try.prog 18 #[.int .i64 8, fl x, fl y] w fun e w' => e = .returned (.tuple #[fl (fixB (yesW (ltF x y))), .int .i64 0]) ∧ ∃ m, w' = w.drewN m := by
  go_enter Try.func18, Try.ntmps18
  go_wp2_with fail
  refine (ryes_any _ _).mono ?_
  rintro e w' ⟨rfl, rfl⟩
  go_wp2_with fail
  refine (rfix_any _ _).mono ?_
  rintro e w' ⟨rfl, rfl⟩
  go_wp2_with fail
  go_ret2
  exact ⟨rfl, 0, rfl⟩


theorem rtwo_9 (x y : Nat) (w : World) : Calls Try.prog 18 #[.int .i64 9, fl x, fl y] w fun e w' => e = .returned (.tuple #[fl (fixB (yesW (ltF x y || eqF x y))), .int .i64 0]) ∧ ∃ m, w' = w.drewN m := by
  go_enter Try.func18, Try.ntmps18
  go_wp2_with fail
  refine (ryes_any _ _).mono ?_
  rintro e w' ⟨rfl, rfl⟩
  go_wp2_with fail
  refine (rfix_any _ _).mono ?_
  rintro e w' ⟨rfl, rfl⟩
  go_wp2_with fail
  go_ret2
  exact ⟨rfl, 0, rfl⟩


theorem rtwo_10 (x y : Nat) (w : World) : Calls Try.prog 18 #[.int .i64 10, fl x, fl y] w fun e w' => e = .returned (.tuple #[fl (fixB (yesW (eqF x y))), .int .i64 0]) ∧ ∃ m, w' = w.drewN m := by
  go_enter Try.func18, Try.ntmps18
  go_wp2_with fail
  refine (ryes_any _ _).mono ?_
  rintro e w' ⟨rfl, rfl⟩
  go_wp2_with fail
  refine (rfix_any _ _).mono ?_
  rintro e w' ⟨rfl, rfl⟩
  go_wp2_with fail
  go_ret2
  exact ⟨rfl, 0, rfl⟩


theorem rtwo_11 (x y : Nat) (w : World) : Calls Try.prog 18 #[.int .i64 11, fl x, fl y] w fun e w' => e = .returned (.tuple #[fl (fixB (yesW ((fixB x : Int) == (fixB y : Int)))), .int .i64 0]) ∧ ∃ m, w' = w.drewN m := by
  go_enter Try.func18, Try.ntmps18
  go_wp2_with fail
  refine (rsame_any _ _ _).mono ?_
  rintro e w' ⟨rfl, rfl⟩
  go_wp2_with fail
  refine (ryes_any _ _).mono ?_
  rintro e w' ⟨rfl, rfl⟩
  go_wp2_with fail
  refine (rfix_any _ _).mono ?_
  rintro e w' ⟨rfl, rfl⟩
  go_wp2_with fail
  go_ret2
  exact ⟨rfl, 0, rfl⟩


theorem rtwo_12 (x y : Nat) (w : World) : Calls Try.prog 18 #[.int .i64 12, fl x, fl y] w fun e w' => e = .returned (.tuple #[fl (fixB (yesW (decide (cmpR x y < 0)))), .int .i64 0]) ∧ ∃ m, w' = w.drewN m := by
  go_enter Try.func18, Try.ntmps18
  go_wp2_with fail
  refine (rcompare_any _ _ _).mono ?_
  rintro e w' ⟨rfl, rfl⟩
  go_wp2_with fail
  refine (ryes_any _ _).mono ?_
  rintro e w' ⟨rfl, rfl⟩
  go_wp2_with fail
  refine (rfix_any _ _).mono ?_
  rintro e w' ⟨rfl, rfl⟩
  go_wp2_with fail
  go_ret2
  exact ⟨rfl, 0, rfl⟩


end Go.Proofs.Ytenebkiiemlecaa
