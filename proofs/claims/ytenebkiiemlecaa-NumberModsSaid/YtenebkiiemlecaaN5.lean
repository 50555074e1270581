/- The document's One, operation by operation. -/
import Derived.Test.YtenebkiiemlecaaN3
namespace Go.Proofs.Ytenebkiiemlecaa
open Go Go.RowKit
set_option linter.unusedVariables false
set_option linter.unusedSimpArgs false

theorem rof_any (b : Int) (w : World) : Calls Try.prog 29 #[.int .u64 b] w fun e w' => e = .returned (fl (fixB b.toNat)) ∧ w = w' := by
  go_enter Try.func29, Try.ntmps29
  go_wp2_with fail
  refine (rfix_any _ _).mono ?_
  rintro e w' ⟨rfl, rfl⟩
  go_wp2_with fail
  go_ret
  exact ⟨rfl, rfl⟩
theorem of_any (b : Int) (w : World) : Calls Try.prog 28 #[.int .u64 b] w fun e w' => e = .returned (fl (fixB b.toNat)) ∧ w = w' := by
  go_enter Try.func28, Try.ntmps28
  go_wp2_with fail
  refine (fix_any _ _).mono ?_
  rintro e w' ⟨rfl, rfl⟩
  go_wp2_with fail
  go_ret
  exact ⟨rfl, rfl⟩
def hashR (y : Nat) : Int := wrap64 (IntKind.u64.wrap (((IntKind.u64.wrap ((bits .xor .u64 y (IntKind.u64.wrap ((y : Int) / 4294967296))).tmod 4294967296 * 2654435769)).tmod 4294967296).tdiv 65536))
theorem rhash_any (b : Nat) (w : World) : Calls Try.prog 42 #[fl b] w fun e w' => e = .returned (.int .i64 (hashR (fixB b))) ∧ w = w' := by
  go_enter Try.func42, Try.ntmps42
  go_wp2_with fail
  refine (rbits_any _ _).mono ?_
  rintro e w' ⟨rfl, rfl⟩
  go_wp2_with fail
  go_ret
  exact ⟨rfl, rfl⟩
theorem hash_range {y : Nat} (h : y < 18446744073709551616) : ∃ n : Nat, n < 65536 ∧ hashI y = n ∧ hashR y = n := by
  have e1 : ((y : Int) / 4294967296) = ((y / 4294967296 : Nat) : Int) := by omega
  have hw : IntKind.u64.wrap (((y / 4294967296 : Nat)) : Int) = ((y / 4294967296 : Nat) : Int) := by rw [IntKind.wrap_u64]; omega
  have hx : bits .xor .u64 (y : Int) (((y / 4294967296 : Nat)) : Int) = ((y ^^^ (y / 4294967296) : Nat) : Int) := bits_xor_u64_nat _ _ h (by omega)
  unfold hashI hashR
  rw [e1, hw, hx]
  generalize y ^^^ (y / 4294967296) = X
  refine ⟨X % 4294967296 * 2654435769 % 4294967296 / 65536, by omega, by omega, ?_⟩
  have t1 : ((X : Int)).tmod 4294967296 = ((X % 4294967296 : Nat) : Int) := by rw [Int.tmod_eq_emod_of_nonneg (by omega)]; omega
  rw [t1]
  have hX : X % 4294967296 < 4294967296 := Nat.mod_lt _ (by decide)
  generalize X % 4294967296 = Y at hX
  have t2 : IntKind.u64.wrap ((Y : Int) * 2654435769) = ((Y * 2654435769 : Nat) : Int) := by rw [IntKind.wrap_u64]; omega
  rw [t2]
  have t3 : (((Y * 2654435769 : Nat) : Int)).tmod 4294967296 = ((Y * 2654435769 % 4294967296 : Nat) : Int) := by rw [Int.tmod_eq_emod_of_nonneg (by omega)]; omega
  rw [t3]
  have hZ : Y * 2654435769 % 4294967296 < 4294967296 := Nat.mod_lt _ (by decide)
  generalize Y * 2654435769 % 4294967296 = Z at hZ
  have t4 : ((Z : Int)).tdiv 65536 = ((Z / 65536 : Nat) : Int) := by rw [Int.tdiv_eq_ediv_of_nonneg (by omega)]; omega
  rw [t4, IntKind.wrap_u64]
  unfold wrap64
  omega

/-- The document's sign. -/
def signR (b : Nat) : Nat := if ltF b 0 then 13830554455654793216 else if ltF 0 b then 4607182418800017408 else b
theorem rone_bad (op : Int) (x : Nat) (w : World) (h : op < 1 ∨ 8 < op) : Calls Try.prog 14 #[.int .i64 op, fl x] w fun e w' => e = .returned (.tuple #[fl 0, .int .i64 1]) ∧ w = w' := by
  have b1 : (op == 1) = false := by simp; omega
  have b2 : (op == 2) = false := by simp; omega
  have b3 : (op == 3) = false := by simp; omega
  have b4 : (op == 4) = false := by simp; omega
  have b5 : (op == 5) = false := by simp; omega
  have b6 : (op == 6) = false := by simp; omega
  have b7 : (op == 7) = false := by simp; omega
  have b8 : (op == 8) = false := by simp; omega
  clear h
  go_enter Try.func14, Try.ntmps14
  go_wp2_with fail
  go_ret2
  exact ⟨rfl, rfl⟩


theorem rone_1 (x : Nat) (w : World) : Calls Try.prog 14 #[.int .i64 1, fl x] w fun e w' => e = .returned (.tuple #[fl (fixB (fixB (bits .xor .u64 (fixB x : Nat) 9223372036854775808).toNat)), .int .i64 0]) ∧ ∃ m, w' = w.drewN m := by
  go_enter Try.func14, Try.ntmps14
  go_wp2_with fail
  refine (rbits_any _ _).mono ?_
  rintro e w' ⟨rfl, rfl⟩
  go_wp2_with fail
  refine (rof_any _ _).mono ?_
  rintro e w' ⟨rfl, rfl⟩
  go_wp2_with fail
  refine (rfix_any _ _).mono ?_
  rintro e w' ⟨rfl, rfl⟩
  go_wp2_with fail
  go_ret2
  exact ⟨rfl, 0, rfl⟩


theorem rone_2 (x : Nat) (w : World) : Calls Try.prog 14 #[.int .i64 2, fl x] w fun e w' => e = .returned (.tuple #[fl (fixB (fixB (bits .andNot .u64 (fixB x : Nat) 9223372036854775808).toNat)), .int .i64 0]) ∧ ∃ m, w' = w.drewN m := by
  go_enter Try.func14, Try.ntmps14
  go_wp2_with fail
  refine (rbits_any _ _).mono ?_
  rintro e w' ⟨rfl, rfl⟩
  go_wp2_with fail
  refine (rof_any _ _).mono ?_
  rintro e w' ⟨rfl, rfl⟩
  go_wp2_with fail
  refine (rfix_any _ _).mono ?_
  rintro e w' ⟨rfl, rfl⟩
  go_wp2_with fail
  go_ret2
  exact ⟨rfl, 0, rfl⟩


theorem rone_3 (x : Nat) (w : World) : Calls Try.prog 14 #[.int .i64 3, fl x] w fun e w' => e = .returned (.tuple #[fl (wholeV .down x), .int .i64 0]) ∧ ∃ m, w' = w.drewN m := by
  go_enter Try.func14, Try.ntmps14
  go_wp2_with fail
  refine (floor_any _ _).mono ?_
  rintro e w' ⟨r, rfl, hr, m, rfl⟩
  go_wp2_with fail
  refine (rfix_any _ _).mono ?_
  rintro e w' ⟨rfl, rfl⟩
  go_wp2_with fail
  go_ret2
  exact ⟨by rw [← hr]; rfl, m, rfl⟩


theorem rone_4 (x : Nat) (w : World) : Calls Try.prog 14 #[.int .i64 4, fl x] w fun e w' => e = .returned (.tuple #[fl (sqrtV x), .int .i64 0]) ∧ ∃ m, w' = w.drewN m := by
  go_enter Try.func14, Try.ntmps14
  go_wp2_with fail
  refine (sqrt_any _ _).mono ?_
  rintro e w' ⟨r, rfl, hr, m, rfl⟩
  go_wp2_with fail
  refine (rfix_any _ _).mono ?_
  rintro e w' ⟨rfl, rfl⟩
  go_wp2_with fail
  go_ret2
  exact ⟨by rw [← hr]; rfl, m, rfl⟩


theorem rone_5 (x : Nat) (w : World) : Calls Try.prog 14 #[.int .i64 5, fl x] w fun e w' => e = .returned (.tuple #[fl (fixB (yesW (!trueB x))), .int .i64 0]) ∧ ∃ m, w' = w.drewN m := by
  go_enter Try.func14, Try.ntmps14
  go_wp2_with fail
  refine (rtrue_any _ _).mono ?_
  rintro e w' ⟨rfl, rfl⟩
  go_wp2_with fail
  refine (ryes_any _ _).mono ?_
  rintro e w' ⟨rfl, rfl⟩
  go_wp2_with fail
  refine (rfix_any _ _).mono ?_
  rintro e w' ⟨rfl, rfl⟩
  go_wp2_with fail
  go_ret2
  exact ⟨rfl, 0, rfl⟩


theorem rone_6 (x : Nat) (w : World) : Calls Try.prog 14 #[.int .i64 6, fl x] w fun e w' => e = .returned (.tuple #[fl (fixB (yesW (isNaN x))), .int .i64 0]) ∧ ∃ m, w' = w.drewN m := by
  have he : (!eqF x x) = isNaN x := by rw [eqF_self]; simp
  have HE := Lib.hid he
  clear he
  go_enter Try.func14, Try.ntmps14
  go_wp2_with fail
  refine (ryes_any _ _).mono ?_
  rintro e w' ⟨rfl, rfl⟩
  rw [HE.out]
  go_wp2_with fail
  refine (rfix_any _ _).mono ?_
  rintro e w' ⟨rfl, rfl⟩
  go_wp2_with fail
  go_ret2
  exact ⟨rfl, 0, rfl⟩


theorem rone_7 (x : Nat) (w : World) : Calls Try.prog 14 #[.int .i64 7, fl x] w fun e w' => e = .returned (.tuple #[fl (fixB (signR x)), .int .i64 0]) ∧ ∃ m, w' = w.drewN m := by
  have HC := Lib.hid (show signR x = if ltF x 0 then 13830554455654793216 else if ltF 0 x then 4607182418800017408 else x from rfl)
  cases h1 : ltF 0 x with
  | true =>
    cases h2 : ltF x 0 with
    | true =>
      rw [h1, h2] at HC
      go_enter Try.func14, Try.ntmps14
      go_wp2_with fail
      refine (rfix_any _ _).mono ?_
      rintro e w' ⟨rfl, rfl⟩
      go_wp2_with fail
      go_ret2
      exact ⟨by rw [HC.out]; rfl, 0, rfl⟩
    | false =>
      rw [h1, h2] at HC
      go_enter Try.func14, Try.ntmps14
      go_wp2_with fail
      refine (rfix_any _ _).mono ?_
      rintro e w' ⟨rfl, rfl⟩
      go_wp2_with fail
      go_ret2
      exact ⟨by rw [HC.out]; rfl, 0, rfl⟩
  | false =>
    cases h2 : ltF x 0 with
    | true =>
      rw [h1, h2] at HC
      go_enter Try.func14, Try.ntmps14
      go_wp2_with fail
      refine (rfix_any _ _).mono ?_
      rintro e w' ⟨rfl, rfl⟩
      go_wp2_with fail
      go_ret2
      exact ⟨by rw [HC.out]; rfl, 0, rfl⟩
    | false =>
      rw [h1, h2] at HC
      go_enter Try.func14, Try.ntmps14
      go_wp2_with fail
      refine (rfix_any _ _).mono ?_
      rintro e w' ⟨rfl, rfl⟩
      go_wp2_with fail
      go_ret2
      exact ⟨by rw [HC.out]; rfl, 0, rfl⟩


theorem rone_8 (x : Nat) (w : World) : Calls Try.prog 14 #[.int .i64 8, fl x] w fun e w' => e = .returned (.tuple #[fl (fixB (floatOfInt .f64 (hashR (fixB x)))), .int .i64 0]) ∧ ∃ m, w' = w.drewN m := by
  go_enter Try.func14, Try.ntmps14
  go_wp2_with fail
  refine (rhash_any _ _).mono ?_
  rintro e w' ⟨rfl, rfl⟩
  go_wp2_with fail
  refine (rfix_any _ _).mono ?_
  rintro e w' ⟨rfl, rfl⟩
  go_wp2_with fail
  go_ret2
  exact ⟨rfl, 0, rfl⟩


end Go.Proofs.Ytenebkiiemlecaa
