/- Two: both say alike. -/
import Derived.Test.YtenebkiiemlecaaN15
namespace Go.Proofs.Ytenebkiiemlecaa
open Go Go.RowKit
set_option linter.unusedVariables false
set_option linter.unusedSimpArgs false

theorem wholeB_nan {x lo : Nat} (h : isNaN x = true) : wholeB x lo = false := by
  unfold wholeB
  rw [ltF_nan_left h]
  simp
theorem modC_fixed (x y : Nat) : modC (fixB x) (fixB y) = modC x y := by
  unfold modC
  cases hx : isNaN x with
  | true =>
    have hx' : isNaN (fixB x) = true := by rw [isNaN_fix]; exact hx
    rw [wholeB_nan hx, wholeB_nan hx']
    simp only [Bool.false_eq_true, if_false]
  | false =>
    rw [fixB_num hx]
    cases hy : isNaN y with
    | true =>
      have hy' : isNaN (fixB y) = true := by rw [isNaN_fix]; exact hy
      rw [wholeB_nan hy, wholeB_nan hy']
      simp only [Bool.false_eq_true, if_false]
    | false => rw [fixB_num hy]

set_option maxHeartbeats 1000000 in
theorem two_5 (x y : Nat) (w : World) : Calls Try.prog 17 #[.int .i64 5, fl x, fl y] w fun e w' => e = .returned (.tuple #[fl (fixB (modC (fixB x) (fixB y))), .int .i64 0]) ∧ Chg w w' Nothing := by
  have hc : (w.alloc (.cells twosT 53)).cell? ⟨w.heap.size, 5, none⟩ = some (.func (.func 64) #[] #[]) := twos_cell w 5
  go_enter Try.func17, Try.ntmps17
  go_wp2_with fail
  refine (twos_any _).mono ?_
  rintro e w' ⟨rfl, rfl⟩
  go_wp2_with fail
  go_region_law (first | (go_simp; go_at_call 21; refine (fix_any _ _).mono ?_; rintro e w' ⟨rfl, rfl⟩) | (go_simp; go_at_call 64; refine (mod_any _ _ _).mono ?_; rintro e w' ⟨rfl, m, rfl⟩))
  all_goals
    go_wp2_with fail
    go_ret2
    exact ⟨rfl, ((Chg.refl _ _).alloc _).drewN _⟩
theorem rtwo_5 (x y : Nat) (w : World) : Calls Try.prog 18 #[.int .i64 5, fl x, fl y] w fun e w' => e = .returned (.tuple #[fl (fixB (modV x y)), .int .i64 0]) ∧ ∃ m, w' = w.drewN m := by
  go_enter Try.func18, Try.ntmps18
  go_wp2_with fail
  refine (rmod_any _ _ _).mono ?_
  rintro e w' ⟨rfl, m, rfl⟩
  go_wp2_with fail
  refine (rfix_any _ _).mono ?_
  rintro e w' ⟨rfl, rfl⟩
  go_wp2_with fail
  go_ret2
  exact ⟨rfl, m, rfl⟩

/-- What Two makes of two numbers. -/
def twoV (op : Int) (x y : Nat) : Nat :=
  if op = 1 then arV .add x y else if op = 2 then arV .sub x y else if op = 3 then arV .mul x y else if op = 4 then arV .quo x y else if op = 5 then fixB (modV x y) else if op = 6 then fixB (firstW x y 1) else if op = 7 then fixB (firstW x y (-1)) else if op = 8 then fixB (yesW (ltF x y)) else if op = 9 then fixB (yesW (ltF x y || eqF x y)) else if op = 10 then fixB (yesW (eqF x y)) else if op = 11 then fixB (yesW ((fixB x : Int) == (fixB y : Int))) else if op = 12 then fixB (yesW (decide (cmpR x y < 0))) else 0
def twoE (op : Int) : Int := if 1 ≤ op ∧ op ≤ 12 then 0 else 1
theorem twoV_1 (x y : Nat) : twoV 1 x y = arV .add x y := by unfold twoV; rw [if_pos rfl]
theorem twoE_1 : twoE 1 = 0 := by unfold twoE; rw [if_pos (by decide)]
theorem twoV_2 (x y : Nat) : twoV 2 x y = arV .sub x y := by unfold twoV; rw [if_neg (by decide), if_pos rfl]
theorem twoE_2 : twoE 2 = 0 := by unfold twoE; rw [if_pos (by decide)]
theorem twoV_3 (x y : Nat) : twoV 3 x y = arV .mul x y := by unfold twoV; rw [if_neg (by decide), if_neg (by decide), if_pos rfl]
theorem twoE_3 : twoE 3 = 0 := by unfold twoE; rw [if_pos (by decide)]
theorem twoV_4 (x y : Nat) : twoV 4 x y = arV .quo x y := by unfold twoV; rw [if_neg (by decide), if_neg (by decide), if_neg (by decide), if_pos rfl]
theorem twoE_4 : twoE 4 = 0 := by unfold twoE; rw [if_pos (by decide)]
theorem twoV_5 (x y : Nat) : twoV 5 x y = fixB (modV x y) := by unfold twoV; rw [if_neg (by decide), if_neg (by decide), if_neg (by decide), if_neg (by decide), if_pos rfl]
theorem twoE_5 : twoE 5 = 0 := by unfold twoE; rw [if_pos (by decide)]
theorem twoV_6 (x y : Nat) : twoV 6 x y = fixB (firstW x y 1) := by unfold twoV; rw [if_neg (by decide), if_neg (by decide), if_neg (by decide), if_neg (by decide), if_neg (by decide), if_pos rfl]
theorem twoE_6 : twoE 6 = 0 := by unfold twoE; rw [if_pos (by decide)]
theorem twoV_7 (x y : Nat) : twoV 7 x y = fixB (firstW x y (-1)) := by unfold twoV; rw [if_neg (by decide), if_neg (by decide), if_neg (by decide), if_neg (by decide), if_neg (by decide), if_neg (by decide), if_pos rfl]
theorem twoE_7 : twoE 7 = 0 := by unfold twoE; rw [if_pos (by decide)]
theorem twoV_8 (x y : Nat) : twoV 8 x y = fixB (yesW (ltF x y)) := by unfold twoV; rw [if_neg (by decide), if_neg (by decide), if_neg (by decide), if_neg (by decide), if_neg (by decide), if_neg (by decide), if_neg (by decide), if_pos rfl]
theorem twoE_8 : twoE 8 = 0 := by unfold twoE; rw [if_pos (by decide)]
theorem twoV_9 (x y : Nat) : twoV 9 x y = fixB (yesW (ltF x y || eqF x y)) := by unfold twoV; rw [if_neg (by decide), if_neg (by decide), if_neg (by decide), if_neg (by decide), if_neg (by decide), if_neg (by decide), if_neg (by decide), if_neg (by decide), if_pos rfl]
theorem twoE_9 : twoE 9 = 0 := by unfold twoE; rw [if_pos (by decide)]
theorem twoV_10 (x y : Nat) : twoV 10 x y = fixB (yesW (eqF x y)) := by unfold twoV; rw [if_neg (by decide), if_neg (by decide), if_neg (by decide), if_neg (by decide), if_neg (by decide), if_neg (by decide), if_neg (by decide), if_neg (by decide), if_neg (by decide), if_pos rfl]
theorem twoE_10 : twoE 10 = 0 := by unfold twoE; rw [if_pos (by decide)]
theorem twoV_11 (x y : Nat) : twoV 11 x y = fixB (yesW ((fixB x : Int) == (fixB y : Int))) := by unfold twoV; rw [if_neg (by decide), if_neg (by decide), if_neg (by decide), if_neg (by decide), if_neg (by decide), if_neg (by decide), if_neg (by decide), if_neg (by decide), if_neg (by decide), if_neg (by decide), if_pos rfl]
theorem twoE_11 : twoE 11 = 0 := by unfold twoE; rw [if_pos (by decide)]
theorem twoV_12 (x y : Nat) : twoV 12 x y = fixB (yesW (decide (cmpR x y < 0))) := by unfold twoV; rw [if_neg (by decide), if_neg (by decide), if_neg (by decide), if_neg (by decide), if_neg (by decide), if_neg (by decide), if_neg (by decide), if_neg (by decide), if_neg (by decide), if_neg (by decide), if_neg (by decide), if_pos rfl]
theorem twoE_12 : twoE 12 = 0 := by unfold twoE; rw [if_pos (by decide)]

theorem cmpC_neg_fix {x y : Nat} (hx : x < 18446744073709551616) (hy : y < 18446744073709551616) : decide (cmpC (fixB x) (fixB y) < 0) = decide (cmpR x y < 0) := by rw [cmpC_fix, cmp_two hx hy]
theorem twoE_bad {op : Int} (hb : op < 1 ∨ 12 < op) : twoE op = 1 := by unfold twoE; rw [if_neg (by omega)]
theorem twoV_bad {op : Int} (hb : op < 1 ∨ 12 < op) (x y : Nat) : twoV op x y = 0 := by
  unfold twoV
  rw [if_neg (by omega), if_neg (by omega), if_neg (by omega), if_neg (by omega), if_neg (by omega), if_neg (by omega), if_neg (by omega), if_neg (by omega), if_neg (by omega), if_neg (by omega), if_neg (by omega), if_neg (by omega)]

theorem two_any (op : Int) (x y : Nat) (w : World) (hx : x < 18446744073709551616) (hy : y < 18446744073709551616) : Calls Try.prog 17 #[.int .i64 op, fl x, fl y] w fun e w' => e = .returned (.tuple #[fl (twoV op x y), .int .i64 (twoE op)]) ∧ Chg w w' Nothing := by
  by_cases hb : op < 1 ∨ 12 < op
  · rw [twoE_bad hb, twoV_bad hb]
    exact two_bad op x y w hb
  · have hlo : 1 ≤ op := by omega
    have hhi : op ≤ 12 := by omega
    clear hb
    have : (op = 1 ∨ op = 2 ∨ op = 3) ∨ (op = 4 ∨ op = 5 ∨ op = 6) ∨ (op = 7 ∨ op = 8 ∨ op = 9) ∨ (op = 10 ∨ op = 11 ∨ op = 12) := by
      rcases (show op < 4 ∨ (4 ≤ op ∧ op < 7) ∨ (7 ≤ op ∧ op < 10) ∨ 10 ≤ op by omega) with h | ⟨h, h'⟩ | ⟨h, h'⟩ | h
      · exact .inl (by omega)
      · exact .inr (.inl (by omega))
      · exact .inr (.inr (.inl (by omega)))
      · exact .inr (.inr (.inr (by omega)))
    clear hlo hhi
    rcases this with (rfl | rfl | rfl) | (rfl | rfl | rfl) | (rfl | rfl | rfl) | (rfl | rfl | rfl)
    · rw [twoV_1, twoE_1]
      refine (two_1 x y w).mono fun e w' ⟨he, hc⟩ => ⟨?_, hc⟩
      rw [he, arV_fix (by simp)]
    · rw [twoV_2, twoE_2]
      refine (two_2 x y w).mono fun e w' ⟨he, hc⟩ => ⟨?_, hc⟩
      rw [he, arV_fix (by simp)]
    · rw [twoV_3, twoE_3]
      refine (two_3 x y w).mono fun e w' ⟨he, hc⟩ => ⟨?_, hc⟩
      rw [he, arV_fix (by simp)]
    · rw [twoV_4, twoE_4]
      refine (two_4 x y w).mono fun e w' ⟨he, hc⟩ => ⟨?_, hc⟩
      rw [he, arV_fix (by simp)]
    · rw [twoV_5, twoE_5]
      refine (two_5 x y w).mono fun e w' ⟨he, hc⟩ => ⟨?_, hc⟩
      rw [he, modC_fixed, modC_fix]
    · rw [twoV_6, twoE_6]
      refine (two_6 x y w).mono fun e w' ⟨he, hc⟩ => ⟨?_, hc⟩
      rw [he, least_two hx hy]
    · rw [twoV_7, twoE_7]
      refine (two_7 x y w).mono fun e w' ⟨he, hc⟩ => ⟨?_, hc⟩
      rw [he, greatest_two hx hy]
    · rw [twoV_8, twoE_8]
      refine (two_8 x y w).mono fun e w' ⟨he, hc⟩ => ⟨?_, hc⟩
      rw [he, ltF_fix]
    · rw [twoV_9, twoE_9]
      refine (two_9 x y w).mono fun e w' ⟨he, hc⟩ => ⟨?_, hc⟩
      rw [he, ltF_fix, eqF_fix]
    · rw [twoV_10, twoE_10]
      refine (two_10 x y w).mono fun e w' ⟨he, hc⟩ => ⟨?_, hc⟩
      rw [he, eqF_fix]
    · rw [twoV_11, twoE_11]
      refine (two_11 x y w).mono fun e w' ⟨he, hc⟩ => ⟨?_, hc⟩
      rw [he, fixB_fix, fixB_fix]
    · rw [twoV_12, twoE_12]
      refine (two_12 x y w).mono fun e w' ⟨he, hc⟩ => ⟨?_, hc⟩
      rw [he, cmpC_neg_fix hx hy]
theorem rtwo_any (op : Int) (x y : Nat) (w : World) : Calls Try.prog 18 #[.int .i64 op, fl x, fl y] w fun e w' => e = .returned (.tuple #[fl (twoV op x y), .int .i64 (twoE op)]) ∧ Chg w w' Nothing := by
  by_cases hb : op < 1 ∨ 12 < op
  · rw [twoE_bad hb, twoV_bad hb]
    exact (rtwo_bad op x y w hb).mono fun e w' ⟨he, hc⟩ => ⟨he, by rw [← hc]; exact Chg.refl _ _⟩
  · have hlo : 1 ≤ op := by omega
    have hhi : op ≤ 12 := by omega
    clear hb
    have : (op = 1 ∨ op = 2 ∨ op = 3) ∨ (op = 4 ∨ op = 5 ∨ op = 6) ∨ (op = 7 ∨ op = 8 ∨ op = 9) ∨ (op = 10 ∨ op = 11 ∨ op = 12) := by
      rcases (show op < 4 ∨ (4 ≤ op ∧ op < 7) ∨ (7 ≤ op ∧ op < 10) ∨ 10 ≤ op by omega) with h | ⟨h, h'⟩ | ⟨h, h'⟩ | h
      · exact .inl (by omega)
      · exact .inr (.inl (by omega))
      · exact .inr (.inr (.inl (by omega)))
      · exact .inr (.inr (.inr (by omega)))
    clear hlo hhi
    rcases this with (rfl | rfl | rfl) | (rfl | rfl | rfl) | (rfl | rfl | rfl) | (rfl | rfl | rfl)
    · rw [twoV_1, twoE_1]
      exact (rtwo_1 x y w).mono fun e w' ⟨he, m, hw⟩ => ⟨he, by rw [hw]; exact Chg.of_drewN _ _⟩
    · rw [twoV_2, twoE_2]
      exact (rtwo_2 x y w).mono fun e w' ⟨he, m, hw⟩ => ⟨he, by rw [hw]; exact Chg.of_drewN _ _⟩
    · rw [twoV_3, twoE_3]
      exact (rtwo_3 x y w).mono fun e w' ⟨he, m, hw⟩ => ⟨he, by rw [hw]; exact Chg.of_drewN _ _⟩
    · rw [twoV_4, twoE_4]
      exact (rtwo_4 x y w).mono fun e w' ⟨he, m, hw⟩ => ⟨he, by rw [hw]; exact Chg.of_drewN _ _⟩
    · rw [twoV_5, twoE_5]
      exact (rtwo_5 x y w).mono fun e w' ⟨he, m, hw⟩ => ⟨he, by rw [hw]; exact Chg.of_drewN _ _⟩
    · rw [twoV_6, twoE_6]
      exact (rtwo_6 x y w).mono fun e w' ⟨he, m, hw⟩ => ⟨he, by rw [hw]; exact Chg.of_drewN _ _⟩
    · rw [twoV_7, twoE_7]
      exact (rtwo_7 x y w).mono fun e w' ⟨he, m, hw⟩ => ⟨he, by rw [hw]; exact Chg.of_drewN _ _⟩
    · rw [twoV_8, twoE_8]
      exact (rtwo_8 x y w).mono fun e w' ⟨he, m, hw⟩ => ⟨he, by rw [hw]; exact Chg.of_drewN _ _⟩
    · rw [twoV_9, twoE_9]
      exact (rtwo_9 x y w).mono fun e w' ⟨he, m, hw⟩ => ⟨he, by rw [hw]; exact Chg.of_drewN _ _⟩
    · rw [twoV_10, twoE_10]
      exact (rtwo_10 x y w).mono fun e w' ⟨he, m, hw⟩ => ⟨he, by rw [hw]; exact Chg.of_drewN _ _⟩
    · rw [twoV_11, twoE_11]
      exact (rtwo_11 x y w).mono fun e w' ⟨he, m, hw⟩ => ⟨he, by rw [hw]; exact Chg.of_drewN _ _⟩
    · rw [twoV_12, twoE_12]
      exact (rtwo_12 x y w).mono fun e w' ⟨he, m, hw⟩ => ⟨he, by rw [hw]; exact Chg.of_drewN _ _⟩

end Go.Proofs.Ytenebkiiemlecaa
