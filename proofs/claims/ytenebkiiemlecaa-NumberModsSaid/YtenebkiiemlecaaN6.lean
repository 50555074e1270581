/- One: both say alike. -/
import Derived.Test.YtenebkiiemlecaaN4
import Derived.Test.YtenebkiiemlecaaN5
namespace Go.Proofs.Ytenebkiiemlecaa
open Go Go.RowKit
set_option linter.unusedVariables false
set_option linter.unusedSimpArgs false

theorem fix_zero : fixB 0 = 0 := by decide
theorem trueB_fix (b : Nat) : trueB (fixB b) = trueB b := by
  unfold trueB
  have := eqF_fix b 0
  rw [fix_zero] at this
  rw [isNaN_fix, this]
theorem wholeV_fix (way : Ieee.Toward) (b : Nat) : wholeV way (fixB b) = wholeV way b := by
  unfold wholeV
  rw [isNaN_fix]
  cases h : isNaN b with
  | true => rfl
  | false => rw [fixB_num h]
theorem sqrt_nan {b : Nat} (h : isNaN b = true) : f64.sqrt b = none := by
  have h' : 9218868437227405312 < rungB b := by simpa [isNaN] using h
  unfold Ieee.Format.sqrt
  rw [read_nan h']
  rfl
theorem sqrtV_fix (b : Nat) : sqrtV (fixB b) = sqrtV b := by
  cases h : isNaN b with
  | true => unfold sqrtV; rw [sqrt_nan h, sqrt_nan (by rw [isNaN_fix]; exact h)]
  | false => rw [fixB_num h]
theorem lt_fix_zero (b : Nat) : ltF 0 (fixB b) = ltF 0 b := by have := ltF_fix 0 b; rwa [fix_zero] at this
theorem lt_zero_fix (b : Nat) : ltF (fixB b) 0 = ltF b 0 := by have := ltF_fix b 0; rwa [fix_zero] at this
theorem lt_not {a b : Nat} (h : ltF a b = true) : ltF b a = false := by
  unfold ltF at h ⊢
  simp only [Bool.and_eq_true, decide_eq_true_eq] at h
  have : ¬ sk b < sk a := by omega
  simp [this]
theorem sign_two (x : Nat) : fixB (signW (fixB x)) = fixB (signR x) := by
  unfold signW signR
  rw [lt_fix_zero, lt_zero_fix]
  cases h1 : ltF 0 x with
  | true => rw [lt_not h1]; rfl
  | false =>
    cases h2 : ltF x 0 with
    | true => rfl
    | false => exact fixB_fix x

theorem neg_xor (b : Nat) : Op.negFloat .f64 b = b ^^^ 9223372036854775808 := rfl
/-- What One makes of a number. -/
def oneV (op : Int) (x : Nat) : Nat :=
  if op = 1 then fixB (Op.negFloat .f64 (fixB x)) else if op = 2 then fixB (absW (fixB x)) else if op = 3 then wholeV .down x else if op = 4 then sqrtV x
  else if op = 5 then fixB (yesW (!trueB x)) else if op = 6 then fixB (yesW (isNaN x)) else if op = 7 then fixB (signR x) else if op = 8 then fixB (floatOfInt .f64 (hashI (fixB x))) else 0
def oneE (op : Int) : Int := if 1 ≤ op ∧ op ≤ 8 then 0 else 1
theorem oneV_1 (x : Nat) : oneV 1 x = fixB (Op.negFloat .f64 (fixB x)) := by unfold oneV; rw [if_pos rfl]
theorem oneE_1 : oneE 1 = 0 := by unfold oneE; rw [if_pos (by decide)]
theorem oneV_2 (x : Nat) : oneV 2 x = fixB (absW (fixB x)) := by unfold oneV; rw [if_neg (by decide), if_pos rfl]
theorem oneE_2 : oneE 2 = 0 := by unfold oneE; rw [if_pos (by decide)]
theorem oneV_3 (x : Nat) : oneV 3 x = wholeV .down x := by unfold oneV; rw [if_neg (by decide), if_neg (by decide), if_pos rfl]
theorem oneE_3 : oneE 3 = 0 := by unfold oneE; rw [if_pos (by decide)]
theorem oneV_4 (x : Nat) : oneV 4 x = sqrtV x := by unfold oneV; rw [if_neg (by decide), if_neg (by decide), if_neg (by decide), if_pos rfl]
theorem oneE_4 : oneE 4 = 0 := by unfold oneE; rw [if_pos (by decide)]
theorem oneV_5 (x : Nat) : oneV 5 x = fixB (yesW (!trueB x)) := by unfold oneV; rw [if_neg (by decide), if_neg (by decide), if_neg (by decide), if_neg (by decide), if_pos rfl]
theorem oneE_5 : oneE 5 = 0 := by unfold oneE; rw [if_pos (by decide)]
theorem oneV_6 (x : Nat) : oneV 6 x = fixB (yesW (isNaN x)) := by unfold oneV; rw [if_neg (by decide), if_neg (by decide), if_neg (by decide), if_neg (by decide), if_neg (by decide), if_pos rfl]
theorem oneE_6 : oneE 6 = 0 := by unfold oneE; rw [if_pos (by decide)]
theorem oneV_7 (x : Nat) : oneV 7 x = fixB (signR x) := by unfold oneV; rw [if_neg (by decide), if_neg (by decide), if_neg (by decide), if_neg (by decide), if_neg (by decide), if_neg (by decide), if_pos rfl]
theorem oneE_7 : oneE 7 = 0 := by unfold oneE; rw [if_pos (by decide)]
theorem oneV_8 (x : Nat) : oneV 8 x = fixB (floatOfInt .f64 (hashI (fixB x))) := by unfold oneV; rw [if_neg (by decide), if_neg (by decide), if_neg (by decide), if_neg (by decide), if_neg (by decide), if_neg (by decide), if_neg (by decide), if_pos rfl]
theorem oneE_8 : oneE 8 = 0 := by unfold oneE; rw [if_pos (by decide)]

theorem one_any (op : Int) (x : Nat) (w : World) : Calls Try.prog 13 #[.int .i64 op, fl x] w fun e w' => e = .returned (.tuple #[fl (oneV op x), .int .i64 (oneE op)]) ∧ Chg w w' Nothing := by
  by_cases hb : op < 1 ∨ 8 < op
  · refine (one_bad op x w hb).mono fun e w' ⟨he, hc⟩ => ⟨?_, hc⟩
    rw [he]
    have e1 : oneE op = 1 := by unfold oneE; rw [if_neg (by omega)]
    have e2 : oneV op x = 0 := by
      unfold oneV
      rw [if_neg (by omega), if_neg (by omega), if_neg (by omega), if_neg (by omega), if_neg (by omega), if_neg (by omega), if_neg (by omega), if_neg (by omega)]
    rw [e1, e2]
  · have : op = 1 ∨ op = 2 ∨ op = 3 ∨ op = 4 ∨ op = 5 ∨ op = 6 ∨ op = 7 ∨ op = 8 := by omega
    rcases this with rfl | rfl | rfl | rfl | rfl | rfl | rfl | rfl
    · rw [oneV_1, oneE_1]
      refine (one_1 x w).mono fun e w' ⟨he, hc⟩ => ⟨?_, hc⟩
      rw [he]
    · rw [oneV_2, oneE_2]
      refine (one_2 x w).mono fun e w' ⟨he, hc⟩ => ⟨?_, hc⟩
      rw [he]
    · rw [oneV_3, oneE_3]
      refine (one_3 x w).mono fun e w' ⟨he, hc⟩ => ⟨?_, hc⟩
      rw [he, wholeV_fix]
    · rw [oneV_4, oneE_4]
      refine (one_4 x w).mono fun e w' ⟨he, hc⟩ => ⟨?_, hc⟩
      rw [he, sqrtV_fix]
    · rw [oneV_5, oneE_5]
      refine (one_5 x w).mono fun e w' ⟨he, hc⟩ => ⟨?_, hc⟩
      rw [he, trueB_fix]
    · rw [oneV_6, oneE_6]
      refine (one_6 x w).mono fun e w' ⟨he, hc⟩ => ⟨?_, hc⟩
      rw [he, isNaN_fix]
    · rw [oneV_7, oneE_7]
      refine (one_7 x w).mono fun e w' ⟨he, hc⟩ => ⟨?_, hc⟩
      rw [he, sign_two]
    · rw [oneV_8, oneE_8]
      refine (one_8 x w).mono fun e w' ⟨he, hc⟩ => ⟨?_, hc⟩
      rw [he, fixB_fix]

theorem Chg.of_drewN (w : World) (m : Nat) : Chg w (w.drewN m) Nothing := (Chg.refl _ _).drewN m
theorem rone_any (op : Int) (x : Nat) (w : World) (hx : x < 18446744073709551616) : Calls Try.prog 14 #[.int .i64 op, fl x] w fun e w' => e = .returned (.tuple #[fl (oneV op x), .int .i64 (oneE op)]) ∧ Chg w w' Nothing := by
  have hf := fixB_lt hx
  by_cases hb : op < 1 ∨ 8 < op
  · refine (rone_bad op x w hb).mono fun e w' ⟨he, hc⟩ => ⟨?_, by rw [← hc]; exact Chg.refl _ _⟩
    rw [he]
    have e1 : oneE op = 1 := by unfold oneE; rw [if_neg (by omega)]
    have e2 : oneV op x = 0 := by
      unfold oneV
      rw [if_neg (by omega), if_neg (by omega), if_neg (by omega), if_neg (by omega), if_neg (by omega), if_neg (by omega), if_neg (by omega), if_neg (by omega)]
    rw [e1, e2]
  · have : op = 1 ∨ op = 2 ∨ op = 3 ∨ op = 4 ∨ op = 5 ∨ op = 6 ∨ op = 7 ∨ op = 8 := by omega
    rcases this with rfl | rfl | rfl | rfl | rfl | rfl | rfl | rfl
    · rw [oneV_1, oneE_1]
      refine (rone_1 x w).mono fun e w' ⟨he, m, hw⟩ => ⟨?_, by rw [hw]; exact Chg.of_drewN _ _⟩
      have hx1 : bits .xor .u64 (fixB x : Int) 9223372036854775808 = ((fixB x ^^^ 9223372036854775808 : Nat) : Int) := bits_xor_u64_nat _ 9223372036854775808 hf (by decide)
      rw [he, fixB_fix, hx1, Int.toNat_natCast, neg_xor]
    · rw [oneV_2, oneE_2]
      refine (rone_2 x w).mono fun e w' ⟨he, m, hw⟩ => ⟨?_, by rw [hw]; exact Chg.of_drewN _ _⟩
      rw [he, fixB_fix, absW]
    · rw [oneV_3, oneE_3]
      refine (rone_3 x w).mono fun e w' ⟨he, m, hw⟩ => ⟨?_, by rw [hw]; exact Chg.of_drewN _ _⟩
      rw [he]
    · rw [oneV_4, oneE_4]
      refine (rone_4 x w).mono fun e w' ⟨he, m, hw⟩ => ⟨?_, by rw [hw]; exact Chg.of_drewN _ _⟩
      rw [he]
    · rw [oneV_5, oneE_5]
      refine (rone_5 x w).mono fun e w' ⟨he, m, hw⟩ => ⟨?_, by rw [hw]; exact Chg.of_drewN _ _⟩
      rw [he]
    · rw [oneV_6, oneE_6]
      refine (rone_6 x w).mono fun e w' ⟨he, m, hw⟩ => ⟨?_, by rw [hw]; exact Chg.of_drewN _ _⟩
      rw [he]
    · rw [oneV_7, oneE_7]
      refine (rone_7 x w).mono fun e w' ⟨he, m, hw⟩ => ⟨?_, by rw [hw]; exact Chg.of_drewN _ _⟩
      rw [he]
    · rw [oneV_8, oneE_8]
      refine (rone_8 x w).mono fun e w' ⟨he, m, hw⟩ => ⟨?_, by rw [hw]; exact Chg.of_drewN _ _⟩
      obtain ⟨n, _, h1, h2⟩ := hash_range hf
      rw [he, h2, h1]

end Go.Proofs.Ytenebkiiemlecaa
