/- number.Two, operation by operation (but mod). -/
import Derived.Test.YtgeapkalabijmaaGreatK2
import Derived.Deep.AppendLies
import Derived.Test.YtgeapkalabijmaaGreatK1
namespace Go.Proofs.YtgeapkalabijmaaGreat
open Go Go.RowKit
set_option maxRecDepth 100000
set_option maxHeartbeats 1000000
set_option linter.unusedVariables false
set_option linter.unusedSimpArgs false

/-- The table of the operations. -/
def twosT : Array Value := #[.nilFunc, .func (.func 191) #[] #[], .func (.func 192) #[] #[], .func (.func 193) #[] #[], .func (.func 194) #[] #[], .func (.func 195) #[] #[], .func (.func 196) #[] #[], .func (.func 197) #[] #[], .func (.func 198) #[] #[], .func (.func 199) #[] #[], .func (.func 200) #[] #[], .func (.func 201) #[] #[], .func (.func 202) #[] #[]]
theorem twos_any (w : World) : Calls Tryz.prog 180 #[] w fun e w' => e = .returned (.slice (some ⟨w.heap.size, 0, none⟩) 13 13) ∧ w' = w.alloc (.cells twosT 183) := by
  go_enter Tryz.func180, Tryz.ntmps180
  go_wp2
  go_ret
  exact ⟨rfl, rfl⟩
theorem twos_cell (w : World) (j : Nat) : (w.alloc (.cells twosT 183)).cell? ⟨w.heap.size, j, none⟩ = twosT[j]? := blk_cell (heap_alloc_new w _) j

theorem two_bad (op : Int) (x y : Nat) (w : World) (h : op < 1 ∨ 12 < op) : Calls Tryz.prog 177 #[.int .i64 op, fl x, fl y] w fun e w' => e = .returned (.tuple #[fl 0, .int .i64 1]) ∧ Chg w w' Nothing := by
  by_cases h1 : op < 1
  · have b1 : decide (op < 1) = true := decide_eq_true h1
    clear h h1
    go_enter Tryz.func177, Tryz.ntmps177
    go_wp2_with fail
    refine (twos_any _).mono ?_
    rintro e w' ⟨rfl, rfl⟩
    go_wp2_with fail
    go_ret2
    exact ⟨rfl, (Chg.refl _ _).alloc _⟩
  · have b1 : decide (op < 1) = false := decide_eq_false h1
    have b2 : decide (13 ≤ op) = true := decide_eq_true (by omega)
    clear h h1
    go_enter Tryz.func177, Tryz.ntmps177
    go_wp2_with fail
    refine (twos_any _).mono ?_
    rintro e w' ⟨rfl, rfl⟩
    go_wp2_with fail
    go_ret2
    exact ⟨rfl, (Chg.refl _ _).alloc _⟩


set_option maxHeartbeats 1000000 in
theorem two_1 (x y : Nat) (w : World) : Calls Tryz.prog 177 #[.int .i64 1, fl x, fl y] w fun e w' => e = .returned (.tuple #[fl (arV .add (fixB x) (fixB y)), .int .i64 0]) ∧ Chg w w' Nothing := by
  have hc : (w.alloc (.cells twosT 183)).cell? ⟨w.heap.size, 1, none⟩ = some (.func (.func 191) #[] #[]) := twos_cell w 1
  go_enter Tryz.func177, Tryz.ntmps177
  go_wp2_with fail
  refine (twos_any _).mono ?_
  rintro e w' ⟨rfl, rfl⟩
  go_wp2_with fail
  go_region_law (first | (go_simp; go_at_call 115; refine (fix_any _ _).mono ?_; rintro e w' ⟨rfl, rfl⟩) | (go_simp; go_at_call 191; refine (fadd_any _ _ _).mono ?_; rintro e w' ⟨r, rfl, hr, m, rfl⟩))
  all_goals
    go_wp2_with fail
    go_ret2
    exact ⟨by rw [← hr]; rfl, ((Chg.refl _ _).alloc _).drewN _⟩


set_option maxHeartbeats 1000000 in
theorem two_2 (x y : Nat) (w : World) : Calls Tryz.prog 177 #[.int .i64 2, fl x, fl y] w fun e w' => e = .returned (.tuple #[fl (arV .sub (fixB x) (fixB y)), .int .i64 0]) ∧ Chg w w' Nothing := by
  have hc : (w.alloc (.cells twosT 183)).cell? ⟨w.heap.size, 2, none⟩ = some (.func (.func 192) #[] #[]) := twos_cell w 2
  go_enter Tryz.func177, Tryz.ntmps177
  go_wp2_with fail
  refine (twos_any _).mono ?_
  rintro e w' ⟨rfl, rfl⟩
  go_wp2_with fail
  go_region_law (first | (go_simp; go_at_call 115; refine (fix_any _ _).mono ?_; rintro e w' ⟨rfl, rfl⟩) | (go_simp; go_at_call 192; refine (fsub_any _ _ _).mono ?_; rintro e w' ⟨r, rfl, hr, m, rfl⟩))
  all_goals
    go_wp2_with fail
    go_ret2
    exact ⟨by rw [← hr]; rfl, ((Chg.refl _ _).alloc _).drewN _⟩


set_option maxHeartbeats 1000000 in
theorem two_3 (x y : Nat) (w : World) : Calls Tryz.prog 177 #[.int .i64 3, fl x, fl y] w fun e w' => e = .returned (.tuple #[fl (arV .mul (fixB x) (fixB y)), .int .i64 0]) ∧ Chg w w' Nothing := by
  have hc : (w.alloc (.cells twosT 183)).cell? ⟨w.heap.size, 3, none⟩ = some (.func (.func 193) #[] #[]) := twos_cell w 3
  go_enter Tryz.func177, Tryz.ntmps177
  go_wp2_with fail
  refine (twos_any _).mono ?_
  rintro e w' ⟨rfl, rfl⟩
  go_wp2_with fail
  go_region_law (first | (go_simp; go_at_call 115; refine (fix_any _ _).mono ?_; rintro e w' ⟨rfl, rfl⟩) | (go_simp; go_at_call 193; refine (fmul_any _ _ _).mono ?_; rintro e w' ⟨r, rfl, hr, m, rfl⟩))
  all_goals
    go_wp2_with fail
    go_ret2
    exact ⟨by rw [← hr]; rfl, ((Chg.refl _ _).alloc _).drewN _⟩


set_option maxHeartbeats 1000000 in
theorem two_4 (x y : Nat) (w : World) : Calls Tryz.prog 177 #[.int .i64 4, fl x, fl y] w fun e w' => e = .returned (.tuple #[fl (arV .quo (fixB x) (fixB y)), .int .i64 0]) ∧ Chg w w' Nothing := by
  have hc : (w.alloc (.cells twosT 183)).cell? ⟨w.heap.size, 4, none⟩ = some (.func (.func 194) #[] #[]) := twos_cell w 4
  go_enter Tryz.func177, Tryz.ntmps177
  go_wp2_with fail
  refine (twos_any _).mono ?_
  rintro e w' ⟨rfl, rfl⟩
  go_wp2_with fail
  go_region_law (first | (go_simp; go_at_call 115; refine (fix_any _ _).mono ?_; rintro e w' ⟨rfl, rfl⟩) | (go_simp; go_at_call 194; refine (fquo_any _ _ _).mono ?_; rintro e w' ⟨r, rfl, hr, m, rfl⟩))
  all_goals
    go_wp2_with fail
    go_ret2
    exact ⟨by rw [← hr]; rfl, ((Chg.refl _ _).alloc _).drewN _⟩


set_option maxHeartbeats 1000000 in
theorem two_6 (x y : Nat) (w : World) : Calls Tryz.prog 177 #[.int .i64 6, fl x, fl y] w fun e w' => e = .returned (.tuple #[fl (fixB (leastW (fixB x) (fixB y))), .int .i64 0]) ∧ Chg w w' Nothing := by
  have hc : (w.alloc (.cells twosT 183)).cell? ⟨w.heap.size, 6, none⟩ = some (.func (.func 196) #[] #[]) := twos_cell w 6
  go_enter Tryz.func177, Tryz.ntmps177
  go_wp2_with fail
  refine (twos_any _).mono ?_
  rintro e w' ⟨rfl, rfl⟩
  go_wp2_with fail
  go_region_law (first | (go_simp; go_at_call 115; refine (fix_any _ _).mono ?_; rintro e w' ⟨rfl, rfl⟩) | (go_simp; go_at_call 196; refine (least_any _ _ _).mono ?_; rintro e w' ⟨rfl, rfl⟩))
  all_goals
    go_wp2_with fail
    go_ret2
    exact ⟨rfl, ((Chg.refl _ _).alloc _).drewN _⟩


set_option maxHeartbeats 1000000 in
theorem two_7 (x y : Nat) (w : World) : Calls Tryz.prog 177 #[.int .i64 7, fl x, fl y] w fun e w' => e = .returned (.tuple #[fl (fixB (greatestW (fixB x) (fixB y))), .int .i64 0]) ∧ Chg w w' Nothing := by
  have hc : (w.alloc (.cells twosT 183)).cell? ⟨w.heap.size, 7, none⟩ = some (.func (.func 197) #[] #[]) := twos_cell w 7
  go_enter Tryz.func177, Tryz.ntmps177
  go_wp2_with fail
  refine (twos_any _).mono ?_
  rintro e w' ⟨rfl, rfl⟩
  go_wp2_with fail
  go_region_law (first | (go_simp; go_at_call 115; refine (fix_any _ _).mono ?_; rintro e w' ⟨rfl, rfl⟩) | (go_simp; go_at_call 197; refine (greatest_any _ _ _).mono ?_; rintro e w' ⟨rfl, rfl⟩))
  all_goals
    go_wp2_with fail
    go_ret2
    exact ⟨rfl, ((Chg.refl _ _).alloc _).drewN _⟩


set_option maxHeartbeats 1000000 in
theorem two_8 (x y : Nat) (w : World) : Calls Tryz.prog 177 #[.int .i64 8, fl x, fl y] w fun e w' => e = .returned (.tuple #[fl (fixB (yesW (ltF (fixB x) (fixB y)))), .int .i64 0]) ∧ Chg w w' Nothing := by
  have hc : (w.alloc (.cells twosT 183)).cell? ⟨w.heap.size, 8, none⟩ = some (.func (.func 198) #[] #[]) := twos_cell w 8
  go_enter Tryz.func177, Tryz.ntmps177
  go_wp2_with fail
  refine (twos_any _).mono ?_
  rintro e w' ⟨rfl, rfl⟩
  go_wp2_with fail
  go_region_law (first | (go_simp; go_at_call 115; refine (fix_any _ _).mono ?_; rintro e w' ⟨rfl, rfl⟩) | (go_simp; go_at_call 198; refine (two5_any _ _ _).mono ?_; rintro e w' ⟨rfl, rfl⟩))
  all_goals
    go_wp2_with fail
    go_ret2
    exact ⟨rfl, ((Chg.refl _ _).alloc _).drewN _⟩


set_option maxHeartbeats 1000000 in
theorem two_9 (x y : Nat) (w : World) : Calls Tryz.prog 177 #[.int .i64 9, fl x, fl y] w fun e w' => e = .returned (.tuple #[fl (fixB (yesW (ltF (fixB x) (fixB y) || eqF (fixB x) (fixB y)))), .int .i64 0]) ∧ Chg w w' Nothing := by
  have hc : (w.alloc (.cells twosT 183)).cell? ⟨w.heap.size, 9, none⟩ = some (.func (.func 199) #[] #[]) := twos_cell w 9
  go_enter Tryz.func177, Tryz.ntmps177
  go_wp2_with fail
  refine (twos_any _).mono ?_
  rintro e w' ⟨rfl, rfl⟩
  go_wp2_with fail
  go_region_law (first | (go_simp; go_at_call 115; refine (fix_any _ _).mono ?_; rintro e w' ⟨rfl, rfl⟩) | (go_simp; go_at_call 199; refine (two6_any _ _ _).mono ?_; rintro e w' ⟨rfl, rfl⟩))
  all_goals
    go_wp2_with fail
    go_ret2
    exact ⟨rfl, ((Chg.refl _ _).alloc _).drewN _⟩


set_option maxHeartbeats 1000000 in
theorem two_10 (x y : Nat) (w : World) : Calls Tryz.prog 177 #[.int .i64 10, fl x, fl y] w fun e w' => e = .returned (.tuple #[fl (fixB (yesW (eqF (fixB x) (fixB y)))), .int .i64 0]) ∧ Chg w w' Nothing := by
  have hc : (w.alloc (.cells twosT 183)).cell? ⟨w.heap.size, 10, none⟩ = some (.func (.func 200) #[] #[]) := twos_cell w 10
  go_enter Tryz.func177, Tryz.ntmps177
  go_wp2_with fail
  refine (twos_any _).mono ?_
  rintro e w' ⟨rfl, rfl⟩
  go_wp2_with fail
  go_region_law (first | (go_simp; go_at_call 115; refine (fix_any _ _).mono ?_; rintro e w' ⟨rfl, rfl⟩) | (go_simp; go_at_call 200; refine (two7_any _ _ _).mono ?_; rintro e w' ⟨rfl, rfl⟩))
  all_goals
    go_wp2_with fail
    go_ret2
    exact ⟨rfl, ((Chg.refl _ _).alloc _).drewN _⟩


set_option maxHeartbeats 1000000 in
theorem two_11 (x y : Nat) (w : World) : Calls Tryz.prog 177 #[.int .i64 11, fl x, fl y] w fun e w' => e = .returned (.tuple #[fl (fixB (yesW ((fixB (fixB x) : Int) == (fixB (fixB y) : Int)))), .int .i64 0]) ∧ Chg w w' Nothing := by
  have hc : (w.alloc (.cells twosT 183)).cell? ⟨w.heap.size, 11, none⟩ = some (.func (.func 201) #[] #[]) := twos_cell w 11
  go_enter Tryz.func177, Tryz.ntmps177
  go_wp2_with fail
  refine (twos_any _).mono ?_
  rintro e w' ⟨rfl, rfl⟩
  go_wp2_with fail
  go_region_law (first | (go_simp; go_at_call 115; refine (fix_any _ _).mono ?_; rintro e w' ⟨rfl, rfl⟩) | (go_simp; go_at_call 201; refine (two8_any _ _ _).mono ?_; rintro e w' ⟨rfl, rfl⟩))
  all_goals
    go_wp2_with fail
    go_ret2
    exact ⟨rfl, ((Chg.refl _ _).alloc _).drewN _⟩


set_option maxHeartbeats 1000000 in
theorem two_12 (x y : Nat) (w : World) : Calls Tryz.prog 177 #[.int .i64 12, fl x, fl y] w fun e w' => e = .returned (.tuple #[fl (fixB (yesW (decide (cmpC (fixB x) (fixB y) < 0)))), .int .i64 0]) ∧ Chg w w' Nothing := by
  have hc : (w.alloc (.cells twosT 183)).cell? ⟨w.heap.size, 12, none⟩ = some (.func (.func 202) #[] #[]) := twos_cell w 12
  go_enter Tryz.func177, Tryz.ntmps177
  go_wp2_with fail
  refine (twos_any _).mono ?_
  rintro e w' ⟨rfl, rfl⟩
  go_wp2_with fail
  go_region_law (first | (go_simp; go_at_call 115; refine (fix_any _ _).mono ?_; rintro e w' ⟨rfl, rfl⟩) | (go_simp; go_at_call 202; refine (two9_any _ _ _).mono ?_; rintro e w' ⟨rfl, rfl⟩))
  all_goals
    go_wp2_with fail
    go_ret2
    exact ⟨rfl, ((Chg.refl _ _).alloc _).drewN _⟩


end Go.Proofs.YtgeapkalabijmaaGreat

/- Two: both say alike (but mod). -/
namespace Go.Proofs.YtgeapkalabijmaaGreat
open Go Go.RowKit
set_option maxRecDepth 100000
set_option maxHeartbeats 1000000
set_option linter.unusedVariables false
set_option linter.unusedSimpArgs false

theorem cmpC_fix (a b : Nat) : cmpC (fixB a) (fixB b) = cmpC a b := by unfold cmpC; rw [fixB_fix, fixB_fix]
theorem cmpC_three (a b : Nat) : cmpC a b = -1 ∨ cmpC a b = 0 ∨ cmpC a b = 1 := by
  unfold cmpC
  split
  · exact .inl rfl
  · split
    · exact .inr (.inr rfl)
    · exact .inr (.inl rfl)
theorem least_two {x y : Nat} (hx : x < 18446744073709551616) (hy : y < 18446744073709551616) : fixB (leastW (fixB x) (fixB y)) = fixB (firstW x y 1) := by
  unfold leastW firstW
  rw [isNaN_fix, isNaN_fix, cmpC_fix, ← cmp_two hx hy]
  cases h1 : isNaN x with
  | true => simp only [if_true]; decide
  | false =>
    cases h2 : isNaN y with
    | true => simp only [Bool.false_eq_true, if_true, if_false]; decide
    | false =>
      have hc : decide (0 < cmpC x y) = (cmpC x y == 1) := by
        rcases cmpC_three x y with h | h | h <;> rw [h] <;> decide
      rw [hc]
      simp only [Bool.false_eq_true, if_false]
      cases (cmpC x y == 1) with
      | true => simp only [if_true]; rw [fixB_fix]
      | false => simp only [Bool.false_eq_true, if_false]; rw [fixB_fix]
theorem greatest_two {x y : Nat} (hx : x < 18446744073709551616) (hy : y < 18446744073709551616) : fixB (greatestW (fixB x) (fixB y)) = fixB (firstW x y (-1)) := by
  unfold greatestW firstW
  rw [isNaN_fix, isNaN_fix, cmpC_fix, ← cmp_two hx hy]
  cases h1 : isNaN x with
  | true => simp only [if_true]; decide
  | false =>
    cases h2 : isNaN y with
    | true => simp only [Bool.false_eq_true, if_true, if_false]; decide
    | false =>
      have hc : decide (cmpC x y < 0) = (cmpC x y == -1) := by
        rcases cmpC_three x y with h | h | h <;> rw [h] <;> decide
      rw [hc]
      simp only [Bool.false_eq_true, if_false]
      cases (cmpC x y == -1) with
      | true => simp only [if_true]; rw [fixB_fix]
      | false => simp only [Bool.false_eq_true, if_false]; rw [fixB_fix]

/-- Reckoning doesn't see which NaN it is. -/
theorem ar_nan {op : BinOp} (hop : op = .add ∨ op = .sub ∨ op = .mul ∨ op = .quo) {a b : Nat} (h : isNaN a = true ∨ isNaN b = true) : floatBits op .f64 a b = none := by
  have key : ∀ {c : Nat}, isNaN c = true → ∃ s t, f64.read c = .nan s t := fun {c} hc => ⟨_, _, read_nan (by simpa [isNaN] using hc)⟩
  rcases h with h | h
  · obtain ⟨s, t, e⟩ := key h
    rcases hop with rfl | rfl | rfl | rfl
    · show (((f64.read a).sum (f64.read b)).map f64.write) = none; rw [e]; rfl
    · show (((f64.read a).sum (f64.read b).opposite).map f64.write) = none; rw [e]; rfl
    · show (((f64.read a).product (f64.read b)).map f64.write) = none; rw [e]; rfl
    · show (((f64.read a).quotient (f64.fractionBits + 2) (f64.read b)).map f64.write) = none; rw [e]; rfl
  · obtain ⟨s, t, e⟩ := key h
    rcases hop with rfl | rfl | rfl | rfl
    · show (((f64.read a).sum (f64.read b)).map f64.write) = none; rw [e]; cases f64.read a <;> rfl
    · show (((f64.read a).sum (f64.read b).opposite).map f64.write) = none; rw [e]; cases f64.read a <;> rfl
    · show (((f64.read a).product (f64.read b)).map f64.write) = none; rw [e]; cases f64.read a <;> rfl
    · show (((f64.read a).quotient (f64.fractionBits + 2) (f64.read b)).map f64.write) = none; rw [e]; cases f64.read a <;> rfl
theorem arV_fix {op : BinOp} (hop : op = .add ∨ op = .sub ∨ op = .mul ∨ op = .quo) (a b : Nat) : arV op (fixB a) (fixB b) = arV op a b := by
  unfold arV
  cases ha : isNaN a with
  | true => rw [ar_nan hop (.inl ha), ar_nan hop (.inl (by rw [isNaN_fix]; exact ha))]
  | false =>
    cases hb : isNaN b with
    | true => rw [ar_nan hop (.inr hb), ar_nan hop (.inr (by rw [isNaN_fix]; exact hb))]
    | false => rw [fixB_num ha, fixB_num hb]

end Go.Proofs.YtgeapkalabijmaaGreat

/- mod: the walks. -/
namespace Go.Proofs.YtgeapkalabijmaaGreat
open Go Go.RowKit
set_option maxRecDepth 100000
set_option maxHeartbeats 1000000
set_option linter.unusedVariables false
set_option linter.unusedSimpArgs false

theorem wholeV_fixed (way : Ieee.Toward) (b : Nat) : fixB (wholeV way b) = wholeV way b := by
  unfold wholeV
  cases isNaN b with
  | true => simp only [if_true]; decide
  | false => simp only [Bool.false_eq_true, if_false]; exact fixB_fix _
theorem eqF_whole {way : Ieee.Toward} {x r : Nat} (h : fixB r = wholeV way x) : eqF x r = eqF x (wholeV way x) ∧ eqF r x = eqF (wholeV way x) x := by
  rw [← eqF_fix x r, ← eqF_fix r x, h, ← eqF_fix x (wholeV way x), ← eqF_fix (wholeV way x) x, wholeV_fixed]
  exact ⟨rfl, rfl⟩

/-- Is a number whole, from lo on and below 2^53? -/
def wholeB (x lo : Nat) : Bool := (ltF lo x || eqF x lo) && ltF x 4845873199050653696 && eqF x (wholeV .down x)
end Go.Proofs.YtgeapkalabijmaaGreat

/- mod: both say alike. -/
namespace Go.Proofs.YtgeapkalabijmaaGreat
open Go Go.RowKit
set_option maxRecDepth 100000
set_option maxHeartbeats 1000000
set_option linter.unusedVariables false
set_option linter.unusedSimpArgs false

/-- A whole word from lo on and below 2^53, as a number. -/
theorem whole_facts {x lo : Nat} (h : wholeB x lo = true) (hlo : isNaN lo = false) (h0 : 0 ≤ sk lo) : isNaN x = false ∧ sk lo ≤ sk x ∧ sk x < 4845873199050653696 ∧ floatToIntVal .f64 x .i64 = some (wholeN x : Int) ∧ wholeN x < 9007199254740992 := by
  unfold wholeB at h
  simp only [Bool.and_eq_true, Bool.or_eq_true] at h
  obtain ⟨⟨h1, h2⟩, h3⟩ := h
  have hn : isNaN x = false := by
    unfold ltF at h2
    simp only [Bool.and_eq_true, Bool.not_eq_true'] at h2
    exact h2.1.1
  have k2 : sk x < sk 4845873199050653696 := (ltF_iff hn (by decide)).1 h2
  have hk : sk 4845873199050653696 = 4845873199050653696 := by decide
  rw [hk] at k2
  have k1 : sk lo ≤ sk x := by
    rcases h1 with h1 | h1
    · have := (ltF_iff hlo hn).1 h1; omega
    · have := (eqF_iff hn hlo).1 h1; omega
  have hr : rungB x < 4845873199050653696 := by
    have e : sk x = if negB x then -(rungB x : Int) else (rungB x : Int) := rfl
    cases hneg : negB x with
    | true => rw [hneg, if_pos rfl] at e; omega
    | false => rw [hneg, if_neg (by decide)] at e; omega
  have hw := wholeN_lt hr _ units_53
  refine ⟨hn, k1, k2, ?_, hw⟩
  unfold floatToIntVal
  have ht := toInt_zero (b := x) (by omega)
  have hd : FloatKind.f64.decode x = f64.read x := rfl
  rw [hd, ht]
  have hv : (if negB x = true then -(wholeN x : Int) else (wholeN x : Int)) = wholeN x := by
    cases hneg : negB x with
    | true =>
      have : rungB x = 0 := by
        have e : sk x = if negB x then -(rungB x : Int) else (rungB x : Int) := rfl
        rw [hneg, if_pos rfl] at e; omega
      have hz : wholeN x = 0 := by unfold wholeN; rw [this, units_zero, Nat.zero_div]
      rw [hz]; rfl
    | false => rfl
  rw [hv]
  have m1 : IntKind.i64.min = -9223372036854775808 := by decide
  have m2 : IntKind.i64.max = 9223372036854775807 := by decide
  simp only [m1, m2]
  rw [if_pos (by omega)]

end Go.Proofs.YtgeapkalabijmaaGreat

/- mod: the document's walk. -/
namespace Go.Proofs.YtgeapkalabijmaaGreat
open Go Go.RowKit
set_option maxRecDepth 100000
set_option maxHeartbeats 1000000
set_option linter.unusedVariables false
set_option linter.unusedSimpArgs false

def oneW : Nat := 4607182418800017408
def modV (x y : Nat) : Nat := if wholeB x 0 then if wholeB y oneW then floatOfInt .f64 ((wholeN x : Int) % (wholeN y : Int)) else qn else qn
theorem one_facts : isNaN oneW = false ∧ sk oneW = 4607182418800017408 := by decide
theorem wholeN_one {y : Nat} (h : wholeB y oneW = true) : 1 ≤ wholeN y := by
  obtain ⟨h1, h2, h3, h4, h5⟩ := whole_facts h one_facts.1 (by rw [one_facts.2]; decide)
  rw [one_facts.2] at h2
  have hr : 4607182418800017408 ≤ rungB y := by
    have e : sk y = if negB y then -(rungB y : Int) else (rungB y : Int) := rfl
    cases hneg : negB y with
    | true => rw [hneg, if_pos rfl] at e; omega
    | false => rw [hneg, if_neg (by decide)] at e; omega
  exact wholeN_ge hr _ units_one

end Go.Proofs.YtgeapkalabijmaaGreat

/- mod: the code's walk. -/
namespace Go.Proofs.YtgeapkalabijmaaGreat
open Go Go.RowKit
set_option maxRecDepth 100000
set_option maxHeartbeats 1000000
set_option linter.unusedVariables false
set_option linter.unusedSimpArgs false

/-- Towards zero or down: alike from 0 on. -/
theorem whole_way {x : Nat} (hn : isNaN x = false) (h0 : 0 ≤ sk x) : wholeV .zero x = wholeV .down x := by
  unfold wholeV
  rw [hn]
  simp only [Bool.false_eq_true, if_false]
  have hr : rungB x ≤ 9218868437227405312 := by simpa [isNaN] using hn
  rcases Nat.lt_or_eq_of_le hr with h | h
  · cases hneg : negB x with
    | false => rw [integral_zero h, integral_down h hneg, hneg]
    | true =>
      have e : sk x = if negB x then -(rungB x : Int) else (rungB x : Int) := rfl
      rw [hneg, if_pos rfl] at e
      have hz : rungB x = 0 := by omega
      obtain ⟨m, p, e1, e2⟩ := read_fin h
      rw [hz, units_zero] at e2
      have hm : m = 0 := by
        rcases Nat.mul_eq_zero.1 e2 with h | h
        · exact h
        · exact absurd h (Nat.ne_of_gt (Nat.two_pow_pos _))
      subst hm
      rw [e1]
      congr 2
      show Ieee.Datum.number _ _ 0 = Ieee.Datum.number _ _ 0
      congr 1
      unfold Ieee.Toward.cut
      simp
  · rw [read_inf h]
    rfl

def geW (x lo : Nat) : Bool := ltF lo x || eqF x lo
theorem wholeB_eq {x lo : Nat} (hlo : isNaN lo = false) (h0 : 0 ≤ sk lo) : wholeB x lo = (geW x lo && (ltF x 4845873199050653696 && eqF (wholeV .zero x) x)) := by
  unfold wholeB geW
  cases h1 : (ltF lo x || eqF x lo) with
  | false => rfl
  | true =>
    have hn : isNaN x = false := by
      simp only [Bool.or_eq_true] at h1
      rcases h1 with h1 | h1
      · unfold ltF at h1; simp only [Bool.and_eq_true, Bool.not_eq_true'] at h1; exact h1.1.2
      · unfold eqF at h1; simp only [Bool.and_eq_true, Bool.not_eq_true'] at h1; exact h1.1.1
    have k1 : sk lo ≤ sk x := by
      simp only [Bool.or_eq_true] at h1
      rcases h1 with h1 | h1
      · have := (ltF_iff hlo hn).1 h1; omega
      · have := (eqF_iff hn hlo).1 h1; omega
    rw [whole_way hn (by omega)]
    have hc : eqF x (wholeV .down x) = eqF (wholeV .down x) x := by
      unfold eqF
      rw [Bool.and_comm (!isNaN x)]
      congr 1
      exact decide_eq_decide.2 ⟨fun h => h.symm, fun h => h.symm⟩
    rw [hc, Bool.and_assoc]

def modC (x y : Nat) : Nat := if wholeB x 0 then if wholeB y oneW then floatOfInt .f64 ((wholeN x : Int) % (wholeN y : Int)) else 9221120237041090561 else 9221120237041090561
theorem modC_fix (x y : Nat) : fixB (modC x y) = fixB (modV x y) := by
  unfold modC modV
  have : fixB 9221120237041090561 = fixB qn := by decide
  cases wholeB x 0 with
  | false => simp only [Bool.false_eq_true, if_false]; exact this
  | true =>
    cases wholeB y oneW with
    | false => simp only [if_true, Bool.false_eq_true, if_false]; exact this
    | true => rfl

theorem mod_any (x y : Nat) (w : World) : Calls Tryz.prog 195 #[fl x, fl y] w fun e w' => e = .returned (fl (modC x y)) ∧ ∃ m, w' = w.drewN m := by
  have HC : modC x y = if wholeB x 0 then if wholeB y oneW then floatOfInt .f64 ((wholeN x : Int) % (wholeN y : Int)) else 9221120237041090561 else 9221120237041090561 := rfl
  have ex := wholeB_eq (x := x) (lo := 0) (by decide) (by decide)
  have ey := wholeB_eq (x := y) (lo := oneW) one_facts.1 (by rw [one_facts.2]; decide)
  have gx : geW x 0 = (ltF 0 x || eqF x 0) := rfl
  have gy : geW y oneW = (ltF 4607182418800017408 y || eqF y 4607182418800017408) := rfl
  cases h1 : geW x 0 with
  | false =>
    have V := Lib.hid (show modC x y = 9221120237041090561 from by rw [HC, ex, h1]; rfl)
    rw [h1] at gx
    replace gx := gx.symm
    clear HC ex ey gy
    go_enter Tryz.func195, Tryz.ntmps195
    go_wp2_with fail
    refine (nanf_any _).mono ?_
    rintro e w' ⟨rfl, rfl⟩
    go_wp2_with fail
    go_ret
    exact ⟨by rw [V.out]; rfl, 0, rfl⟩
  | true =>
    cases h2 : ltF x 4845873199050653696 with
    | false =>
      have V := Lib.hid (show modC x y = 9221120237041090561 from by rw [HC, ex, h1, h2]; rfl)
      rw [h1] at gx
      replace gx := gx.symm
      clear HC ex ey gy
      go_enter Tryz.func195, Tryz.ntmps195
      go_wp2_with fail
      refine (nanf_any _).mono ?_
      rintro e w' ⟨rfl, rfl⟩
      go_wp2_with fail
      go_ret
      exact ⟨by rw [V.out]; rfl, 0, rfl⟩
    | true =>
      cases h3 : geW y oneW with
      | false =>
        have V := Lib.hid (show modC x y = 9221120237041090561 from by rw [HC, ey, h3]; cases wholeB x 0 <;> rfl)
        rw [h1] at gx
        rw [h3] at gy
        replace gx := gx.symm
        replace gy := gy.symm
        clear HC ex ey
        go_enter Tryz.func195, Tryz.ntmps195
        go_wp2_with fail
        refine (nanf_any _).mono ?_
        rintro e w' ⟨rfl, rfl⟩
        go_wp2_with fail
        go_ret
        exact ⟨by rw [V.out]; rfl, 0, rfl⟩
      | true =>
        cases h4 : ltF y 4845873199050653696 with
        | false =>
          have V := Lib.hid (show modC x y = 9221120237041090561 from by rw [HC, ey, h3, h4]; cases wholeB x 0 <;> rfl)
          rw [h1] at gx
          rw [h3] at gy
          replace gx := gx.symm
          replace gy := gy.symm
          clear HC ex ey
          go_enter Tryz.func195, Tryz.ntmps195
          go_wp2_with fail
          refine (nanf_any _).mono ?_
          rintro e w' ⟨rfl, rfl⟩
          go_wp2_with fail
          go_ret
          exact ⟨by rw [V.out]; rfl, 0, rfl⟩
        | true =>
          cases h5 : eqF (wholeV .zero x) x with
          | false =>
            have V := Lib.hid (show modC x y = 9221120237041090561 from by rw [HC, ex, h1, h2, h5]; rfl)
            have H5 := Lib.hid h5
            rw [h1] at gx
            rw [h3] at gy
            replace gx := gx.symm
            replace gy := gy.symm
            clear HC ex ey h5
            go_enter Tryz.func195, Tryz.ntmps195
            go_wp2_with fail
            refine (trunc_any _ _).mono ?_
            rintro e w' ⟨r, rfl, hr, m, rfl⟩
            have t1 := ((eqF_whole hr).2).trans H5.out
            clear hr
            go_wp2_with fail
            refine (nanf_any _).mono ?_
            rintro e w' ⟨rfl, rfl⟩
            go_wp2_with fail
            go_ret
            exact ⟨by rw [V.out]; rfl, _, rfl⟩
          | true =>
            cases h6 : eqF (wholeV .zero y) y with
            | false =>
              have V := Lib.hid (show modC x y = 9221120237041090561 from by rw [HC, ey, h3, h4, h6]; cases wholeB x 0 <;> rfl)
              have H5 := Lib.hid h5
              have H6 := Lib.hid h6
              rw [h1] at gx
              rw [h3] at gy
              replace gx := gx.symm
              replace gy := gy.symm
              clear HC ex ey h5 h6
              go_enter Tryz.func195, Tryz.ntmps195
              go_wp2_with fail
              refine (trunc_any _ _).mono ?_
              rintro e w' ⟨r, rfl, hr, m, rfl⟩
              have t1 := ((eqF_whole hr).2).trans H5.out
              clear hr
              go_wp2_with fail
              refine (trunc_any _ _).mono ?_
              rintro e w' ⟨r2, rfl, hr, m2, rfl⟩
              have t2 := ((eqF_whole hr).2).trans H6.out
              clear hr
              go_wp2_with fail
              refine (nanf_any _).mono ?_
              rintro e w' ⟨rfl, rfl⟩
              go_wp2_with fail
              go_ret
              exact ⟨by rw [V.out]; rfl, _, rfl⟩
            | true =>
              have w1 : wholeB x 0 = true := by rw [ex, h1, h2, h5]; rfl
              have w2 : wholeB y oneW = true := by rw [ey, h3, h4, h6]; rfl
              have V := Lib.hid (show modC x y = floatOfInt .f64 ((wholeN x : Int) % (wholeN y : Int)) from by rw [HC, w1, w2]; simp only [if_true])
              obtain ⟨a1, a2, a3, a4, a5⟩ := whole_facts w1 (by decide) (by decide)
              obtain ⟨b1, b2, b3, b4, b5⟩ := whole_facts w2 one_facts.1 (by rw [one_facts.2]; decide)
              have b6 := wholeN_one w2
              have cx : ∀ w, (convert 61 3 (.float .f64 x)).run Tryz.prog w = .ok (.int .i64 (wholeN x : Nat)) w := fun w => run_convert_float_int w _ _ _ _ _ _ (by rw [Tryz.underlying61]; rfl) Tryz.underlying3 a4
              have cy : ∀ w, (convert 61 3 (.float .f64 y)).run Tryz.prog w = .ok (.int .i64 (wholeN y : Nat)) w := fun w => run_convert_float_int w _ _ _ _ _ _ (by rw [Tryz.underlying61]; rfl) Tryz.underlying3 b4
              have H5 := Lib.hid h5
              have H6 := Lib.hid h6
              rw [h1] at gx
              rw [h3] at gy
              replace gx := gx.symm
              replace gy := gy.symm
              clear a1 a2 a3 a4 b1 b2 b3 b4 HC ex ey h5 h6 w1 w2
              generalize wholeN x = X at a5 cx V
              generalize wholeN y = Y at b5 b6 cy V
              have hy : ¬ (Y : Int) = 0 := by omega
              go_enter Tryz.func195, Tryz.ntmps195
              go_wp2_with fail
              refine (trunc_any _ _).mono ?_
              rintro e w' ⟨r, rfl, hr, m, rfl⟩
              have t1 := ((eqF_whole hr).2).trans H5.out
              clear hr
              go_wp2_with fail
              refine (trunc_any _ _).mono ?_
              rintro e w' ⟨r2, rfl, hr, m2, rfl⟩
              have t2 := ((eqF_whole hr).2).trans H6.out
              clear hr
              go_wp2_with fail
              go_ret
              exact ⟨by rw [V.out]; rfl, _, rfl⟩

end Go.Proofs.YtgeapkalabijmaaGreat

/- Two: both say alike. -/
namespace Go.Proofs.YtgeapkalabijmaaGreat
open Go Go.RowKit
set_option maxRecDepth 100000
set_option maxHeartbeats 1000000
set_option linter.unusedVariables false
set_option linter.unusedSimpArgs false

theorem wholeB_nan {x lo : Nat} (h : isNaN x = true) : wholeB x lo = false := by
  unfold wholeB
  rw [ltF_nan_left h]
  simp
theorem modC_fixed (x y : Nat) : modC (fixB x) (fixB y) = modC x y := by
  unfold modC
  cases hx : isNaN x with
  | true =>
    have hx' : isNaN (fixB x) = true := by rw [isNaN_fix]; exact hx
    rw [wholeB_nan hx, wholeB_nan hx']
    simp only [Bool.false_eq_true, if_false]
  | false =>
    rw [fixB_num hx]
    cases hy : isNaN y with
    | true =>
      have hy' : isNaN (fixB y) = true := by rw [isNaN_fix]; exact hy
      rw [wholeB_nan hy, wholeB_nan hy']
      simp only [Bool.false_eq_true, if_false]
    | false => rw [fixB_num hy]

set_option maxHeartbeats 1000000 in
theorem two_5 (x y : Nat) (w : World) : Calls Tryz.prog 177 #[.int .i64 5, fl x, fl y] w fun e w' => e = .returned (.tuple #[fl (fixB (modC (fixB x) (fixB y))), .int .i64 0]) ∧ Chg w w' Nothing := by
  have hc : (w.alloc (.cells twosT 183)).cell? ⟨w.heap.size, 5, none⟩ = some (.func (.func 195) #[] #[]) := twos_cell w 5
  go_enter Tryz.func177, Tryz.ntmps177
  go_wp2_with fail
  refine (twos_any _).mono ?_
  rintro e w' ⟨rfl, rfl⟩
  go_wp2_with fail
  go_region_law (first | (go_simp; go_at_call 115; refine (fix_any _ _).mono ?_; rintro e w' ⟨rfl, rfl⟩) | (go_simp; go_at_call 195; refine (mod_any _ _ _).mono ?_; rintro e w' ⟨rfl, m, rfl⟩))
  all_goals
    go_wp2_with fail
    go_ret2
    exact ⟨rfl, ((Chg.refl _ _).alloc _).drewN _⟩
/-- What Two makes of two numbers. -/
def twoV (op : Int) (x y : Nat) : Nat :=
  if op = 1 then arV .add x y else if op = 2 then arV .sub x y else if op = 3 then arV .mul x y else if op = 4 then arV .quo x y else if op = 5 then fixB (modV x y) else if op = 6 then fixB (firstW x y 1) else if op = 7 then fixB (firstW x y (-1)) else if op = 8 then fixB (yesW (ltF x y)) else if op = 9 then fixB (yesW (ltF x y || eqF x y)) else if op = 10 then fixB (yesW (eqF x y)) else if op = 11 then fixB (yesW ((fixB x : Int) == (fixB y : Int))) else if op = 12 then fixB (yesW (decide (cmpR x y < 0))) else 0
def twoE (op : Int) : Int := if 1 ≤ op ∧ op ≤ 12 then 0 else 1
theorem twoV_1 (x y : Nat) : twoV 1 x y = arV .add x y := by unfold twoV; rw [if_pos rfl]
theorem twoE_1 : twoE 1 = 0 := by unfold twoE; rw [if_pos (by decide)]
theorem twoV_2 (x y : Nat) : twoV 2 x y = arV .sub x y := by unfold twoV; rw [if_neg (by decide), if_pos rfl]
theorem twoE_2 : twoE 2 = 0 := by unfold twoE; rw [if_pos (by decide)]
theorem twoV_3 (x y : Nat) : twoV 3 x y = arV .mul x y := by unfold twoV; rw [if_neg (by decide), if_neg (by decide), if_pos rfl]
theorem twoE_3 : twoE 3 = 0 := by unfold twoE; rw [if_pos (by decide)]
theorem twoV_4 (x y : Nat) : twoV 4 x y = arV .quo x y := by unfold twoV; rw [if_neg (by decide), if_neg (by decide), if_neg (by decide), if_pos rfl]
theorem twoE_4 : twoE 4 = 0 := by unfold twoE; rw [if_pos (by decide)]
theorem twoV_5 (x y : Nat) : twoV 5 x y = fixB (modV x y) := by unfold twoV; rw [if_neg (by decide), if_neg (by decide), if_neg (by decide), if_neg (by decide), if_pos rfl]
theorem twoE_5 : twoE 5 = 0 := by unfold twoE; rw [if_pos (by decide)]
theorem twoV_6 (x y : Nat) : twoV 6 x y = fixB (firstW x y 1) := by unfold twoV; rw [if_neg (by decide), if_neg (by decide), if_neg (by decide), if_neg (by decide), if_neg (by decide), if_pos rfl]
theorem twoE_6 : twoE 6 = 0 := by unfold twoE; rw [if_pos (by decide)]
theorem twoV_7 (x y : Nat) : twoV 7 x y = fixB (firstW x y (-1)) := by unfold twoV; rw [if_neg (by decide), if_neg (by decide), if_neg (by decide), if_neg (by decide), if_neg (by decide), if_neg (by decide), if_pos rfl]
theorem twoE_7 : twoE 7 = 0 := by unfold twoE; rw [if_pos (by decide)]
theorem twoV_8 (x y : Nat) : twoV 8 x y = fixB (yesW (ltF x y)) := by unfold twoV; rw [if_neg (by decide), if_neg (by decide), if_neg (by decide), if_neg (by decide), if_neg (by decide), if_neg (by decide), if_neg (by decide), if_pos rfl]
theorem twoE_8 : twoE 8 = 0 := by unfold twoE; rw [if_pos (by decide)]
theorem twoV_9 (x y : Nat) : twoV 9 x y = fixB (yesW (ltF x y || eqF x y)) := by unfold twoV; rw [if_neg (by decide), if_neg (by decide), if_neg (by decide), if_neg (by decide), if_neg (by decide), if_neg (by decide), if_neg (by decide), if_neg (by decide), if_pos rfl]
theorem twoE_9 : twoE 9 = 0 := by unfold twoE; rw [if_pos (by decide)]
theorem twoV_10 (x y : Nat) : twoV 10 x y = fixB (yesW (eqF x y)) := by unfold twoV; rw [if_neg (by decide), if_neg (by decide), if_neg (by decide), if_neg (by decide), if_neg (by decide), if_neg (by decide), if_neg (by decide), if_neg (by decide), if_neg (by decide), if_pos rfl]
theorem twoE_10 : twoE 10 = 0 := by unfold twoE; rw [if_pos (by decide)]
theorem twoV_11 (x y : Nat) : twoV 11 x y = fixB (yesW ((fixB x : Int) == (fixB y : Int))) := by unfold twoV; rw [if_neg (by decide), if_neg (by decide), if_neg (by decide), if_neg (by decide), if_neg (by decide), if_neg (by decide), if_neg (by decide), if_neg (by decide), if_neg (by decide), if_neg (by decide), if_pos rfl]
theorem twoE_11 : twoE 11 = 0 := by unfold twoE; rw [if_pos (by decide)]
theorem twoV_12 (x y : Nat) : twoV 12 x y = fixB (yesW (decide (cmpR x y < 0))) := by unfold twoV; rw [if_neg (by decide), if_neg (by decide), if_neg (by decide), if_neg (by decide), if_neg (by decide), if_neg (by decide), if_neg (by decide), if_neg (by decide), if_neg (by decide), if_neg (by decide), if_neg (by decide), if_pos rfl]
theorem twoE_12 : twoE 12 = 0 := by unfold twoE; rw [if_pos (by decide)]

theorem cmpC_neg_fix {x y : Nat} (hx : x < 18446744073709551616) (hy : y < 18446744073709551616) : decide (cmpC (fixB x) (fixB y) < 0) = decide (cmpR x y < 0) := by rw [cmpC_fix, cmp_two hx hy]
theorem twoE_bad {op : Int} (hb : op < 1 ∨ 12 < op) : twoE op = 1 := by unfold twoE; rw [if_neg (by omega)]
theorem twoV_bad {op : Int} (hb : op < 1 ∨ 12 < op) (x y : Nat) : twoV op x y = 0 := by
  unfold twoV
  rw [if_neg (by omega), if_neg (by omega), if_neg (by omega), if_neg (by omega), if_neg (by omega), if_neg (by omega), if_neg (by omega), if_neg (by omega), if_neg (by omega), if_neg (by omega), if_neg (by omega), if_neg (by omega)]

theorem two_any (op : Int) (x y : Nat) (w : World) (hx : x < 18446744073709551616) (hy : y < 18446744073709551616) : Calls Tryz.prog 177 #[.int .i64 op, fl x, fl y] w fun e w' => e = .returned (.tuple #[fl (twoV op x y), .int .i64 (twoE op)]) ∧ Chg w w' Nothing := by
  by_cases hb : op < 1 ∨ 12 < op
  · rw [twoE_bad hb, twoV_bad hb]
    exact two_bad op x y w hb
  · have hlo : 1 ≤ op := by omega
    have hhi : op ≤ 12 := by omega
    clear hb
    have : (op = 1 ∨ op = 2 ∨ op = 3) ∨ (op = 4 ∨ op = 5 ∨ op = 6) ∨ (op = 7 ∨ op = 8 ∨ op = 9) ∨ (op = 10 ∨ op = 11 ∨ op = 12) := by
      rcases (show op < 4 ∨ (4 ≤ op ∧ op < 7) ∨ (7 ≤ op ∧ op < 10) ∨ 10 ≤ op by omega) with h | ⟨h, h'⟩ | ⟨h, h'⟩ | h
      · exact .inl (by omega)
      · exact .inr (.inl (by omega))
      · exact .inr (.inr (.inl (by omega)))
      · exact .inr (.inr (.inr (by omega)))
    clear hlo hhi
    rcases this with (rfl | rfl | rfl) | (rfl | rfl | rfl) | (rfl | rfl | rfl) | (rfl | rfl | rfl)
    · rw [twoV_1, twoE_1]
      refine (two_1 x y w).mono fun e w' ⟨he, hc⟩ => ⟨?_, hc⟩
      rw [he, arV_fix (by simp)]
    · rw [twoV_2, twoE_2]
      refine (two_2 x y w).mono fun e w' ⟨he, hc⟩ => ⟨?_, hc⟩
      rw [he, arV_fix (by simp)]
    · rw [twoV_3, twoE_3]
      refine (two_3 x y w).mono fun e w' ⟨he, hc⟩ => ⟨?_, hc⟩
      rw [he, arV_fix (by simp)]
    · rw [twoV_4, twoE_4]
      refine (two_4 x y w).mono fun e w' ⟨he, hc⟩ => ⟨?_, hc⟩
      rw [he, arV_fix (by simp)]
    · rw [twoV_5, twoE_5]
      refine (two_5 x y w).mono fun e w' ⟨he, hc⟩ => ⟨?_, hc⟩
      rw [he, modC_fixed, modC_fix]
    · rw [twoV_6, twoE_6]
      refine (two_6 x y w).mono fun e w' ⟨he, hc⟩ => ⟨?_, hc⟩
      rw [he, least_two hx hy]
    · rw [twoV_7, twoE_7]
      refine (two_7 x y w).mono fun e w' ⟨he, hc⟩ => ⟨?_, hc⟩
      rw [he, greatest_two hx hy]
    · rw [twoV_8, twoE_8]
      refine (two_8 x y w).mono fun e w' ⟨he, hc⟩ => ⟨?_, hc⟩
      rw [he, ltF_fix]
    · rw [twoV_9, twoE_9]
      refine (two_9 x y w).mono fun e w' ⟨he, hc⟩ => ⟨?_, hc⟩
      rw [he, ltF_fix, eqF_fix]
    · rw [twoV_10, twoE_10]
      refine (two_10 x y w).mono fun e w' ⟨he, hc⟩ => ⟨?_, hc⟩
      rw [he, eqF_fix]
    · rw [twoV_11, twoE_11]
      refine (two_11 x y w).mono fun e w' ⟨he, hc⟩ => ⟨?_, hc⟩
      rw [he, fixB_fix, fixB_fix]
    · rw [twoV_12, twoE_12]
      refine (two_12 x y w).mono fun e w' ⟨he, hc⟩ => ⟨?_, hc⟩
      rw [he, cmpC_neg_fix hx hy]
end Go.Proofs.YtgeapkalabijmaaGreat

/- Layer 1's small helpers, and the laws that compare with the document's answer. -/
namespace Go.Proofs.YtgeapkalabijmaaGreat
open Go Go.RowKit
set_option maxRecDepth 100000
set_option maxHeartbeats 1000000
set_option linter.unusedVariables false
set_option linter.unusedSimpArgs false

theorem nn {k : Nat} {w : World} : ∀ j, j < w.heap.size → Nothing j → Nothing j := fun _ _ h => h
theorem Chg.then {w w1 w2 : World} (h : Chg w w1 Nothing) (h' : Chg w1 w2 Nothing) : Chg w w2 Nothing := h.trans h' (fun _ _ h => h)

theorem live_add : twoV 1 4607182418800017408 4611686018427387904 = 4613937818241073152 := by rw [twoV_1]; decide +kernel
theorem live_neg : oneV 1 0 = 9223372036854775808 := by rw [oneV_1]; decide +kernel
theorem live_bad : oneE 0 = 1 := by decide
theorem live_eq : eqF 4613937818241073152 4613937818241073152 = true := by decide
end Go.Proofs.YtgeapkalabijmaaGreat

/- Index: the walks. -/
namespace Go.Proofs.YtgeapkalabijmaaGreat
open Go Go.RowKit
set_option maxRecDepth 100000
set_option maxHeartbeats 1000000
set_option linter.unusedVariables false
set_option linter.unusedSimpArgs false

/-- Is it a whole number from 0 on, below 2^63? -/
def idxB (x : Nat) : Bool := geW x 0 && (ltF x 4890909195324358656 && eqF (wholeV .zero x) x)
def idxI (x : Nat) (n : Int) : Int := if idxB x && decide ((wholeN x : Int) < n) then (wholeN x : Int) else 0
def idxE (x : Nat) (n : Int) : Int := if idxB x && decide ((wholeN x : Int) < n) then 0 else 10
theorem geW_num {x lo : Nat} (h : geW x lo = true) : isNaN x = false := by
  unfold geW at h
  simp only [Bool.or_eq_true] at h
  rcases h with h1 | h1
  · unfold ltF at h1; simp only [Bool.and_eq_true, Bool.not_eq_true'] at h1; exact h1.1.2
  · unfold eqF at h1; simp only [Bool.and_eq_true, Bool.not_eq_true'] at h1; exact h1.1.1
theorem geW_sk {x lo : Nat} (hlo : isNaN lo = false) (h : geW x lo = true) : sk lo ≤ sk x := by
  have hn := geW_num h
  unfold geW at h
  simp only [Bool.or_eq_true] at h
  rcases h with h1 | h1
  · have := (ltF_iff hlo hn).1 h1; omega
  · have := (eqF_iff hn hlo).1 h1; omega
theorem idx_down {x : Nat} : idxB x = (geW x 0 && (ltF x 4890909195324358656 && eqF x (wholeV .down x))) := by
  unfold idxB
  cases h1 : geW x 0 with
  | false => rfl
  | true =>
    have hn := geW_num h1
    have h0 := geW_sk (lo := 0) (by decide) h1
    rw [whole_way hn (by have : sk 0 = 0 := by decide
                         omega)]
    have hc : eqF x (wholeV .down x) = eqF (wholeV .down x) x := by
      unfold eqF
      rw [Bool.and_comm (!isNaN x)]
      congr 1
      exact decide_eq_decide.2 ⟨fun h => h.symm, fun h => h.symm⟩
    rw [hc]
/-- A number from 0 on and below 2^63, as an int. -/
theorem to_int {x : Nat} (h1 : geW x 0 = true) (h2 : ltF x 4890909195324358656 = true) : floatToIntVal .f64 x .i64 = some (wholeN x : Int) ∧ wholeN x < 9223372036854775808 := by
  have hn := geW_num h1
  have k1 := geW_sk (lo := 0) (by decide) h1
  have k2 : sk x < sk 4890909195324358656 := (ltF_iff hn (by decide)).1 h2
  have hk : sk 4890909195324358656 = 4890909195324358656 := by decide
  have hk0 : sk 0 = 0 := by decide
  rw [hk] at k2
  rw [hk0] at k1
  have hr : rungB x < 4890909195324358656 := by
    have e : sk x = if negB x then -(rungB x : Int) else (rungB x : Int) := rfl
    cases hneg : negB x with
    | true => rw [hneg, if_pos rfl] at e; omega
    | false => rw [hneg, if_neg (by decide)] at e; omega
  have hw := wholeN_lt hr _ units_63
  refine ⟨?_, hw⟩
  unfold floatToIntVal
  have ht := toInt_zero (b := x) (by omega)
  have hd : FloatKind.f64.decode x = f64.read x := rfl
  rw [hd, ht]
  have hv : (if negB x = true then -(wholeN x : Int) else (wholeN x : Int)) = wholeN x := by
    cases hneg : negB x with
    | true =>
      have : rungB x = 0 := by
        have e : sk x = if negB x then -(rungB x : Int) else (rungB x : Int) := rfl
        rw [hneg, if_pos rfl] at e; omega
      have hz : wholeN x = 0 := by unfold wholeN; rw [this, units_zero, Nat.zero_div]
      rw [hz]; rfl
    | false => rfl
  rw [hv]
  have m1 : IntKind.i64.min = -9223372036854775808 := by decide
  have m2 : IntKind.i64.max = 9223372036854775807 := by decide
  simp only [m1, m2]
  rw [if_pos (by omega)]


theorem index_any (x : Nat) (n : Int) (w : World) : Calls Tryz.prog 178 #[fl x, .int .i64 n] w fun e w' => e = .returned (.tuple #[.int .i64 (idxI x n), .int .i64 (idxE x n)]) ∧ ∃ m, w' = w.drewN m := by
  have HI : idxI x n = if idxB x && decide ((wholeN x : Int) < n) then (wholeN x : Int) else 0 := rfl
  have HE : idxE x n = if idxB x && decide ((wholeN x : Int) < n) then 0 else 10 := rfl
  have gx : geW x 0 = (ltF 0 x || eqF x 0) := rfl
  have ex : idxB x = (geW x 0 && (ltF x 4890909195324358656 && eqF (wholeV .zero x) x)) := rfl
  cases h1 : geW x 0 with
  | false =>
    rw [ex, h1] at HI HE
    have V := Lib.hid (show idxI x n = 0 from HI)
    have U := Lib.hid (show idxE x n = 10 from HE)
    rw [h1] at gx
    replace gx := gx.symm
    clear HI HE ex h1
    go_enter Tryz.func178, Tryz.ntmps178
    go_wp2_with fail
    go_wp2_with fail
    go_ret2
    exact ⟨by rw [V.out, U.out]; rfl, 0, rfl⟩
  | true =>
    cases h2 : ltF x 4890909195324358656 with
    | false =>
      rw [ex, h1, h2] at HI HE
      have V := Lib.hid (show idxI x n = 0 from HI)
      have U := Lib.hid (show idxE x n = 10 from HE)
      rw [h1] at gx
      replace gx := gx.symm
      clear HI HE ex h1
      go_enter Tryz.func178, Tryz.ntmps178
      go_wp2_with fail
      go_wp2_with fail
      go_ret2
      exact ⟨by rw [V.out, U.out]; rfl, 0, rfl⟩
    | true =>
      cases h3 : eqF (wholeV .zero x) x with
      | false =>
        rw [ex, h1, h2, h3] at HI HE
        have V := Lib.hid (show idxI x n = 0 from HI)
        have U := Lib.hid (show idxE x n = 10 from HE)
        have H3 := Lib.hid h3
        rw [h1] at gx
        replace gx := gx.symm
        clear HI HE ex h1 h3
        go_enter Tryz.func178, Tryz.ntmps178
        go_wp2_with fail
        refine (trunc_any _ _).mono ?_
        rintro e w' ⟨r, rfl, hr, m, rfl⟩
        have t1 := ((eqF_whole hr).2).trans H3.out
        clear hr
        go_wp2_with fail
        go_ret2
        exact ⟨by rw [V.out, U.out]; rfl, _, rfl⟩
      | true =>
        obtain ⟨t2, t3⟩ := to_int h1 h2
        have cx : ∀ w, (convert 61 3 (.float .f64 x)).run Tryz.prog w = .ok (.int .i64 (wholeN x : Nat)) w := fun w => run_convert_float_int w _ _ _ _ _ _ (by rw [Tryz.underlying61]; rfl) Tryz.underlying3 t2
        rw [ex, h1, h2, h3] at HI HE
        have H3 := Lib.hid h3
        rw [h1] at gx
        replace gx := gx.symm
        clear ex h1 h3 t2
        generalize wholeN x = X at t3 cx HI HE
        by_cases h4 : (X : Int) < n
        · rw [decide_eq_true h4] at HI HE
          have V := Lib.hid (show idxI x n = X from HI)
          have U := Lib.hid (show idxE x n = 0 from HE)
          have b4 : decide (n ≤ (X : Int)) = false := decide_eq_false (by omega)
          clear HI HE h4
          go_enter Tryz.func178, Tryz.ntmps178
          go_wp2_with fail
          refine (trunc_any _ _).mono ?_
          rintro e w' ⟨r, rfl, hr, m, rfl⟩
          have t1 := ((eqF_whole hr).2).trans H3.out
          clear hr
          go_wp2_with fail
          go_ret2
          exact ⟨by rw [V.out, U.out]; rfl, _, rfl⟩
        · rw [decide_eq_false h4] at HI HE
          have V := Lib.hid (show idxI x n = 0 from HI)
          have U := Lib.hid (show idxE x n = 10 from HE)
          have b4 : decide (n ≤ (X : Int)) = true := decide_eq_true (by omega)
          clear HI HE h4
          go_enter Tryz.func178, Tryz.ntmps178
          go_wp2_with fail
          refine (trunc_any _ _).mono ?_
          rintro e w' ⟨r, rfl, hr, m, rfl⟩
          have t1 := ((eqF_whole hr).2).trans H3.out
          clear hr
          go_wp2_with fail
          go_ret2
          exact ⟨by rw [V.out, U.out]; rfl, _, rfl⟩


end Go.Proofs.YtgeapkalabijmaaGreat
