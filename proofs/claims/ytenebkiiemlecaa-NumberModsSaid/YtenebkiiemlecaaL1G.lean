/- NumberMods: the walk. -/
import Derived.Test.YtenebkiiemlecaaL1F
import Derived.Test.YtenebkiiemlecaaU64
namespace Go.Proofs.Ytenebkiiemlecaa
open Go Go.RowKit
set_option linter.unusedVariables false
set_option linter.unusedSimpArgs false

theorem mod_low (a C : Int) (ha : a < 0) (hC : 0 < C) : ∃ X : Nat, -(a + 1).tmod C = (X : Int) ∧ (X : Int) < C := by
  have h1 : -(a + 1).tmod C = (-(a + 1)) % C := by
    rw [← Int.neg_tmod, Int.tmod_eq_emod_of_nonneg (by omega)]
  have h2 := Int.emod_nonneg (-(a + 1)) (show C ≠ 0 by omega)
  have h3 := Int.emod_lt_of_pos (-(a + 1)) hC
  exact ⟨((-(a + 1)) % C).toNat, by rw [h1]; omega, by omega⟩
theorem mod_high (a C : Int) (hC : 0 < C) : ∃ X : Nat, a % C = (X : Int) ∧ (X : Int) < C := by
  have h2 := Int.emod_nonneg a (show C ≠ 0 by omega)
  have h3 := Int.emod_lt_of_pos a hC
  exact ⟨(a % C).toNat, by omega, by omega⟩

theorem mod_cases (a C : Int) (hC : 0 < C) : ∃ X : Nat, (X : Int) < C ∧ ((a < 0 ∧ -(a + 1).tmod C = (X : Int)) ∨ (0 ≤ a ∧ a % C = (X : Int))) := by
  by_cases h : a < 0
  · obtain ⟨X, h1, h2⟩ := mod_low a C h hC
    exact ⟨X, h2, .inl ⟨h, h1⟩⟩
  · obtain ⟨X, h1, h2⟩ := mod_high a C hC
    exact ⟨X, h2, .inr ⟨by omega, h1⟩⟩

/-- What is left of a division of two whole numbers. -/
theorem mod_facts {X Y : Nat} (hX : X < 9007199254740992) (hY : 1 ≤ Y) (hY2 : Y < 9007199254740992) :
    ∃ RX RY R, floatOfInt .f64 (X : Int) = RX ∧ floatOfInt .f64 (Y : Int) = RY ∧ RX < 18446744073709551616 ∧ RY < 18446744073709551616 ∧ twoV 5 RX RY = R ∧ floatOfInt .f64 ((X % Y : Nat) : Int) = R ∧
      (ltF 0 R || eqF R 0) = true ∧ eqF R R = true ∧ floatToIntVal .f64 R .i64 = some ((X % Y : Nat) : Int) := by
  obtain ⟨RX, x1, x2, x3, x4, x5, x6, x7, x8, x9⟩ := int_facts (n := X) (by omega)
  obtain ⟨RY, y1, y2, y3, y4, y5, y6, y7, y8, y9⟩ := int_facts (n := Y) (by omega)
  have hm : X % Y ≤ X := Nat.mod_le _ _
  obtain ⟨R, z1, z2, z3, z4, z5, z6, z7, z8, z9⟩ := int_facts (n := X % Y) (by omega)
  refine ⟨RX, RY, R, x1, y1, by omega, by omega, ?_, z1, z6, eqF_of_num z3, ?_⟩
  · rw [twoV_5]
    unfold modV
    rw [x8 hX, y9 hY hY2, x5, y5]
    simp only [if_true]
    rw [← Int.natCast_emod, z1, z4]
  · have := whole_facts (z8 (by omega)) (by decide) (by decide)
    rw [z5] at this
    exact this.2.2.2.1

set_option maxHeartbeats 1000000 in
set_option maxRecDepth 100000 in
theorem mods_walk (a b : Int) (w : World) (wa : (Lit.int .i64 a).wf = true) (wb : (Lit.int .i64 b).wf = true) : Calls Try.prog 6 #[.int .i64 a, .int .i64 b] w fun e w' => e = .returned (.bool true) ∧ Chg w w' Nothing := by
  obtain ⟨a1, a2⟩ := range_of_i64 wa
  obtain ⟨b1, b2⟩ := range_of_i64 wb
  clear wa wb
  obtain ⟨X, X2, hX⟩ := mod_cases a 9007199254740992 (by decide)
  obtain ⟨Y0, Y2, hY0⟩ := mod_cases b 9007199254740991 (by decide)
  rcases hX with ⟨ha, hX⟩ | ⟨ha, hX⟩ <;> rcases hY0 with ⟨hb, hY0⟩ | ⟨hb, hY0⟩
  all_goals
    obtain ⟨RX, RY, R, f1, f2, f3, f4, f5, f6, f7, f8, f9⟩ := mod_facts (X := X) (Y := Y0 + 1) (by omega) (by omega) (by omega)
    have hlt : X % (Y0 + 1) < Y0 + 1 := Nat.mod_lt _ (by omega)
    have hle : X % (Y0 + 1) ≤ X := Nat.mod_le _ _
    have hz : (((X : Int) - ((X % (Y0 + 1) : Nat) : Int)) % ((Y0 : Int) + 1)) = 0 := by
      have h := Int.emod_add_mul_ediv (X : Int) ((Y0 : Int) + 1)
      have e : ((X % (Y0 + 1) : Nat) : Int) = (X : Int) % ((Y0 : Int) + 1) := by rw [Int.natCast_emod, Int.natCast_add]; rfl
      rw [e]
      have : (X : Int) - (X : Int) % ((Y0 : Int) + 1) = ((Y0 : Int) + 1) * ((X : Int) / ((Y0 : Int) + 1)) := by omega
      rw [this, Int.mul_emod_right]
    have cx : ∀ w, (convert 23 3 (.float .f64 R)).run Try.prog w = .ok (.int .i64 ((X % (Y0 + 1) : Nat) : Int)) w := fun w => run_convert_float_int w _ _ _ _ _ _ (by rw [Try.underlying23]; rfl) Try.underlying3 f9
    have F1 := Lib.hid f1
    have F2 := Lib.hid (show floatOfInt .f64 ((Y0 : Int) + 1) = RY from by rw [← f2, Int.natCast_add]; rfl)
    have F5 := Lib.hid f5
    have F6 := Lib.hid f6
    clear f1 f2 f5 f6 f9
    generalize X % (Y0 + 1) = M at *
    have HW : wrap64 ((X : Int) - (M : Int)) = (X : Int) - M := IntWalk.wrap64_in _ ⟨by omega, by omega⟩
    have HB := Lib.hid (show ((wrap64 ((X : Int) - (M : Int))).tmod ((Y0 : Int) + 1) == 0) = true from by
      rw [HW, Int.tmod_eq_emod_of_nonneg (by omega), hz]; rfl)
    have hy : wrap64 ((Y0 : Int) + 1) = (Y0 : Int) + 1 := IntWalk.wrap64_in _ ⟨by omega, by omega⟩
    clear HW hz hle X2 Y2
    go_enter Try.func6, Try.ntmps6
    go_wp2_with fail
    rw [F1.out, F2.out]
    refine (ltwo_any _ _ _ _ f3 f4).mono ?_
    rintro e w1 ⟨rfl, hc1⟩
    rw [F5.out]
    go_wp2_with fail
    refine (live_any _).mono ?_
    rintro e w2 ⟨rfl, hc2⟩
    have f6 := F6.out
    clear a1 a2 b1 b2 ha hb hX hY0 f3 f4 F1 F2 F5 F6 hy
    go_wp2_with fail
    go_ret
    refine ⟨?_, hc1.then hc2⟩
    show Ending.returned (Value.bool ((wrap64 ((X : Int) - (M : Int))).tmod ((Y0 : Int) + 1) == 0)) = _
    rw [HB.out]
end Go.Proofs.Ytenebkiiemlecaa
