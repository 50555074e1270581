/- The document's Room and Fits of layer 20, and which program is which. Printed by gen/makes.py. -/
import Derived.Test.YtgeapkalabijmaaGreatDU
namespace Go.Proofs.YtgeapkalabijmaaGreat
open Go Go.RowKit
set_option maxRecDepth 100000
set_option maxHeartbeats 1000000
set_option linter.unusedVariables false
set_option linter.unusedSimpArgs false

theorem rroom20_any (w : World) (c : Int) (h1 : -9223372036854775808 ≤ c) (h2 : c < 9223372036854775808) :
    Calls Tryz.prog 7 #[.int .i64 c] w fun e w' => e = .returned (.int .i64 (trRoom c)) ∧ w' = w := by
  by_cases h : c < 7
  · have hd : decide (c < 7) = true := decide_eq_true h
    have hr : trRoom c = 0 := by unfold trRoom; rw [if_pos (by omega)]
    rw [hr]
    clear hr h1 h2
    go_enter Tryz.func7, Tryz.ntmps7
    go_wp2_with fail
    go_ret
    exact ⟨rfl, rfl⟩
  · have hd : decide (c < 7) = false := decide_eq_false h
    have hw : wrap64 (c - 4) = c - 4 := IntWalk.wrap64_in _ ⟨by omega, by omega⟩
    have hq : wrap64 ((c - 4).tdiv 3) = (c - 4) / 3 := by rw [Int.tdiv_eq_ediv_of_nonneg (by omega)]; exact IntWalk.wrap64_in _ ⟨by omega, by omega⟩
    by_cases h3 : 52 ≤ c
    · have hd2 : decide (52 ≤ c) = true := decide_eq_true h3
      have hr : trRoom c = 16 := by unfold trRoom; rw [if_neg (by omega)]; split <;> omega
      rw [hr]
      clear hr h1 h2
      go_enter Tryz.func7, Tryz.ntmps7
      go_wp2_with fail
      go_ret
      exact ⟨rfl, rfl⟩
    · have hd2 : decide (52 ≤ c) = false := decide_eq_false h3
      have hr : trRoom c = (c - 4) / 3 := by unfold trRoom; rw [if_neg (by omega)]; split <;> omega
      rw [hr]
      clear hr h1 h2
      go_enter Tryz.func7, Tryz.ntmps7
      go_wp2_with fail
      go_ret
      exact ⟨rfl, rfl⟩
theorem rfits20_good (w : World) (base cells room : Int) (hroom : trRoom cells = room) (h1 : -9223372036854775808 ≤ cells) (h2 : cells < 9223372036854775808) (h3 : 0 < room) (h4 : 0 ≤ base) (h5 : cells ≤ 256) (h6 : base ≤ 256 - cells) :
    Calls Tryz.prog 9 #[.int .i64 base, .int .i64 cells] w fun e w' => e = .returned (.bool true) ∧ w' = w := by
  have HZ := Lib.hid hroom
  have H1 := Lib.hid (And.intro h1 h2)
  have q0 : decide (0 < room) = true := decide_eq_true h3
  have q1 : decide (0 ≤ base) = true := decide_eq_true h4
  have q2 : decide (cells ≤ 256) = true := decide_eq_true h5
  have q3 : decide (base ≤ 256 - cells) = true := decide_eq_true h6
  have q9 : wrap64 (256 - cells) = 256 - cells := IntWalk.wrap64_in _ ⟨by omega, by unfold trRoom at hroom; split at hroom <;> omega⟩
  clear hroom h1 h2 h3 h4 h5 h6
  go_enter Tryz.func9, Tryz.ntmps9
  go_wp2_with fail
  refine (rroom20_any _ cells H1.out.1 H1.out.2).mono ?_
  rintro e w1 ⟨he, rfl⟩
  rw [HZ.out] at he
  subst he
  go_wp2_with fail
  go_ret
  exact ⟨rfl, rfl⟩
theorem rfits20_badA (w : World) (base cells room : Int) (hroom : trRoom cells = room) (h1 : -9223372036854775808 ≤ cells) (h2 : cells < 9223372036854775808) (h3 : ¬ 0 < room) :
    Calls Tryz.prog 9 #[.int .i64 base, .int .i64 cells] w fun e w' => e = .returned (.bool false) ∧ w' = w := by
  have HZ := Lib.hid hroom
  have H1 := Lib.hid (And.intro h1 h2)
  have q0 : decide (0 < room) = false := decide_eq_false h3
  clear hroom h1 h2 h3
  go_enter Tryz.func9, Tryz.ntmps9
  go_wp2_with fail
  refine (rroom20_any _ cells H1.out.1 H1.out.2).mono ?_
  rintro e w1 ⟨he, rfl⟩
  rw [HZ.out] at he
  subst he
  go_wp2_with fail
  go_ret
  exact ⟨rfl, rfl⟩
theorem rfits20_badB (w : World) (base cells room : Int) (hroom : trRoom cells = room) (h1 : -9223372036854775808 ≤ cells) (h2 : cells < 9223372036854775808) (h3 : 0 < room) (h4 : ¬ 0 ≤ base) :
    Calls Tryz.prog 9 #[.int .i64 base, .int .i64 cells] w fun e w' => e = .returned (.bool false) ∧ w' = w := by
  have HZ := Lib.hid hroom
  have H1 := Lib.hid (And.intro h1 h2)
  have q0 : decide (0 < room) = true := decide_eq_true h3
  have q1 : decide (0 ≤ base) = false := decide_eq_false h4
  clear hroom h1 h2 h3 h4
  go_enter Tryz.func9, Tryz.ntmps9
  go_wp2_with fail
  refine (rroom20_any _ cells H1.out.1 H1.out.2).mono ?_
  rintro e w1 ⟨he, rfl⟩
  rw [HZ.out] at he
  subst he
  go_wp2_with fail
  go_ret
  exact ⟨rfl, rfl⟩
theorem rfits20_badC (w : World) (base cells room : Int) (hroom : trRoom cells = room) (h1 : -9223372036854775808 ≤ cells) (h2 : cells < 9223372036854775808) (h3 : 0 < room) (h4 : 0 ≤ base) (h5 : ¬ cells ≤ 256) :
    Calls Tryz.prog 9 #[.int .i64 base, .int .i64 cells] w fun e w' => e = .returned (.bool false) ∧ w' = w := by
  have HZ := Lib.hid hroom
  have H1 := Lib.hid (And.intro h1 h2)
  have q0 : decide (0 < room) = true := decide_eq_true h3
  have q1 : decide (0 ≤ base) = true := decide_eq_true h4
  have q2 : decide (cells ≤ 256) = false := decide_eq_false h5
  clear hroom h1 h2 h3 h4 h5
  go_enter Tryz.func9, Tryz.ntmps9
  go_wp2_with fail
  refine (rroom20_any _ cells H1.out.1 H1.out.2).mono ?_
  rintro e w1 ⟨he, rfl⟩
  rw [HZ.out] at he
  subst he
  go_wp2_with fail
  go_ret
  exact ⟨rfl, rfl⟩
theorem rfits20_badD (w : World) (base cells room : Int) (hroom : trRoom cells = room) (h1 : -9223372036854775808 ≤ cells) (h2 : cells < 9223372036854775808) (h3 : 0 < room) (h4 : 0 ≤ base) (h5 : cells ≤ 256) (h6 : ¬ base ≤ 256 - cells) :
    Calls Tryz.prog 9 #[.int .i64 base, .int .i64 cells] w fun e w' => e = .returned (.bool false) ∧ w' = w := by
  have HZ := Lib.hid hroom
  have H1 := Lib.hid (And.intro h1 h2)
  have q0 : decide (0 < room) = true := decide_eq_true h3
  have q1 : decide (0 ≤ base) = true := decide_eq_true h4
  have q2 : decide (cells ≤ 256) = true := decide_eq_true h5
  have q3 : decide (base ≤ 256 - cells) = false := decide_eq_false h6
  have q9 : wrap64 (256 - cells) = 256 - cells := IntWalk.wrap64_in _ ⟨by omega, by unfold trRoom at hroom; split at hroom <;> omega⟩
  clear hroom h1 h2 h3 h4 h5 h6
  go_enter Tryz.func9, Tryz.ntmps9
  go_wp2_with fail
  refine (rroom20_any _ cells H1.out.1 H1.out.2).mono ?_
  rintro e w1 ⟨he, rfl⟩
  rw [HZ.out] at he
  subst he
  go_wp2_with fail
  go_ret
  exact ⟨rfl, rfl⟩
theorem prog20_results {tmps : Array Value} {W : World} {r0 : Nat} {a b : Value} {T : TypeId} {fr : Nat × Nat} (h2 : tmps.getD 4 undef = .pointer (some ⟨r0, 0, none⟩)) (h3 : tmps.getD 5 undef = .bool true) (hb : W.heap[r0]? = some (.cells #[a, b] T fr)) :
    (results Tryz.f11 tmps).run Tryz.prog W = .ok (.tuple #[.agg #[a, b], .bool true]) W := by
  have h2' : tmps[4]?.getD undef = .pointer (some ⟨r0, 0, none⟩) := by simpa using h2
  have h3' : tmps[5]?.getD undef = .bool true := by simpa using h3
  have hl := run_loadVar_row (P := Tryz.prog) W r0 T 26 #[a, b] fr _ hb Tryz.underlying26 rfl (by kernel_rfl)
  have k0 : W.cell? ⟨r0, 0, none⟩ = some a := by rw [blk_cell hb]; rfl
  have k1 : W.cell? ⟨r0, 1, none⟩ = some b := by rw [blk_cell hb]; rfl
  simp [results, Tryz.results11, h2', h3', asAddr, hl, k0, k1, go_sem]
set_option maxRecDepth 100000 in
set_option maxHeartbeats 4000000 in
theorem prog20_1 (w : World) (t0 : Int) (a0 : Option Addr) (l0 c0 : Nat) (t1 : Int) (a1 : Option Addr) (l1 c1 : Nat) (t2 : Int) (a2 : Option Addr) (l2 c2 : Nat) (t3 : Int) (a3 : Option Addr) (l3 c3 : Nat) (t4 : Int) (a4 : Option Addr) (l4 c4 : Nat) (t5 : Int) (a5 : Option Addr) (l5 c5 : Nat) (t6 : Int) (a6 : Option Addr) (l6 c6 : Nat) :
    Calls Tryz.prog 11 #[.agg #[.int .i64 t0, .slice a0 l0 c0, .int .i64 t1, .slice a1 l1 c1, .int .i64 t2, .slice a2 l2 c2, .int .i64 t3, .slice a3 l3 c3, .int .i64 t4, .slice a4 l4 c4, .int .i64 t5, .slice a5 l5 c5, .int .i64 t6, .slice a6 l6 c6], .int .i64 1] w fun e w' => e = .returned (.tuple #[.agg #[.int .i64 t0, .slice a0 l0 c0], .bool true]) ∧ Chg w w' Nothing := by
  go_enter Tryz.func11, Tryz.ntmps11
  go_wp2_with fail
  refine bodyPost_ret (prog20_results rfl rfl (heap_alloc2_new w (.cells #[.int .i64 t0, .slice a0 l0 c0, .int .i64 t1, .slice a1 l1 c1, .int .i64 t2, .slice a2 l2 c2, .int .i64 t3, .slice a3 l3 c3, .int .i64 t4, .slice a4 l4 c4, .int .i64 t5, .slice a5 l5 c5, .int .i64 t6, .slice a6 l6 c6] 28) (.cells #[.int .i64 t0, .slice a0 l0 c0] 26))) rfl ?_
  exact ⟨rfl, ((Chg.refl _ _).alloc _).alloc _⟩
set_option maxRecDepth 100000 in
set_option maxHeartbeats 4000000 in
theorem prog20_2 (w : World) (t0 : Int) (a0 : Option Addr) (l0 c0 : Nat) (t1 : Int) (a1 : Option Addr) (l1 c1 : Nat) (t2 : Int) (a2 : Option Addr) (l2 c2 : Nat) (t3 : Int) (a3 : Option Addr) (l3 c3 : Nat) (t4 : Int) (a4 : Option Addr) (l4 c4 : Nat) (t5 : Int) (a5 : Option Addr) (l5 c5 : Nat) (t6 : Int) (a6 : Option Addr) (l6 c6 : Nat) :
    Calls Tryz.prog 11 #[.agg #[.int .i64 t0, .slice a0 l0 c0, .int .i64 t1, .slice a1 l1 c1, .int .i64 t2, .slice a2 l2 c2, .int .i64 t3, .slice a3 l3 c3, .int .i64 t4, .slice a4 l4 c4, .int .i64 t5, .slice a5 l5 c5, .int .i64 t6, .slice a6 l6 c6], .int .i64 2] w fun e w' => e = .returned (.tuple #[.agg #[.int .i64 t1, .slice a1 l1 c1], .bool true]) ∧ Chg w w' Nothing := by
  go_enter Tryz.func11, Tryz.ntmps11
  go_wp2_with fail
  refine bodyPost_ret (prog20_results rfl rfl (heap_alloc2_new w (.cells #[.int .i64 t0, .slice a0 l0 c0, .int .i64 t1, .slice a1 l1 c1, .int .i64 t2, .slice a2 l2 c2, .int .i64 t3, .slice a3 l3 c3, .int .i64 t4, .slice a4 l4 c4, .int .i64 t5, .slice a5 l5 c5, .int .i64 t6, .slice a6 l6 c6] 28) (.cells #[.int .i64 t1, .slice a1 l1 c1] 26))) rfl ?_
  exact ⟨rfl, ((Chg.refl _ _).alloc _).alloc _⟩
set_option maxRecDepth 100000 in
set_option maxHeartbeats 4000000 in
theorem prog20_3 (w : World) (t0 : Int) (a0 : Option Addr) (l0 c0 : Nat) (t1 : Int) (a1 : Option Addr) (l1 c1 : Nat) (t2 : Int) (a2 : Option Addr) (l2 c2 : Nat) (t3 : Int) (a3 : Option Addr) (l3 c3 : Nat) (t4 : Int) (a4 : Option Addr) (l4 c4 : Nat) (t5 : Int) (a5 : Option Addr) (l5 c5 : Nat) (t6 : Int) (a6 : Option Addr) (l6 c6 : Nat) :
    Calls Tryz.prog 11 #[.agg #[.int .i64 t0, .slice a0 l0 c0, .int .i64 t1, .slice a1 l1 c1, .int .i64 t2, .slice a2 l2 c2, .int .i64 t3, .slice a3 l3 c3, .int .i64 t4, .slice a4 l4 c4, .int .i64 t5, .slice a5 l5 c5, .int .i64 t6, .slice a6 l6 c6], .int .i64 3] w fun e w' => e = .returned (.tuple #[.agg #[.int .i64 t2, .slice a2 l2 c2], .bool true]) ∧ Chg w w' Nothing := by
  go_enter Tryz.func11, Tryz.ntmps11
  go_wp2_with fail
  refine bodyPost_ret (prog20_results rfl rfl (heap_alloc2_new w (.cells #[.int .i64 t0, .slice a0 l0 c0, .int .i64 t1, .slice a1 l1 c1, .int .i64 t2, .slice a2 l2 c2, .int .i64 t3, .slice a3 l3 c3, .int .i64 t4, .slice a4 l4 c4, .int .i64 t5, .slice a5 l5 c5, .int .i64 t6, .slice a6 l6 c6] 28) (.cells #[.int .i64 t2, .slice a2 l2 c2] 26))) rfl ?_
  exact ⟨rfl, ((Chg.refl _ _).alloc _).alloc _⟩
set_option maxRecDepth 100000 in
set_option maxHeartbeats 4000000 in
theorem prog20_4 (w : World) (t0 : Int) (a0 : Option Addr) (l0 c0 : Nat) (t1 : Int) (a1 : Option Addr) (l1 c1 : Nat) (t2 : Int) (a2 : Option Addr) (l2 c2 : Nat) (t3 : Int) (a3 : Option Addr) (l3 c3 : Nat) (t4 : Int) (a4 : Option Addr) (l4 c4 : Nat) (t5 : Int) (a5 : Option Addr) (l5 c5 : Nat) (t6 : Int) (a6 : Option Addr) (l6 c6 : Nat) :
    Calls Tryz.prog 11 #[.agg #[.int .i64 t0, .slice a0 l0 c0, .int .i64 t1, .slice a1 l1 c1, .int .i64 t2, .slice a2 l2 c2, .int .i64 t3, .slice a3 l3 c3, .int .i64 t4, .slice a4 l4 c4, .int .i64 t5, .slice a5 l5 c5, .int .i64 t6, .slice a6 l6 c6], .int .i64 4] w fun e w' => e = .returned (.tuple #[.agg #[.int .i64 t3, .slice a3 l3 c3], .bool true]) ∧ Chg w w' Nothing := by
  go_enter Tryz.func11, Tryz.ntmps11
  go_wp2_with fail
  refine bodyPost_ret (prog20_results rfl rfl (heap_alloc2_new w (.cells #[.int .i64 t0, .slice a0 l0 c0, .int .i64 t1, .slice a1 l1 c1, .int .i64 t2, .slice a2 l2 c2, .int .i64 t3, .slice a3 l3 c3, .int .i64 t4, .slice a4 l4 c4, .int .i64 t5, .slice a5 l5 c5, .int .i64 t6, .slice a6 l6 c6] 28) (.cells #[.int .i64 t3, .slice a3 l3 c3] 26))) rfl ?_
  exact ⟨rfl, ((Chg.refl _ _).alloc _).alloc _⟩
set_option maxRecDepth 100000 in
set_option maxHeartbeats 4000000 in
theorem prog20_5 (w : World) (t0 : Int) (a0 : Option Addr) (l0 c0 : Nat) (t1 : Int) (a1 : Option Addr) (l1 c1 : Nat) (t2 : Int) (a2 : Option Addr) (l2 c2 : Nat) (t3 : Int) (a3 : Option Addr) (l3 c3 : Nat) (t4 : Int) (a4 : Option Addr) (l4 c4 : Nat) (t5 : Int) (a5 : Option Addr) (l5 c5 : Nat) (t6 : Int) (a6 : Option Addr) (l6 c6 : Nat) :
    Calls Tryz.prog 11 #[.agg #[.int .i64 t0, .slice a0 l0 c0, .int .i64 t1, .slice a1 l1 c1, .int .i64 t2, .slice a2 l2 c2, .int .i64 t3, .slice a3 l3 c3, .int .i64 t4, .slice a4 l4 c4, .int .i64 t5, .slice a5 l5 c5, .int .i64 t6, .slice a6 l6 c6], .int .i64 5] w fun e w' => e = .returned (.tuple #[.agg #[.int .i64 t4, .slice a4 l4 c4], .bool true]) ∧ Chg w w' Nothing := by
  go_enter Tryz.func11, Tryz.ntmps11
  go_wp2_with fail
  refine bodyPost_ret (prog20_results rfl rfl (heap_alloc2_new w (.cells #[.int .i64 t0, .slice a0 l0 c0, .int .i64 t1, .slice a1 l1 c1, .int .i64 t2, .slice a2 l2 c2, .int .i64 t3, .slice a3 l3 c3, .int .i64 t4, .slice a4 l4 c4, .int .i64 t5, .slice a5 l5 c5, .int .i64 t6, .slice a6 l6 c6] 28) (.cells #[.int .i64 t4, .slice a4 l4 c4] 26))) rfl ?_
  exact ⟨rfl, ((Chg.refl _ _).alloc _).alloc _⟩
set_option maxRecDepth 100000 in
set_option maxHeartbeats 4000000 in
theorem prog20_6 (w : World) (t0 : Int) (a0 : Option Addr) (l0 c0 : Nat) (t1 : Int) (a1 : Option Addr) (l1 c1 : Nat) (t2 : Int) (a2 : Option Addr) (l2 c2 : Nat) (t3 : Int) (a3 : Option Addr) (l3 c3 : Nat) (t4 : Int) (a4 : Option Addr) (l4 c4 : Nat) (t5 : Int) (a5 : Option Addr) (l5 c5 : Nat) (t6 : Int) (a6 : Option Addr) (l6 c6 : Nat) :
    Calls Tryz.prog 11 #[.agg #[.int .i64 t0, .slice a0 l0 c0, .int .i64 t1, .slice a1 l1 c1, .int .i64 t2, .slice a2 l2 c2, .int .i64 t3, .slice a3 l3 c3, .int .i64 t4, .slice a4 l4 c4, .int .i64 t5, .slice a5 l5 c5, .int .i64 t6, .slice a6 l6 c6], .int .i64 6] w fun e w' => e = .returned (.tuple #[.agg #[.int .i64 t5, .slice a5 l5 c5], .bool true]) ∧ Chg w w' Nothing := by
  go_enter Tryz.func11, Tryz.ntmps11
  go_wp2_with fail
  refine bodyPost_ret (prog20_results rfl rfl (heap_alloc2_new w (.cells #[.int .i64 t0, .slice a0 l0 c0, .int .i64 t1, .slice a1 l1 c1, .int .i64 t2, .slice a2 l2 c2, .int .i64 t3, .slice a3 l3 c3, .int .i64 t4, .slice a4 l4 c4, .int .i64 t5, .slice a5 l5 c5, .int .i64 t6, .slice a6 l6 c6] 28) (.cells #[.int .i64 t5, .slice a5 l5 c5] 26))) rfl ?_
  exact ⟨rfl, ((Chg.refl _ _).alloc _).alloc _⟩
set_option maxRecDepth 100000 in
set_option maxHeartbeats 4000000 in
theorem prog20_7 (w : World) (t0 : Int) (a0 : Option Addr) (l0 c0 : Nat) (t1 : Int) (a1 : Option Addr) (l1 c1 : Nat) (t2 : Int) (a2 : Option Addr) (l2 c2 : Nat) (t3 : Int) (a3 : Option Addr) (l3 c3 : Nat) (t4 : Int) (a4 : Option Addr) (l4 c4 : Nat) (t5 : Int) (a5 : Option Addr) (l5 c5 : Nat) (t6 : Int) (a6 : Option Addr) (l6 c6 : Nat) :
    Calls Tryz.prog 11 #[.agg #[.int .i64 t0, .slice a0 l0 c0, .int .i64 t1, .slice a1 l1 c1, .int .i64 t2, .slice a2 l2 c2, .int .i64 t3, .slice a3 l3 c3, .int .i64 t4, .slice a4 l4 c4, .int .i64 t5, .slice a5 l5 c5, .int .i64 t6, .slice a6 l6 c6], .int .i64 7] w fun e w' => e = .returned (.tuple #[.agg #[.int .i64 t6, .slice a6 l6 c6], .bool true]) ∧ Chg w w' Nothing := by
  go_enter Tryz.func11, Tryz.ntmps11
  go_wp2_with fail
  refine bodyPost_ret (prog20_results rfl rfl (heap_alloc2_new w (.cells #[.int .i64 t0, .slice a0 l0 c0, .int .i64 t1, .slice a1 l1 c1, .int .i64 t2, .slice a2 l2 c2, .int .i64 t3, .slice a3 l3 c3, .int .i64 t4, .slice a4 l4 c4, .int .i64 t5, .slice a5 l5 c5, .int .i64 t6, .slice a6 l6 c6] 28) (.cells #[.int .i64 t6, .slice a6 l6 c6] 26))) rfl ?_
  exact ⟨rfl, ((Chg.refl _ _).alloc _).alloc _⟩
end Go.Proofs.YtgeapkalabijmaaGreat
