/- A deque's Room and Make: what they answer. -/
import Derived.Test.YtgeapkalabijmaaGreatD2
namespace Go.Proofs.YtgeapkalabijmaaGreat
open Go Go.RowKit
set_option maxRecDepth 100000
set_option maxHeartbeats 1000000
set_option linter.unusedVariables false
set_option linter.unusedSimpArgs false

def dqRoom (c : Int) : Int := if c ≤ 2 then 0 else if c - 2 ≤ 16 then c - 2 else 16
theorem dqroom_any (w : World) (c : Int) (h1 : -9223372036854775808 ≤ c) (h2 : c < 9223372036854775808) :
    Calls Tryz.prog 18 #[.int .i64 c] w fun e w' => e = .returned (.int .i64 (dqRoom c)) ∧ w' = w := by
  by_cases h : c ≤ 2
  · have hd : decide (c ≤ 2) = true := decide_eq_true h
    have hr : dqRoom c = 0 := by unfold dqRoom; rw [if_pos h]
    rw [hr]
    clear hr h1 h2
    go_enter Tryz.func18, Tryz.ntmps18
    go_wp2_with fail
    go_ret
    exact ⟨rfl, rfl⟩
  · have hd : decide (c ≤ 2) = false := decide_eq_false h
    have hw : wrap64 (c - 2) = c - 2 := IntWalk.wrap64_in _ ⟨by omega, by omega⟩
    by_cases h3 : c - 2 ≤ 16
    · have hr : dqRoom c = c - 2 := by unfold dqRoom; rw [if_neg h, if_pos h3]
      have hm : min (c - 2) 16 = c - 2 := Int.min_eq_left h3
      rw [hr]
      clear hr h1 h2
      go_enter Tryz.func18, Tryz.ntmps18
      go_wp2_with fail
      go_ret
      exact ⟨rfl, rfl⟩
    · have hr : dqRoom c = 16 := by unfold dqRoom; rw [if_neg h, if_neg h3]
      have hm : min (c - 2) 16 = 16 := Int.min_eq_right (by omega)
      rw [hr]
      clear hr h1 h2
      go_enter Tryz.func18, Tryz.ntmps18
      go_wp2_with fail
      go_ret
      exact ⟨rfl, rfl⟩
theorem dqpush_lit (w : World) (k : Fn) (v : Value) (hv : v = .func k #[] #[]) :
    Calls Tryz.prog 46 #[v] w fun e w' => e = .returned (.func (.func 93) #[] #[.pointer (some ⟨w.heap.size, 0, none⟩)]) ∧ w' = w.alloc (.cells #[v] 76) := by
  subst hv
  have hmf : ∀ (fn : Fn) (first cap : Array Value) (w : World), (Instr.makeFunc fn first cap).run Tryz.prog w = .ok (.func fn first cap) w := fun _ _ _ _ => rfl
  go_enter Tryz.func46, Tryz.ntmps46
  go_wp2_with fail
  go_ret
  exact ⟨rfl, rfl⟩
theorem dqpop_lit (w : World) (k : Fn) (v : Value) (hv : v = .func k #[] #[]) :
    Calls Tryz.prog 49 #[v] w fun e w' => e = .returned (.func (.func 103) #[] #[.pointer (some ⟨w.heap.size, 0, none⟩)]) ∧ w' = w.alloc (.cells #[v] 76) := by
  subst hv
  have hmf : ∀ (fn : Fn) (first cap : Array Value) (w : World), (Instr.makeFunc fn first cap).run Tryz.prog w = .ok (.func fn first cap) w := fun _ _ _ _ => rfl
  go_enter Tryz.func49, Tryz.ntmps49
  go_wp2_with fail
  go_ret
  exact ⟨rfl, rfl⟩
end Go.Proofs.YtgeapkalabijmaaGreat
