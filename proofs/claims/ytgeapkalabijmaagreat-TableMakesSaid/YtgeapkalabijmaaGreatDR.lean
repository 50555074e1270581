/- A table's recipes and its Room. Printed by gen/table2.py. -/
import Derived.Test.YtgeapkalabijmaaGreatD4
namespace Go.Proofs.YtgeapkalabijmaaGreat
open Go Go.RowKit
set_option maxRecDepth 100000
set_option maxHeartbeats 1000000
set_option linter.unusedVariables false
set_option linter.unusedSimpArgs false

/-- The parts, and where they lie. -/
def tbRecV : List Value := [.int .i64 1, .func (.func 105) #[] #[], .int .i64 2, .func (.func 106) #[] #[], .int .i64 2, .func (.func 107) #[] #[], .int .i64 1, .func (.func 108) #[] #[], .int .i64 1, .func (.func 109) #[] #[]]
set_option maxRecDepth 100000 in
theorem tbrecipes_any (w : World) : Calls Tryz.prog 57 #[] w fun e w' => e = .returned (.slice (some ⟨w.heap.size, 0, none⟩) 5 5) ∧ Chg w w' Nothing ∧ w'.heap[w.heap.size]? = some (.cells tbRecV.toArray 88 (0, 0)) ∧ w.heap.size < w'.heap.size := by
  go_enter Tryz.func57, Tryz.ntmps57
  go_wp2_with fail
  go_ret
  exact ⟨rfl, (Chg.refl _ _).alloc _, heap_alloc_new w _, by simp⟩

def tbRoom (c : Int) : Int := if c < 11 then 0 else if (c - 8) / 3 ≤ 16 then (c - 8) / 3 else 16
theorem tbroom_any (w : World) (c : Int) (h1 : -9223372036854775808 ≤ c) (h2 : c < 9223372036854775808) :
    Calls Tryz.prog 24 #[.int .i64 c] w fun e w' => e = .returned (.int .i64 (tbRoom c)) ∧ w' = w := by
  by_cases h : c < 11
  · have hd : decide (c < 11) = true := decide_eq_true h
    have hr : tbRoom c = 0 := by unfold tbRoom; rw [if_pos h]
    rw [hr]
    clear hr h1 h2
    go_enter Tryz.func24, Tryz.ntmps24
    go_wp2_with fail
    go_ret
    exact ⟨rfl, rfl⟩
  · have hd : decide (c < 11) = false := decide_eq_false h
    have hw : wrap64 (c - 8) = c - 8 := IntWalk.wrap64_in _ ⟨by omega, by omega⟩
    have hq : wrap64 ((c - 8).tdiv 3) = (c - 8) / 3 := by rw [Int.tdiv_eq_ediv_of_nonneg (by omega)]; exact IntWalk.wrap64_in _ ⟨by omega, by omega⟩
    by_cases h3 : (c - 8) / 3 ≤ 16
    · have hr : tbRoom c = (c - 8) / 3 := by unfold tbRoom; rw [if_neg h, if_pos h3]
      have hm : min ((c - 8) / 3) 16 = (c - 8) / 3 := Int.min_eq_left h3
      rw [hr]
      clear hr h1 h2
      go_enter Tryz.func24, Tryz.ntmps24
      go_wp2_with fail
      go_ret
      exact ⟨rfl, rfl⟩
    · have hr : tbRoom c = 16 := by unfold tbRoom; rw [if_neg h, if_neg h3]
      have hm : min ((c - 8) / 3) 16 = 16 := Int.min_eq_right (by omega)
      rw [hr]
      clear hr h1 h2
      go_enter Tryz.func24, Tryz.ntmps24
      go_wp2_with fail
      go_ret
      exact ⟨rfl, rfl⟩
end Go.Proofs.YtgeapkalabijmaaGreat
