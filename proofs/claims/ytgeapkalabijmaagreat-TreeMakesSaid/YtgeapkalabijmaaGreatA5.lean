/- What is filled in later: the closure's contract. -/
import Derived.Test.YtgeapkalabijmaaGreatA4
namespace Go.Proofs.YtgeapkalabijmaaGreat
open Go Go.RowKit
set_option maxRecDepth 100000
set_option maxHeartbeats 1000000
set_option linter.unusedVariables false
set_option linter.unusedSimpArgs false

theorem cell_other {w : World} {a b : Addr} {v u : Value} (h : w.cell? a = some v) (hne : a.block ≠ b.block) : (w.setCell b u).drew.cell? a = some v :=
  (World.cell?_of_block (w := w) (w' := (w.setCell b u).drew) (Below.heap_setCell _ _ _ _ hne)).trans h
theorem fill_no (mb x y q : Nat) (l : Int) (c : Nat) (w : World) (hl : (Instr.lookup 110 (.map (some mb)) (.int .i64 l) false).run Tryz.prog w = .ok (.slice none 0 c) w) (hx : w.cell? ⟨x, 0, none⟩ = some (.int .i64 l)) :
    Calls Tryz.prog 136 #[.map (some mb), .pointer (some ⟨q, 0, none⟩), .pointer (some ⟨x, 0, none⟩), .pointer (some ⟨y, 0, none⟩)] w fun e w' => e = .returned (.bool false) ∧ w = w' := by
  go_enter Tryz.func136, Tryz.ntmps136
  go_wp2
  go_ret
  exact ⟨rfl, rfl⟩

set_option maxHeartbeats 2000000 in
theorem fill_yes (mb x y q gc n at' ab m c : Nat) (l pl : Int) (u : Value) (w : World) (hl : (Instr.lookup 110 (.map (some mb)) (.int .i64 l) false).run Tryz.prog w = .ok (.slice (some ⟨ab, 0, none⟩) m c) w) (hx : w.cell? ⟨x, 0, none⟩ = some (.int .i64 l))
    (hm : 0 < m) (hp : w.cell? ⟨ab, 0, none⟩ = some (.int .i64 pl)) (hy : w.cell? ⟨y, 0, none⟩ = some (.int .i64 (at' : Int))) (hq : w.cell? ⟨q, 1, none⟩ = some (.slice (some ⟨gc, 0, none⟩) n n)) (hat : at' < n) (hu : w.cell? ⟨gc, at' * 3 + 1, none⟩ = some u) (hf : w.frozen? ⟨gc, at' * 3 + 1, none⟩ = false)
    (d1 : ab ≠ gc) (d2 : y ≠ gc) (d3 : q ≠ gc) :
    Calls Tryz.prog 136 #[.map (some mb), .pointer (some ⟨q, 0, none⟩), .pointer (some ⟨x, 0, none⟩), .pointer (some ⟨y, 0, none⟩)] w fun e w' => e = .returned (.bool true) ∧ ∃ k, w' = (w.setCell ⟨gc, at' * 3 + 1, none⟩ (.int .i64 pl)).drewN k := by
  have hm1 : ((m : Int) == 0) = false := by rw [beq_eq_false_iff_ne]; omega
  have hm2 : (0 : Int) < (m : Int) := by omega
  have ha1 : (0 : Int) ≤ (at' : Int) := by omega
  have ha2 : (at' : Int) < (n : Int) := by omega
  go_enter Tryz.func136, Tryz.ntmps136
  go_wp2_with fail
  go_region_held3 (fun w' => w'.cell? ⟨ab, 0, none⟩ = some (.int .i64 pl) ∧ w'.cell? ⟨y, 0, none⟩ = some (.int .i64 (at' : Int)) ∧ w'.cell? ⟨q, 1, none⟩ = some (.slice (some ⟨gc, 0, none⟩) n n))
    (first
      | (go_split_ands
         refine ⟨cell_other (by assumption) ?_, cell_other (by assumption) ?_, cell_other (by assumption) ?_⟩
         · exact d1
         · exact d2
         · exact d3)
      | go_keep)
    (fail)
  all_goals
    go_wp2_with fail
    go_ret
    exact ⟨rfl, 1, rfl⟩
end Go.Proofs.YtgeapkalabijmaaGreat
