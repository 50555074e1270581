/- An argument of kind uint64, as a whole number. -/
import Derived.Test.YtgeapkalabijmaaGreatK1
namespace Go.Proofs.YtgeapkalabijmaaGreat
open Go Go.RowKit

theorem nat_of_u64 {n : Int} (h : (Lit.int .u64 n).wf = true) : ∃ x : Nat, n = x ∧ x < 18446744073709551616 := by
  have m1 : IntKind.u64.min = 0 := by decide
  have m2 : IntKind.u64.max = 18446744073709551615 := by decide
  simp only [Lit.wf, Bool.and_eq_true, decide_eq_true_eq] at h
  rw [m1, m2] at h
  exact ⟨n.toNat, by omega, by omega⟩
theorem range_of_i64 {n : Int} (h : (Lit.int .i64 n).wf = true) : -9223372036854775808 ≤ n ∧ n ≤ 9223372036854775807 := by
  have m1 : IntKind.i64.min = -9223372036854775808 := by decide
  have m2 : IntKind.i64.max = 9223372036854775807 := by decide
  simp only [Lit.wf, Bool.and_eq_true, decide_eq_true_eq] at h
  rw [m1, m2] at h
  exact h
end Go.Proofs.YtgeapkalabijmaaGreat
