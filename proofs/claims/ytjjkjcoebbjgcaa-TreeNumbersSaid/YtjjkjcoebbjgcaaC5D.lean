/- A program's error: the document's May. -/
import Derived.Test.YtjjkjcoebbjgcaaC5C
namespace Go.Proofs.Ytjjkjcoebbjgcaa
open Go Go.RowKit
set_option maxRecDepth 100000
set_option maxHeartbeats 1000000
set_option linter.unusedVariables false
set_option linter.unusedSimpArgs false

theorem rows_at {k : Nat} (h1 : 1 ≤ k) (h2 : k ≤ 20) : ∃ ws, rowsR[k * 5]? = some (.string ws) ∧ rowsR[k * 5 + 1]? = some (.int .i64 (loOf k)) ∧ rowsR[k * 5 + 2]? = some (.int .i64 (hiOf k)) ∧ rowsR[k * 5 + 3]? = some (.int .i64 (takesOf k)) ∧ rowsR[k * 5 + 4]? = some (.int .i64 (laysOf k)) := by
  have : ∀ (j : Nat), k = j → (j = 1 ∨ j = 2 ∨ j = 3 ∨ j = 4 ∨ j = 5) ∨ (j = 6 ∨ j = 7 ∨ j = 8 ∨ j = 9 ∨ j = 10) ∨ (j = 11 ∨ j = 12 ∨ j = 13 ∨ j = 14 ∨ j = 15) ∨ (j = 16 ∨ j = 17 ∨ j = 18 ∨ j = 19 ∨ j = 20) := by
    rintro j rfl
    have := twenty (op := (k : Int)) (by omega) (by omega)
    rcases this with (h | h | h | h | h) | (h | h | h | h | h) | (h | h | h | h | h) | (h | h | h | h | h)
    · exact .inl (by omega)
    · exact .inl (by omega)
    · exact .inl (by omega)
    · exact .inl (by omega)
    · exact .inl (by omega)
    · exact .inr (.inl (by omega))
    · exact .inr (.inl (by omega))
    · exact .inr (.inl (by omega))
    · exact .inr (.inl (by omega))
    · exact .inr (.inl (by omega))
    · exact .inr (.inr (.inl (by omega)))
    · exact .inr (.inr (.inl (by omega)))
    · exact .inr (.inr (.inl (by omega)))
    · exact .inr (.inr (.inl (by omega)))
    · exact .inr (.inr (.inl (by omega)))
    · exact .inr (.inr (.inr (by omega)))
    · exact .inr (.inr (.inr (by omega)))
    · exact .inr (.inr (.inr (by omega)))
    · exact .inr (.inr (.inr (by omega)))
    · exact .inr (.inr (.inr (by omega)))
  rcases this k rfl with (rfl | rfl | rfl | rfl | rfl) | (rfl | rfl | rfl | rfl | rfl) | (rfl | rfl | rfl | rfl | rfl) | (rfl | rfl | rfl | rfl | rfl)
  · exact ⟨_, rfl, rfl, rfl, rfl, rfl⟩
  · exact ⟨_, rfl, rfl, rfl, rfl, rfl⟩
  · exact ⟨_, rfl, rfl, rfl, rfl, rfl⟩
  · exact ⟨_, rfl, rfl, rfl, rfl, rfl⟩
  · exact ⟨_, rfl, rfl, rfl, rfl, rfl⟩
  · exact ⟨_, rfl, rfl, rfl, rfl, rfl⟩
  · exact ⟨_, rfl, rfl, rfl, rfl, rfl⟩
  · exact ⟨_, rfl, rfl, rfl, rfl, rfl⟩
  · exact ⟨_, rfl, rfl, rfl, rfl, rfl⟩
  · exact ⟨_, rfl, rfl, rfl, rfl, rfl⟩
  · exact ⟨_, rfl, rfl, rfl, rfl, rfl⟩
  · exact ⟨_, rfl, rfl, rfl, rfl, rfl⟩
  · exact ⟨_, rfl, rfl, rfl, rfl, rfl⟩
  · exact ⟨_, rfl, rfl, rfl, rfl, rfl⟩
  · exact ⟨_, rfl, rfl, rfl, rfl, rfl⟩
  · exact ⟨_, rfl, rfl, rfl, rfl, rfl⟩
  · exact ⟨_, rfl, rfl, rfl, rfl, rfl⟩
  · exact ⟨_, rfl, rfl, rfl, rfl, rfl⟩
  · exact ⟨_, rfl, rfl, rfl, rfl, rfl⟩
  · exact ⟨_, rfl, rfl, rfl, rfl, rfl⟩
theorem lo_kinds {op : Int} (h1 : 1 ≤ op) (h2 : op ≤ 20) : (mostOf op = -2 ∧ loOf op = 0 ∧ hiOf op = 0) ∨ (mostOf op = -1 ∧ loOf op = -1) ∨ (0 ≤ mostOf op ∧ (op = 9 ∨ op = 10) ∧ loOf op = 1 ∧ hiOf op = mostOf op) ∨ (0 ≤ mostOf op ∧ op ≠ 9 ∧ op ≠ 10 ∧ loOf op = 0 ∧ hiOf op = mostOf op) := by
  rcases twenty h1 h2 with (rfl | rfl | rfl | rfl | rfl) | (rfl | rfl | rfl | rfl | rfl) | (rfl | rfl | rfl | rfl | rfl) | (rfl | rfl | rfl | rfl | rfl) <;> decide
/-- What the document asks of an instruction's number. -/
def numB (op n len : Int) : Bool := if loOf op < 0 then decide (0 ≤ n) && decide (n < len) else decide (loOf op ≤ n) && decide (n ≤ hiOf op)
theorem mayB_num {op n : Int} {x : Nat} {len : Int} (h1 : 1 ≤ op) (h2 : op ≤ 20) (h3 : (op == 1 || ((fixB x : Int) == 0)) = true) : mayB op n x len = numB op n len := by
  unfold mayB numB
  rw [decide_eq_true h1, decide_eq_true h2, h3, Bool.true_and, Bool.true_and, Bool.true_and]
  rcases lo_kinds h1 h2 with ⟨a, b, c⟩ | ⟨a, b⟩ | ⟨a, b, c, d⟩ | ⟨a, b, c, d, e⟩
  · rw [if_pos (by simpa using a), b, c, if_neg (by decide)]
    by_cases h : n = 0
    · subst h; rfl
    · rw [show (n == 0) = false by simpa using h]
      by_cases h' : 0 ≤ n
      · rw [decide_eq_false (show ¬ n ≤ 0 by omega)]; simp
      · rw [decide_eq_false h']; simp
  · rw [if_neg (by simp; omega), if_pos (by simpa using a), b, if_pos (by decide)]
  · rw [if_neg (by simp; omega), if_neg (by simp; omega), if_pos (by simpa using b), c, d, if_neg (by decide)]
  · rw [if_neg (by simp; omega), if_neg (by simp; omega), if_neg (by simp; exact ⟨b, c⟩), d, e, if_neg (by decide)]

/-- A row of the table in a block of its own. -/
def RowBox (w : World) (n LO HI : Int) (v : Value) (wx : World) : Prop := ∃ r, v = .pointer (some ⟨r, 0, none⟩) ∧ wx.cell? ⟨r, 1, none⟩ = some (.int .i64 LO) ∧ wx.cell? ⟨r, 2, none⟩ = some (.int .i64 HI) ∧ wx.cell? ⟨w.heap.size, 1, none⟩ = some (.int .i64 n) ∧ Chg w wx Nothing


end Go.Proofs.Ytjjkjcoebbjgcaa
