/- The document's builder: in memory, and its small methods. -/
import Derived.Test.YthgcmafeahlmpaaA2
namespace Go.Proofs.Ythgcmafeahlmpaa
open Go Go.RowKit
set_option linter.unusedVariables false
set_option linter.unusedSimpArgs false

def labV (l : List Int) : List Value := l.map fun k => .int .i64 k
def toV (l : List Bool) : List Value := l.map fun b => .bool b
def mkV (l : List (Int × Nat)) : List Value := l.flatMap fun t => [.int .i64 t.1, .int .i64 (t.2 : Int)]
theorem mkV_len (l : List (Int × Nat)) : (mkV l).length = l.length * 2 := by
  unfold mkV
  induction l with
  | nil => rfl
  | cons t l ih => simp only [List.flatMap_cons, List.length_append, ih, List.length_cons]; simp; omega

/-- A row of the builder's: where it lies bears the tag i. -/
def RowIn (w : World) (T : Nat → Nat) (i : Nat) (e : TypeId) (size : Nat) (v : Value) (n : Nat) (xs : List Value) : Prop :=
  w.ownsRow 0 e size v n xs ∧ ∀ b, v.ownBlock = some b → T b = i
theorem RowIn.move {w w' : World} {T T' : Nat → Nat} {i : Nat} {e : TypeId} {size : Nat} {v : Value} {n : Nat} {xs : List Value} (h : RowIn w T i e size v n xs) (hs : ∀ b, T b = i → w'.heap[b]? = w.heap[b]? ∧ T' b = i) : RowIn w' T' i e size v n xs :=
  ⟨ownsRow_heap h.1 (fun k hk => (hs k (h.2 k hk)).1), fun b hb => (hs b (h.2 b hb)).2⟩

/-- The document's builder at block r; T tells which block is what. -/
structure RbAt (w : World) (r : Nat) (T : Nat → Nat) (tag : Int) (cs : List Ins) (ls : List Int) (ts : List Bool) (many : Nat) (ms : List (Int × Nat)) (a1 : Option Addr) (c1 : Nat) (a2 : Option Addr) (c2 : Nat) (a3 : Option Addr) (c3 : Nat) (a4 : Option Addr) (c4 : Nat) : Prop where
  blk : w.heap[r]? = some (.cells #[.int .i64 tag, .slice a1 cs.length c1, .slice a2 ls.length c2, .slice a3 ts.length c3, .int .i64 (many : Int), .slice a4 ms.length c4] 60 (0, 0))
  tr : T r = 1
  code : RowIn w T 2 42 3 (.slice a1 cs.length c1) cs.length (insV cs)
  labels : RowIn w T 3 3 1 (.slice a2 ls.length c2) ls.length (labV ls)
  tos : RowIn w T 4 4 1 (.slice a3 ts.length c3) ts.length (toV ts)
  marks : RowIn w T 5 67 2 (.slice a4 ms.length c4) ms.length (mkV ms)
  lt : ∀ k, T k ≠ 0 → k < w.heap.size
  most : many ≤ 256

section
variable {w w1 w2 w' : World} {r : Nat} {T T' : Nat → Nat} {tag : Int} {cs : List Ins} {ls : List Int} {ts : List Bool} {many : Nat} {ms : List (Int × Nat)} {a1 a2 a3 a4 : Option Addr} {c1 c2 c3 c4 : Nat}

theorem RbAt.cells (h : RbAt w r T tag cs ls ts many ms a1 c1 a2 c2 a3 c3 a4 c4) : w.cell? ⟨r, 0, none⟩ = some (.int .i64 tag) ∧ w.cell? ⟨r, 1, none⟩ = some (.slice a1 cs.length c1) ∧ w.cell? ⟨r, 2, none⟩ = some (.slice a2 ls.length c2) ∧ w.cell? ⟨r, 3, none⟩ = some (.slice a3 ts.length c3) ∧ w.cell? ⟨r, 4, none⟩ = some (.int .i64 (many : Int)) ∧ w.cell? ⟨r, 5, none⟩ = some (.slice a4 ms.length c4) :=
  ⟨blk_cell h.blk 0, blk_cell h.blk 1, blk_cell h.blk 2, blk_cell h.blk 3, blk_cell h.blk 4, blk_cell h.blk 5⟩
theorem RbAt.frame (h : RbAt w r T tag cs ls ts many ms a1 c1 a2 c2 a3 c3 a4 c4) (hz : w.heap.size ≤ w'.heap.size) (hs : ∀ b, T b ≠ 0 → w'.heap[b]? = w.heap[b]?) : RbAt w' r T tag cs ls ts many ms a1 c1 a2 c2 a3 c3 a4 c4 :=
  ⟨(hs r (by rw [h.tr]; decide)).trans h.blk, h.tr, h.code.move (fun b hb => ⟨hs b (by omega), hb⟩), h.labels.move (fun b hb => ⟨hs b (by omega), hb⟩), h.tos.move (fun b hb => ⟨hs b (by omega), hb⟩), h.marks.move (fun b hb => ⟨hs b (by omega), hb⟩), fun k hk => Nat.lt_of_lt_of_le (h.lt k hk) hz, h.most⟩

/-- A row of the builder's has grown, and its field is stored. -/
theorem rb_step {v x : Value} {g i j : Nat} (hc : Chg w w1 Nothing) (hg : w1.grownBy w2 v.ownBlock) (hgg : v.ownBlock = some g ∨ w1.heap.size ≤ g) (hgl : g < w2.heap.size) (tv : ∀ b, v.ownBlock = some b → T b = i) (hi : 2 ≤ i) (lt : ∀ k, T k ≠ 0 → k < w.heap.size) (tr : T r = 1) :
    (∀ b, T b ≠ 0 → T b ≠ i → b ≠ r → (w2.setCell ⟨r, j, none⟩ x).heap[b]? = w.heap[b]? ∧ (if b = g then i else T b) = T b) ∧ w2.heap[r]? = w.heap[r]? ∧ g ≠ r ∧ (if r = g then i else T r) = 1 ∧ (∀ k, (if k = g then i else T k) ≠ 0 → k < (w2.setCell ⟨r, j, none⟩ x).heap.size) ∧ Chg w (w2.setCell ⟨r, j, none⟩ x) (fun k => T k ≠ 0) ∧
      (∀ k, (if k = g then i else T k) ≠ 0 → T k ≠ 0 ∨ w.heap.size ≤ k) := by
  have far : ∀ b, T b ≠ 0 → T b ≠ i → w2.heap[b]? = w.heap[b]? ∧ b ≠ g := fun b hb hn => by
    have hl := lt b hb
    have hl1 := hc.size
    refine ⟨(hg.block b (by omega) (fun e => hn (tv b e.symm))).trans (hc.block b hl id), fun e => ?_⟩
    rcases hgg with h | h
    · exact hn (by rw [e]; exact tv g h)
    · omega
  have fr := far r (by rw [tr]; decide) (by rw [tr]; omega)
  have hl1 := hc.size
  have hl2 := hg.size
  refine ⟨fun b hb hn hr => ⟨(Below.heap_setCell _ _ _ _ hr).trans (far b hb hn).1, if_neg (far b hb hn).2⟩, fr.1, Ne.symm fr.2, by rw [if_neg fr.2]; exact tr, fun k hk => ?_, ((hc.mono (S' := fun k => T k ≠ 0) (fun _ _ h => h.elim)).grown hg (fun k hk => .inr (by rw [tv k hk]; omega))).setCell (.inr (by show T r ≠ 0; rw [tr]; decide)) _, fun k hk => ?_⟩
  · have : (w2.setCell ⟨r, j, none⟩ x).heap.size = w2.heap.size := by simp
    rw [this]
    by_cases e : k = g
    · omega
    · rw [if_neg e] at hk
      have := lt k hk
      omega
  · by_cases e : k = g
    · subst e
      rcases hgg with h | h
      · exact .inl (by rw [tv k h]; omega)
      · exact .inr (by omega)
    · rw [if_neg e] at hk
      exact .inl hk
end
end Go.Proofs.Ythgcmafeahlmpaa
