/- Small laws for those that make programs: what a program's value looks like, cells stored one behind the other. -/
import Derived.Test.YtgeapkalabijmaaGreatD0
namespace Go.Proofs.YtgeapkalabijmaaGreat
open Go Go.RowKit
set_option maxRecDepth 100000
set_option maxHeartbeats 1000000
set_option linter.unusedVariables false
set_option linter.unusedSimpArgs false

theorem ProgAt.two {w : World} {b : Nat} {s : Asm} {v : Value} (h : ProgAt w b s v) : ∃ t a l c, v = .agg #[.int .i64 t, .slice a l c] := by
  rcases h with ⟨_, rfl⟩ | ⟨_, _, _, _, _, rfl, _⟩ <;> exact ⟨_, _, _, _, rfl⟩
theorem ProgAt.far {w w' : World} {b : Nat} {s : Asm} {v : Value} {S : Nat → Prop} (h : ProgAt w b s v) (hc : Chg w w' S) (hS : ∀ k, S k → k < b) : ProgAt w' b s v := by
  rcases h with h | ⟨h1, out, gc, h2, h3, h4, h5⟩
  · exact .inl h
  · exact .inr ⟨h1, out, gc, h2, h3, h4, ownsRow_heap h5 (fun k hk => hc.block k (h5.lt k hk).2 (fun h => by have := hS k h; have := (h5.lt k hk).1; omega))⟩
theorem ProgAt.low {w : World} {b c : Nat} {s : Asm} {v : Value} (h : ProgAt w b s v) (hb : c ≤ b) : ProgAt w c s v := by
  rcases h with h | ⟨h1, out, gc, h2, h3, h4, h5⟩
  · exact .inl h
  · exact .inr ⟨h1, out, gc, h2, h3, h4, ownsRow_base h5 hb⟩
/-- A new builder in a new maker. -/
theorem Mk.ofNew {wA w1 : World} {p : Nat} {tag : Int} (b1 : Bd w1 p (Grow Nothing wA w1) ⟨tag, [], [], 0, []⟩) (hp : wA.heap.size ≤ p) (c1 : Chg wA w1 Nothing) (base room : Int) (T : TypeId) :
    Mk Nothing wA (w1.alloc (.cells #[.pointer (some ⟨p, 0, none⟩), .int .i64 base, .int .i64 room] T)) w1.heap.size p base room ⟨tag, [], [], 0, []⟩ 0 := by
  have hb : (w1.alloc (.cells #[.pointer (some ⟨p, 0, none⟩), .int .i64 base, .int .i64 room] T)).heap[w1.heap.size]? = _ := heap_alloc_new w1 _
  refine ⟨⟨_, b1.chg ((Chg.refl w1 Nothing).alloc _) (fun _ _ h => h), ?_, ?_⟩, blk_cell hb 0, blk_cell hb 1, blk_cell hb 2, c1.alloc _, by simp, by simp, by simp⟩
  · intro h; have := b1.lt _ h; omega
  · rintro k (h | h)
    · exact h.elim
    · exact .inr h.1
theorem prog_done {w3 : World} {b c : Nat} {s : Asm} {x y v : Value} {o : Obj} (h : ProgAt w3 b s v) (hc : c < b) : ProgAt (((w3.setCell ⟨c, 0, none⟩ x).setCell ⟨c, 1, none⟩ y).alloc o) c s v :=
  (h.far (S := fun k => k = c) ((((Chg.refl w3 (fun k => k = c)).setCell (a := ⟨c, 0, none⟩) (.inr rfl) x).setCell (a := ⟨c, 1, none⟩) (.inr rfl) y).alloc o) (fun k h => by omega)).low (by omega)
theorem made_done {w wA w3 : World} {o : Obj} {x y : Value} (hc : Chg w wA Nothing) (h3 : Chg wA w3 Nothing) : Chg w (((w3.setCell ⟨w.heap.size, 0, none⟩ x).setCell ⟨w.heap.size, 1, none⟩ y).alloc o) Nothing :=
  ((((hc.trans h3 (fun _ _ h => h)).setCell (a := ⟨w.heap.size, 0, none⟩) (.inl (Nat.le_refl _)) x).setCell (a := ⟨w.heap.size, 1, none⟩) (.inl (Nat.le_refl _)) y).alloc o)
theorem two_done {w : World} {b : Nat} {T : TypeId} {x y u v : Value} {o : Obj} (h : w.heap[b]? = some (.cells #[x, y] T (0, 0))) : (((w.setCell ⟨b, 0, none⟩ u).setCell ⟨b, 1, none⟩ v).alloc o).heap[b]? = some (.cells #[u, v] T (0, 0)) := by
  have h2 := two_set (u := u) (v := v) h
  exact (Below.heap_alloc _ _ _ (Array.getElem?_eq_some_iff.1 h2).1).trans h2
/-- Cells stored one behind the other into a block. -/
def setAll (w : World) (b : Nat) : Nat → List Value → World
  | _, [] => w
  | i, v :: vs => setAll (w.setCell ⟨b, i, none⟩ v) b (i + 1) vs
theorem setAll_chg {S : Nat → Prop} {w0 : World} (b : Nat) (hb : w0.heap.size ≤ b ∨ S b) : ∀ (vs : List Value) (w : World) (i : Nat), Chg w0 w S → Chg w0 (setAll w b i vs) S
  | [], w, i, h => h
  | v :: vs, w, i, h => setAll_chg b hb vs _ (i + 1) (h.setCell (a := ⟨b, i, none⟩) hb v)
theorem setAll_block {b : Nat} {T : TypeId} : ∀ (vs : List Value) (w : World) (done olds : List Value), w.heap[b]? = some (.cells (done ++ olds).toArray T (0, 0)) → olds.length = vs.length → (setAll w b done.length vs).heap[b]? = some (.cells (done ++ vs).toArray T (0, 0))
  | [], w, done, olds, h, hl => by
    obtain rfl : olds = [] := List.eq_nil_of_length_eq_zero hl
    exact h
  | v :: vs, w, done, [], h, hl => by simp at hl
  | v :: vs, w, done, o :: olds, h, hl => by
    have h1 := blk_set h done.length v
    have h2 : ((done ++ o :: olds).toArray).setIfInBounds done.length v = ((done ++ [v]) ++ olds).toArray := by
      simp
    rw [h2] at h1
    have := setAll_block (T := T) vs (w.setCell ⟨b, done.length, none⟩ v) (done ++ [v]) olds h1 (by simpa using hl)
    simpa [setAll] using this

end Go.Proofs.YtgeapkalabijmaaGreat
