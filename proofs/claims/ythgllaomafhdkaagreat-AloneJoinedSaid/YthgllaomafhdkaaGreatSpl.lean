/- Slices that may be written over. -/
import Derived.Test.YthgllaomafhdkaaGreatK1
namespace Go.Proofs.YthgllaomafhdkaaGreat
open Go Go.RowKit
set_option maxRecDepth 100000
set_option maxHeartbeats 1000000
set_option linter.unusedVariables false
set_option linter.unusedSimpArgs false

/-- A slice that may be written over up to its room. -/
def Spl (w : World) (base top size : Nat) (v : Value) : Prop := v = .slice none 0 0 ∨ ∃ g cap cur n T, v = .slice (some ⟨g, 0, none⟩) n cap ∧ base ≤ g ∧ g < top ∧ w.heap[g]? = some (.cells cur T (0, 0)) ∧ cur.size = cap * size ∧ cap ≤ maxLen
theorem Spl.of {w : World} {base : Nat} {e : TypeId} {size : Nat} {v : Value} {n : Nat} {xs : List Value} (h : w.ownsRow base e size v n xs) : Spl w base w.heap.size size v := by
  rcases h.2 with ⟨hv, _⟩ | ⟨g, cap, cur, hv, h1, h2, h3, h4, h5, _⟩
  · exact .inl hv
  · exact .inr ⟨g, cap, cur, n, e, hv, h1, blk_lt h2, h2, h5, h4⟩
theorem Spl.quiet {w w' : World} {base top size : Nat} {v : Value} (h : Spl w base top size v) (hc : Chg w w' Nothing) : Spl w' base top size v := by
  rcases h with h | ⟨g, cap, cur, n, T, h1, h2, h3, h4, h5⟩
  · exact .inl h
  · exact .inr ⟨g, cap, cur, n, T, h1, h2, h3, (hc.block g (blk_lt h4) id).trans h4, h5⟩
theorem Spl.up {w : World} {base base' top top' size : Nat} {v : Value} (h : Spl w base top size v) (hb : base' ≤ base) (ht : top ≤ top') : Spl w base' top' size v := by
  rcases h with h | ⟨g, cap, cur, n, T, h1, h2, h3, h4⟩
  · exact .inl h
  · exact .inr ⟨g, cap, cur, n, T, h1, by omega, by omega, h4⟩
theorem Spl.set {w : World} {base top size : Nat} {v : Value} (h : Spl w base top size v) (g o : Nat) (u : Value) : Spl (w.setCell ⟨g, o, none⟩ u) base top size v := by
  rcases h with h | ⟨g', cap, cur, n, T, h1, h2, h3, h4, h5⟩
  · exact .inl h
  · by_cases e : g = g'
    · subst e
      exact .inr ⟨g, cap, cur.setIfInBounds o u, n, T, h1, h2, h3, blk_set h4 o u, by rw [Array.size_setIfInBounds]; exact h5⟩
    · exact .inr ⟨g', cap, cur, n, T, h1, h2, h3, blk_set_other h4 (Ne.symm e) u, h5⟩
/-- A cell of it. -/
theorem Spl.at_ {w : World} {base top size n c j : Nat} {a : Option Addr} (h : Spl w base top size (.slice a n c)) (hj : j < c * size) : ∃ g u, a = some ⟨g, 0, none⟩ ∧ base ≤ g ∧ g < top ∧ c ≤ maxLen ∧ w.cell? ⟨g, j, none⟩ = some u ∧ w.frozen? ⟨g, j, none⟩ = false := by
  rcases h with h | ⟨g, cap, cur, n', T, h1, h2, h3, h4, h5, h6⟩
  · injection h with _ _ h; subst h; omega
  · injection h1 with e1 e2 e3
    subst e1 e3
    exact ⟨g, cur[j]'(by omega), rfl, h2, h3, h6, by rw [blk_cell h4, Array.getElem?_eq_getElem], blk_free h4 j⟩
theorem Spl.cell {w : World} {base top size n c j g : Nat} (h : Spl w base top size (.slice (some ⟨g, 0, none⟩) n c)) (hj : j < c * size) : ∃ u, w.cell? ⟨g, j, none⟩ = some u ∧ w.frozen? ⟨g, j, none⟩ = false := by
  obtain ⟨g', u, e, _, _, _, h1, h2⟩ := h.at_ hj
  injection e with e
  injection e with e
  subst e
  exact ⟨u, h1, h2⟩
theorem Spl.head {w : World} {base top size n c : Nat} {a : Option Addr} (h : Spl w base top size (.slice a n c)) : (a = none ∧ n = 0 ∧ c = 0) ∨ ∃ g, a = some ⟨g, 0, none⟩ ∧ base ≤ g ∧ g < top ∧ c ≤ maxLen := by
  rcases h with h | ⟨g, cap, cur, n', T, h1, h2, h3, h4, h5, h6⟩
  · injection h with h1 h2 h3; exact .inl ⟨h1, h2, h3⟩
  · injection h1 with e1 e2 e3
    subst e1 e3
    exact .inr ⟨g, rfl, h2, h3, h6⟩
theorem Spl.room {w : World} {base top size : Nat} {v : Value} (h : Spl w base top size v) : ∃ a n c, v = .slice a n c ∧ c ≤ maxLen := by
  rcases h with h | ⟨g, cap, cur, n', T, h1, h2, h3, h4, h5, h6⟩
  · exact ⟨none, 0, 0, h, by decide⟩
  · exact ⟨_, _, _, h1, h6⟩
/-- Five of them; x: the world in which the writing over begins. -/
structure AllS (x wr : World) (base : Nat) (v1 v2 v3 v4 v5 : Value) : Prop where
  s1 : Spl wr base x.heap.size 1 v1
  s2 : Spl wr base x.heap.size 2 v2
  s3 : Spl wr base x.heap.size 2 v3
  s4 : Spl wr base x.heap.size 1 v4
  s5 : Spl wr base x.heap.size 1 v5
  chg : Chg x wr (fun k => base ≤ k)
theorem AllS.set {x wr : World} {base : Nat} {v1 v2 v3 v4 v5 : Value} (h : AllS x wr base v1 v2 v3 v4 v5) (g o : Nat) (u : Value) (hg : base ≤ g) : AllS x (wr.setCell ⟨g, o, none⟩ u) base v1 v2 v3 v4 v5 :=
  ⟨h.s1.set g o u, h.s2.set g o u, h.s3.set g o u, h.s4.set g o u, h.s5.set g o u, h.chg.setCell (a := ⟨g, o, none⟩) (.inr hg) u⟩
theorem AllS.alloc {x wr : World} {base : Nat} {v1 v2 v3 v4 v5 : Value} (h : AllS x wr base v1 v2 v3 v4 v5) (o : Obj) : AllS x (wr.alloc o) base v1 v2 v3 v4 v5 :=
  have hc := (Chg.refl wr Nothing).alloc o
  ⟨h.s1.quiet hc, h.s2.quiet hc, h.s3.quiet hc, h.s4.quiet hc, h.s5.quiet hc, h.chg.alloc o⟩
end Go.Proofs.YthgllaomafhdkaaGreat
