/- A maker of programs (of trees, tables, deques): what holds between two calls on its builder. -/
import Derived.Test.YtgeapkalabijmaaGreatA7
import Derived.Laws.Cover2
namespace Go.Proofs.YtgeapkalabijmaaGreat
open Go Go.RowKit
set_option maxRecDepth 100000
set_option maxHeartbeats 1000000
set_option linter.unusedVariables false
set_option linter.unusedSimpArgs false

def Asm.add (s : Asm) (op n : Int) : Asm := { s with code := s.code ++ [(op, n, 0)], tos := s.tos ++ [none] }
def Asm.push (s : Asm) (x : Nat) : Asm := { s with code := s.code ++ [(1, 0, x)], tos := s.tos ++ [none] }
def Asm.to (s : Asm) (op l : Int) : Asm := { s with code := s.code ++ [(op, 0, 0)], tos := s.tos ++ [some l] }
def Asm.label (s : Asm) : Asm := { s with labels := s.labels + 1 }
def Asm.mark (s : Asm) (k : Int) : Asm := { s with marks := s.marks ++ [(k, s.code.length)] }

/-- A maker at block m whose builder at block p is this one; the builder's blocks lie in G or are newer than w0; nothing else changed since w0. -/
structure Mk (G : Nat → Prop) (w0 w : World) (m p : Nat) (base room : Int) (s : Asm) (n : Nat) : Prop where
  ex : ∃ F, Bd w p F s ∧ ¬ F m ∧ ∀ k, F k → G k ∨ w0.heap.size ≤ k
  c0 : w.cell? ⟨m, 0, none⟩ = some (.pointer (some ⟨p, 0, none⟩))
  c1 : w.cell? ⟨m, 1, none⟩ = some (.int .i64 base)
  c2 : w.cell? ⟨m, 2, none⟩ = some (.int .i64 room)
  old : Chg w0 w G
  l1 : s.code.length ≤ n
  l2 : s.marks.length ≤ n
  l3 : s.labels ≤ n

section
variable {G : Nat → Prop} {w0 w w' : World} {m p : Nat} {base room : Int} {s s' : Asm} {n n' : Nat}
theorem Mk.quiet (h : Mk G w0 w m p base room s n) (hc : Chg w w' Nothing) : Mk G w0 w' m p base room s n := by
  obtain ⟨⟨F, hB, hm, hF⟩, c0, c1, c2, old, l1, l2, l3⟩ := h
  exact ⟨⟨F, hB.chg hc (fun _ _ h => h), hm, hF⟩, hc.cell c0 id, hc.cell c1 id, hc.cell c2 id, old.trans hc (fun _ _ h => h.elim), l1, l2, l3⟩
theorem Mk.boxed (h : Mk G w0 w m p base room s n) (o : Obj) : Mk G w0 (w.alloc o) m p base room s n := h.quiet ((Chg.refl _ _).alloc _)
theorem Mk.next {F : Nat → Prop} (h : Mk G w0 w m p base room s n) (hB : Bd w p F s) (hm : ¬ F m) (hF : ∀ k, F k → G k ∨ w0.heap.size ≤ k) (hb : Bd w' p (Grow F w w') s') (hc : Chg w w' F) (l1 : s'.code.length ≤ n') (l2 : s'.marks.length ≤ n') (l3 : s'.labels ≤ n') :
    Mk G w0 w' m p base room s' n' := by
  obtain ⟨_, c0, c1, c2, old, _, _, _⟩ := h
  have hm' := cell_lt c0
  refine ⟨⟨_, hb, ?_, ?_⟩, hc.cell c0 hm, hc.cell c1 hm, hc.cell c2 hm, old.trans hc (fun k hk h => (hF k h).resolve_right (by omega)), l1, l2, l3⟩
  · rintro (h | h)
    · exact hm h
    · exact absurd hm' (Nat.not_lt.2 h.1)
  · rintro k (h | h)
    · exact hF k h
    · exact .inr (Nat.le_trans old.size h.1)
/-- The builder's blocks as they are now, at this world. -/
theorem Mk.here (h : Mk G w0 w m p base room s n) : ∃ F, Mk F w w m p base room s n ∧ (∀ k, F k → k < w.heap.size) ∧ ¬ F m ∧ ∀ k, F k → G k ∨ w0.heap.size ≤ k := by
  obtain ⟨⟨F, hB, hm, hF⟩, c0, c1, c2, old, l1, l2, l3⟩ := h
  exact ⟨F, ⟨⟨F, hB, hm, fun k h => .inl h⟩, c0, c1, c2, Chg.refl _ _, l1, l2, l3⟩, hB.lt, hm, hF⟩
/-- The same behind a new block: the builder's blocks are older than it. -/
theorem Mk.laid (h : Mk G w0 w m p base room s n) (hw : Chg w w' Nothing) : ∃ F, Mk F w' w' m p base room s n ∧ (∀ k, F k → k < w.heap.size) ∧ ∀ k, F k → G k ∨ w0.heap.size ≤ k := by
  have h' := h.quiet hw
  obtain ⟨⟨F, hB, hm, hF⟩, c0, c1, c2, old, l1, l2, l3⟩ := h
  exact ⟨F, ⟨⟨F, hB.chg hw (fun _ _ h => h), hm, fun k h => .inl h⟩, h'.c0, h'.c1, h'.c2, Chg.refl _ _, l1, l2, l3⟩, hB.lt, hF⟩
theorem Mk.up {F : Nat → Prop} {w1 : World} (h : Mk F w1 w' m p base room s n) (hF : ∀ k, F k → G k ∨ w0.heap.size ≤ k) (old : Chg w0 w1 G) : Mk G w0 w' m p base room s n := by
  obtain ⟨⟨F', hB, hm, hF'⟩, c0, c1, c2, old', l1, l2, l3⟩ := h
  exact ⟨⟨F', hB, hm, fun k h => (hF' k h).elim (hF k) (fun h => .inr (Nat.le_trans old.size h))⟩, c0, c1, c2, old.trans old' (fun k hk h => (hF k h).resolve_right (by omega)), l1, l2, l3⟩

theorem mk_add (h : Mk G w0 w m p base room s n) (op k : Int) (hn : n < 1000) :
    Calls Tryz.prog 92 #[.pointer (some ⟨p, 0, none⟩), .int .i64 op, .int .i64 k] w fun e w' => e = .returned (.tuple #[]) ∧ Mk G w0 w' m p base room (s.add op k) (n + 1) := by
  have h' := h
  obtain ⟨⟨F, hB, hm, hF⟩, c0, c1, c2, old, l1, l2, l3⟩ := h
  refine (add_any p F s op k w hB (by omega)).mono ?_
  rintro e w1 ⟨rfl, hb, hc⟩
  exact ⟨rfl, h'.next hB hm hF hb hc (by simp [Asm.add]; omega) (by simp [Asm.add]; omega) (by simp [Asm.add]; omega)⟩
theorem mk_push (h : Mk G w0 w m p base room s n) (x : Nat) (hn : n < 1000) :
    Calls Tryz.prog 95 #[.pointer (some ⟨p, 0, none⟩), fl x] w fun e w' => e = .returned (.tuple #[]) ∧ Mk G w0 w' m p base room (s.push x) (n + 1) := by
  have h' := h
  obtain ⟨⟨F, hB, hm, hF⟩, c0, c1, c2, old, l1, l2, l3⟩ := h
  refine (push_any p F s x w hB (by omega)).mono ?_
  rintro e w1 ⟨rfl, hb, hc⟩
  exact ⟨rfl, h'.next hB hm hF hb hc (by simp [Asm.push]; omega) (by simp [Asm.push]; omega) (by simp [Asm.push]; omega)⟩
theorem mk_to (h : Mk G w0 w m p base room s n) (op l : Int) (hn : n < 1000) :
    Calls Tryz.prog 97 #[.pointer (some ⟨p, 0, none⟩), .int .i64 op, .int .i64 l] w fun e w' => e = .returned (.tuple #[]) ∧ Mk G w0 w' m p base room (s.to op l) (n + 1) := by
  have h' := h
  obtain ⟨⟨F, hB, hm, hF⟩, c0, c1, c2, old, l1, l2, l3⟩ := h
  refine (to_any p F s op l w hB (by omega)).mono ?_
  rintro e w1 ⟨rfl, hb, hc⟩
  exact ⟨rfl, h'.next hB hm hF hb hc (by simp [Asm.to]; omega) (by simp [Asm.to]; omega) (by simp [Asm.to]; omega)⟩
theorem mk_label (h : Mk G w0 w m p base room s n) (hn : n < 256) :
    Calls Tryz.prog 70 #[.pointer (some ⟨p, 0, none⟩)] w fun e w' => e = .returned (.int .i64 (s.labels : Int)) ∧ Mk G w0 w' m p base room s.label (n + 1) := by
  have h' := h
  obtain ⟨⟨F, hB, hm, hF⟩, c0, c1, c2, old, l1, l2, l3⟩ := h
  refine (label_more p F s w hB (by omega)).mono ?_
  rintro e w1 ⟨rfl, hb, hc⟩
  exact ⟨rfl, h'.next hB hm hF hb hc (by simp [Asm.label]; omega) (by simp [Asm.label]; omega) (by simp [Asm.label]; omega)⟩
theorem mk_mark (h : Mk G w0 w m p base room s n) (k : Int) (hn : n < 1000) :
    Calls Tryz.prog 98 #[.pointer (some ⟨p, 0, none⟩), .int .i64 k] w fun e w' => e = .returned (.tuple #[]) ∧ Mk G w0 w' m p base room (s.mark k) (n + 1) := by
  have h' := h
  obtain ⟨⟨F, hB, hm, hF⟩, c0, c1, c2, old, l1, l2, l3⟩ := h
  refine (mark_any p F s k w hB (by omega)).mono ?_
  rintro e w1 ⟨rfl, hb, hc⟩
  exact ⟨rfl, h'.next hB hm hF hb hc (by simp [Asm.mark]; omega) (by simp [Asm.mark]; omega) (by simp [Asm.mark]; omega)⟩

/-- A program that lies in memory; or the empty one, where there is none. -/
def ProgAt (w : World) (b : Nat) (s : Asm) (v : Value) : Prop :=
  (progE s ≠ 0 ∧ v = .agg #[.int .i64 0, .slice none 0 0]) ∨ (progE s = 0 ∧ ∃ out gc, fillAll s.marks s.code s.tos = some out ∧ out.length = s.code.length ∧ v = .agg #[.int .i64 s.tag, .slice (some ⟨gc, 0, none⟩) out.length out.length] ∧ w.ownsRow b 73 3 (.slice (some ⟨gc, 0, none⟩) out.length out.length) out.length (insV out))
theorem ProgAt.quiet {b : Nat} {v : Value} (h : ProgAt w b s v) (hc : Chg w w' Nothing) : ProgAt w' b s v := by
  rcases h with h | ⟨h1, out, gc, h2, h3, h4, h5⟩
  · exact .inl h
  · exact .inr ⟨h1, out, gc, h2, h3, h4, ownsRow_heap h5 (fun k hk => hc.block k (h5.lt k hk).2 id)⟩
/-- What the builder's program is, and that it changes nothing. -/
theorem mk_program (h : Mk G w0 w m p base room s n) (hn : n < 1000) :
    Calls Tryz.prog 32 #[.pointer (some ⟨p, 0, none⟩)] w fun e w' => ∃ v, e = .returned (.tuple #[v, .int .i64 (progE s)]) ∧ Mk G w0 w' m p base room s n ∧ ProgAt w' w.heap.size s v := by
  have h' := h
  obtain ⟨⟨F, hB, hm, hF⟩, c0, c1, c2, old, l1, l2, l3⟩ := h
  refine (program_any p F s w hB (by omega)).mono ?_
  rintro e w1 ⟨v, rfl, hc, hp⟩
  exact ⟨v, rfl, h'.quiet hc, hp⟩
end
end Go.Proofs.YtgeapkalabijmaaGreat
