/- A stack behind a pointer: what it is in memory. -/
import Derived.Test.YtpigcmedkljonaaBase
import Derived.Test.YtpigcmedkljonaaProg
namespace Go.Proofs.Ytpigcmedkljonaa
open Go Go.RowKit
set_option linter.unusedVariables false
set_option linter.unusedSimpArgs false

/-- A stack at block p, its struct of type T, its things of type E, one cell each: F holds all its blocks. -/
def Stk (T E : TypeId) (w : World) (p : Nat) (F : Nat → Prop) (xs : List Value) (room : Int) : Prop :=
  ∃ v, w.heap[p]? = some (.cells #[v, .int .i64 room] T (0, 0)) ∧ w.ownsRow 0 E 1 v xs.length xs ∧ F p ∧ (∀ k, v.ownBlock = some k → F k ∧ k ≠ p) ∧
    (∀ k, F k → k < w.heap.size) ∧ (xs.length : Int) ≤ room ∧ room ≤ 65536 ∧ ∃ a c, v = .slice a xs.length c

section
variable {T E : TypeId} {w w' : World} {p : Nat} {F S : Nat → Prop} {xs : List Value} {room : Int} {x : Value}

theorem ownsRow_blk {v : Value} {n : Nat} (h : w.ownsRow 0 E 1 v n xs) (hb : ∀ k, v.ownBlock = some k → w'.heap[k]? = w.heap[k]?) : w'.ownsRow 0 E 1 v n xs := by
  refine ⟨h.1, ?_⟩
  rcases h.2 with h | ⟨g, cap, cur, rfl, hg, hh, hr⟩
  · exact .inl h
  · exact .inr ⟨g, cap, cur, rfl, hg, (hb g rfl).trans hh, hr⟩

theorem Stk.frame (h : Stk T E w p F xs room) (hs : w.heap.size ≤ w'.heap.size) (hb : ∀ k, F k → w'.heap[k]? = w.heap[k]?) : Stk T E w' p F xs room := by
  obtain ⟨v, h1, h2, h3, h4, h5, h6, h7, h8⟩ := h
  exact ⟨v, (hb p h3).trans h1, ownsRow_blk h2 (fun k hk => hb k (h4 k hk).1), h3, h4, fun k hk => Nat.lt_of_lt_of_le (h5 k hk) hs, h6, h7, h8⟩

theorem Stk.lt (h : Stk T E w p F xs room) : ∀ k, F k → k < w.heap.size := by obtain ⟨v, h1, h2, h3, h4, h5, h6⟩ := h; exact h5

theorem Stk.fits (h : Stk T E w p F xs room) : (xs.length : Int) ≤ room ∧ room ≤ 65536 := by obtain ⟨v, h1, h2, h3, h4, h5, h6, h7, _⟩ := h; exact ⟨h6, h7⟩

theorem Stk.has (h : Stk T E w p F xs room) : F p := by obtain ⟨v, h1, h2, h3, h4, h5, h6⟩ := h; exact h3

theorem Stk.chg (h : Stk T E w p F xs room) (hc : Chg w w' S) (hd : ∀ k, F k → ¬ S k) : Stk T E w' p F xs room :=
  h.frame hc.size fun k hk => hc.block k (h.lt k hk) (hd k hk)

theorem Stk.drewN (h : Stk T E w p F xs room) (n : Nat) : Stk T E (w.drewN n) p F xs room := h.frame (Nat.le_refl _) (fun _ _ => rfl)

/-- Its two cells. -/
theorem Stk.cells (h : Stk T E w p F xs room) : ∃ a c, w.cell? ⟨p, 0, none⟩ = some (.slice a xs.length c) ∧ w.cell? ⟨p, 1, none⟩ = some (.int .i64 room) ∧ (xs.length : Int) ≤ 65536 := by
  obtain ⟨v, h1, h2, h3, h4, h5, h6, h7, a, c, rfl⟩ := h
  exact ⟨a, c, blk_cell h1 0, blk_cell h1 1, by omega⟩

theorem Stk.free (h : Stk T E w p F xs room) (o : Nat) : w.frozen? ⟨p, o, none⟩ = false := by
  obtain ⟨v, h1, h2⟩ := h
  exact blk_free h1 o

theorem Stk.top (h : Stk T E w p F (xs ++ [x]) room) : ∃ g c, w.cell? ⟨p, 0, none⟩ = some (.slice (some ⟨g, 0, none⟩) (xs.length + 1) c) ∧ w.frozen? ⟨p, 0, none⟩ = false ∧ xs.length + 1 ≤ c ∧ (xs.length : Int) + 1 ≤ 65536 := by
  obtain ⟨v, h1, h2, h3, h4, h5, h6, h7, a, c, rfl⟩ := h
  rcases h2.2 with ⟨_, h⟩ | ⟨g, cap, cur, he, _, hh, hl, _⟩
  · simp at h
  · injection he with he1 he2 he3
    subst he1 he3
    simp at hl h6
    exact ⟨g, c, by rw [blk_cell h1 0]; simp, blk_free h1 0, hl, by omega⟩

theorem Stk.owns {a : Option Addr} {n c : Nat} (h : Stk T E w p F xs room) (c0 : w.cell? ⟨p, 0, none⟩ = some (.slice a n c)) : w.ownsRow 0 E 1 (.slice a n c) xs.length xs := by
  obtain ⟨v, h1, h2, _⟩ := h
  have := (blk_cell h1 0).symm.trans c0
  simp at this
  subst this
  exact h2

theorem Stk.cleared (h : Stk T E w p F xs room) : Stk T E (w.setCell ⟨p, 0, none⟩ (.slice none 0 0)) p F [] room := by
  obtain ⟨v, h1, h2, h3, h4, h5, h6, h7, a, c, rfl⟩ := h
  exact ⟨.slice none 0 0, by simpa using blk_set h1 0 (.slice none 0 0), World.ownsRow_nil _ _ _ _, h3, by simp [Value.ownBlock], fun k hk => by simpa [World.setCell] using h5 k hk, by simp; omega, h7, none, 0, rfl⟩

theorem Stk.popped {g c : Nat} (h : Stk T E w p F (xs ++ [x]) room) (c0 : w.cell? ⟨p, 0, none⟩ = some (.slice (some ⟨g, 0, none⟩) (xs.length + 1) c)) :
    Stk T E (w.setCell ⟨p, 0, none⟩ (.slice (some ⟨g, 0, none⟩) xs.length c)) p F xs room := by
  obtain ⟨v, h1, h2, h3, h4, h5, h6, h7, a, c', rfl⟩ := h
  have := (blk_cell h1 0).symm.trans c0
  simp at this
  obtain ⟨rfl, rfl⟩ := this
  refine ⟨.slice (some ⟨g, 0, none⟩) xs.length c', by simpa using blk_set h1 0 (.slice (some ⟨g, 0, none⟩) xs.length c'), ?_, h3, fun k hk => h4 k hk, fun k hk => by simpa [World.setCell] using h5 k hk, by simp at h6; omega, h7, _, _, rfl⟩
  refine ⟨by simp, ?_⟩
  rcases h2.2 with ⟨h, _⟩ | ⟨g', cap, cur, he, hg, hh, hl, hm, hs, ht⟩
  · simp at h
  · injection he with he1 he2 he3
    obtain rfl : g = g' := by simpa using he1
    subst he3
    refine .inr ⟨g, c', cur, rfl, hg, (blk_set_other hh (h4 g rfl).2 _), by simp at hl; omega, hm, hs, ?_⟩
    have := congrArg (List.take xs.length) ht
    simpa [List.take_take] using this

theorem Stk.chg0 (h : Stk T E w p F xs room) (u : Value) : Chg w (w.setCell ⟨p, 0, none⟩ u) F := (Chg.refl _ _).setCell (.inr h.has) _
theorem Stk.chg0' (h : Stk T E w p F xs room) (m : Nat) (u : Value) : Chg w ((w.drewN m).setCell ⟨p, 0, none⟩ u) F := ((Chg.refl _ _).drewN m).setCell (.inr h.has) _

theorem Stk.blk (h : Stk T E w p F xs room) {w1 w2 : World} {v : Value} (c0 : w.cell? ⟨p, 0, none⟩ = some v) (h1 : Chg w w1 Nothing) (hg : w1.grownBy w2 v.ownBlock) :
    w2.cell? ⟨p, 0, none⟩ = some v ∧ w2.frozen? ⟨p, 0, none⟩ = false := by
  obtain ⟨v', k1, k2, k3, k4, k5, k6, k7, a, c, hv'⟩ := h
  obtain rfl : v' = v := by have := (blk_cell k1 0).symm.trans c0; simpa using this
  have hp : p < w.heap.size := k5 p k3
  have hpb : w2.heap[p]? = some (.cells #[v', .int .i64 room] T (0, 0)) := by
    rw [hg.block p (Nat.lt_of_lt_of_le hp h1.size) (by intro e; exact (k4 p e.symm).2 rfl), h1.block p hp (fun h => h), k1]
  exact ⟨by rw [blk_cell hpb]; rfl, blk_free hpb 0⟩

theorem Stk.pushed {w1 w2 : World} {v : Value} {g cap : Nat} (h : Stk T E w p F xs room) (hl : (xs.length : Int) < room) (c0 : w.cell? ⟨p, 0, none⟩ = some v) (h1 : Chg w w1 Nothing) (hg : w1.grownBy w2 v.ownBlock)
    (hown : w2.ownsRow 0 E 1 (.slice (some ⟨g, 0, none⟩) (xs.length + 1) cap) (xs.length + 1) (xs ++ [x])) (hgg : v.ownBlock = some g ∨ w1.heap.size ≤ g) :
    Stk T E (w2.setCell ⟨p, 0, none⟩ (.slice (some ⟨g, 0, none⟩) (xs.length + 1) cap)) p (Grow F w (w2.setCell ⟨p, 0, none⟩ (.slice (some ⟨g, 0, none⟩) (xs.length + 1) cap))) (xs ++ [x]) room ∧
      Chg w (w2.setCell ⟨p, 0, none⟩ (.slice (some ⟨g, 0, none⟩) (xs.length + 1) cap)) F := by
  have hlt := h.lt
  obtain ⟨v', k1, k2, k3, k4, k5, k6, k7, a, c, hv'⟩ := h
  obtain rfl : v' = v := by have := (blk_cell k1 0).symm.trans c0; simpa using this
  have hp : p < w.heap.size := k5 p k3
  have hs2 : (w2.setCell ⟨p, 0, none⟩ (.slice (some ⟨g, 0, none⟩) (xs.length + 1) cap)).heap.size = w2.heap.size := by simp [World.setCell]
  have hsz : w.heap.size ≤ w2.heap.size := Nat.le_trans h1.size hg.size
  have hpb : w2.heap[p]? = some (.cells #[v', .int .i64 room] T (0, 0)) := by
    rw [hg.block p (Nat.lt_of_lt_of_le hp h1.size) (by intro e; exact (k4 p e.symm).2 rfl), h1.block p hp (fun h => h), k1]
  have hgp : g ≠ p := by rcases hgg with hgg | hgg; exact (k4 g hgg).2; have := h1.size; omega
  have hg2 := (hown.lt g rfl).2
  refine ⟨⟨.slice (some ⟨g, 0, none⟩) (xs.length + 1) cap, by simpa using blk_set hpb 0 _, ?_, .inl k3, ?_, ?_, by simp; omega, k7, some ⟨g, 0, none⟩, cap, by simp⟩, ?_⟩
  · rw [show (xs ++ [x]).length = xs.length + 1 by simp]
    exact ownsRow_blk hown (fun k hk => by simp [Value.ownBlock] at hk; subst hk; exact Below.heap_setCell _ _ _ _ hgp)
  · intro k hk
    simp [Value.ownBlock] at hk
    subst hk
    refine ⟨?_, hgp⟩
    rcases hgg with hgg | hgg
    · exact .inl (k4 g hgg).1
    · exact .inr ⟨Nat.le_trans h1.size hgg, by rw [hs2]; exact hg2⟩
  · intro k hk
    rw [hs2]
    rcases hk with hk | hk
    · exact Nat.lt_of_lt_of_le (k5 k hk) hsz
    · rw [hs2] at hk; exact hk.2
  · refine Chg.setCell (Chg.grown (h1.mono (fun k _ hk => hk.elim)) hg ?_) (.inr k3) _
    intro k hk
    exact .inr (k4 k hk).1
end

theorem ownsRow_at {E : TypeId} {w : World} {g cap : Nat} {xs : List Value} {n : Nat} (h : w.ownsRow 0 E 1 (.slice (some ⟨g, 0, none⟩) n cap) n xs) (j : Nat) (x : Value) (hj : xs[j]? = some x) :
    w.cell? ⟨g, j, none⟩ = some x := by
  have := h.cells (g := g) rfl j x hj
  rwa [show (⟨g, 0, none⟩ : Addr).add j = ⟨g, j, none⟩ by unfold Addr.add; split <;> simp_all] at this

theorem max2_int (k k' : IntKind) (x y : Int) : Builtin.max2 (.int k x) (.int k' y) = pure (.int k (if x < y then y else x)) := by simp only [Builtin.max2, gt_iff_lt]
theorem min2_int (k k' : IntKind) (x y : Int) : Builtin.min2 (.int k x) (.int k' y) = pure (.int k (if y < x then y else x)) := by simp only [Builtin.min2]
theorem max_two (ats : Array TypeId) (ty : TypeId) (a b : Value) : Builtin.max_ ats ty #[a, b] = (Builtin.max2 a b >>= fun s => pure s) := by simp only [Builtin.max_, List.foldlM_cons, List.foldlM_nil]
theorem min_two (ats : Array TypeId) (ty : TypeId) (a b : Value) : Builtin.min_ ats ty #[a, b] = (Builtin.min2 a b >>= fun s => pure s) := by simp only [Builtin.min_, List.foldlM_cons, List.foldlM_nil]
/-- The room that New gives. -/
def roomOf (r : Int) : Int := if 65536 < (if r < 0 then 0 else r) then 65536 else (if r < 0 then 0 else r)
theorem roomOf_le (r : Int) : 0 ≤ roomOf r ∧ roomOf r ≤ 65536 := by unfold roomOf; (repeat' split) <;> omega

theorem stk_new {T E : TypeId} {r : Int} (h0 : 0 ≤ roomOf r) (h1 : roomOf r ≤ 65536) (w : World) (q : Int) (hq : q = roomOf r) :
    Stk T E (w.alloc (.cells #[.slice none 0 0, .int .i64 q] T)) w.heap.size (Grow Nothing w (w.alloc (.cells #[.slice none 0 0, .int .i64 q] T))) [] q := by
  subst hq
  exact ⟨.slice none 0 0, heap_alloc_new w _, World.ownsRow_nil _ _ _ _, .inr ⟨Nat.le_refl _, by simp⟩, by simp [Value.ownBlock], fun k hk => by rcases hk with hk | hk; exact hk.elim; exact hk.2, by simpa using h0, h1, none, 0, rfl⟩

theorem stk_box {T E : TypeId} {w w' : World} {a : Option Addr} {c b : Nat} {xs : List Value} {room : Int} (hown : w'.ownsRow w.heap.size E 1 (.slice a xs.length c) xs.length xs) (hchg : Chg (w.drewN b) w' Nothing)
    (hr : Hid ((xs.length : Int) ≤ room ∧ room ≤ 65536)) : w.heap.size ≤ w'.heap.size ∧ Stk T E (w'.alloc (.cells #[.slice a xs.length c, .int .i64 room] T)) w'.heap.size (Grow Nothing w (w'.alloc (.cells #[.slice a xs.length c, .int .i64 room] T))) xs room ∧
      Chg w (w'.alloc (.cells #[.slice a xs.length c, .int .i64 room] T)) Nothing := by
  have hsz : w.heap.size ≤ w'.heap.size := hchg.size
  refine ⟨hsz, ⟨_, heap_alloc_new w' _, ownsRow_base (hown.alloc _) (Nat.zero_le _), .inr ⟨hsz, by simp⟩, ?_, ?_, hr.out.1, hr.out.2, a, c, rfl⟩, ?_⟩
  · intro k hk
    have := hown.lt k hk
    exact ⟨.inr ⟨this.1, by simp; omega⟩, by omega⟩
  · intro k hk
    rcases hk with hk | hk
    · exact hk.elim
    · exact hk.2
  · exact (Chg.alloc (⟨hchg.os, hchg.tape, hchg.output, hchg.size, hchg.block⟩ : Chg w w' Nothing) _)


theorem Stk.wider {T E : TypeId} {w : World} {p : Nat} {F F' : Nat → Prop} {xs : List Value} {room : Int} (h : Stk T E w p F xs room) (hF : ∀ k, F k → F' k) (hlt : ∀ k, F' k → k < w.heap.size) : Stk T E w p F' xs room := by
  obtain ⟨v, h1, h2, h3, h4, h5, h6, h7, h8⟩ := h
  exact ⟨v, h1, h2, hF _ h3, fun k hk => ⟨hF _ (h4 k hk).1, (h4 k hk).2⟩, hlt, h6, h7, h8⟩

theorem Stk.grow {T E : TypeId} {w w' : World} {p : Nat} {F : Nat → Prop} {xs : List Value} {room : Int} (h : Stk T E w' p F xs room) : Stk T E w' p (Grow F w w') xs room :=
  h.wider (fun k hk => .inl hk) (fun k hk => by rcases hk with hk | hk; exact h.lt k hk; exact hk.2)

theorem Chg.drawn (w : World) (m : Nat) (S : Nat → Prop) : Chg w (w.drewN m) S := (Chg.refl w S).drewN m

/-- What a stack's methods answer: the thing, and the error's number. -/
def popV {α : Type} (d : α) (zs : List α) : α := zs.getLastD d
def popE {α : Type} (zs : List α) : Int := if zs.isEmpty then 41 else 0
def pushE {α : Type} (zs : List α) (room : Int) : Int := if (zs.length : Int) < room then 0 else 40
def pushL {α : Type} (zs : List α) (room : Int) (x : α) : List α := if (zs.length : Int) < room then zs ++ [x] else zs
def pickE {α : Type} (zs : List α) (n : Int) : Int := if 0 ≤ n ∧ n < zs.length then 0 else 41
def pickV {α : Type} (d : α) (zs : List α) (n : Int) : α := if 0 ≤ n ∧ n < zs.length then zs.getD (zs.length - 1 - n.toNat) d else d

/-- A row of the call's own, grown by one. -/
theorem own_more {w wr w2 : World} {E : TypeId} {n : Nat} {v v' u : Value} {o : Obj} {xs ys : List Value} {size : Nat} (hown2 : w2.ownsRow 0 E size v' (n + 1) (ys ++ [u])) (hk : ys ++ [u] = xs.take (n + 1)) (hown : wr.ownsRow w.heap.size E size v n ys) (hchg : Chg w wr Nothing)
    (hg : (wr.alloc o).grownBy w2 v.ownBlock) (hgg : ∀ g, v'.ownBlock = some g → v.ownBlock = some g ∨ wr.heap.size + 1 ≤ g) :
    w2.ownsRow w.heap.size E size v' (n + 1) (xs.take (n + 1)) ∧ Chg w w2 Nothing := by
  refine ⟨?_, (hchg.alloc o).grown hg (fun k hk => .inl (hown.lt k hk).1)⟩
  rw [← hk]
  refine ownsRow_rebase hown2 fun g hg' => ?_
  rcases hgg g hg' with h | h
  · exact (hown.lt g h).1
  · have := hchg.size; omega

end Go.Proofs.Ytpigcmedkljonaa
