/- The builder in memory, and its small methods. -/
import Derived.Test.YtgeapkalabijmaaGreatK5
import Derived.Test.YtgeapkalabijmaaGreatA0
import Derived.Deep.AppendLies
namespace Go.Proofs.YtgeapkalabijmaaGreat
open Go Go.RowKit
set_option maxRecDepth 100000
set_option maxHeartbeats 1000000
set_option linter.unusedVariables false
set_option linter.unusedSimpArgs false



def natV (ps : List Nat) : List Value := ps.map fun (n : Nat) => .int .i64 (n : Int)
/-- The closures: each leads to its label and its place. -/
def FnsOk (w : World) (T : Nat → Nat) (fs : List Value) (ls : List (Nat × Int)) : Prop :=
  fs.length = ls.length ∧ ∀ (i : Nat) (t : Nat × Int), ls[i]? = some t → ∃ x y : Nat, fs[i]? = some (Value.func (.func 136) #[] #[.pointer (some ⟨x, 0, none⟩), .pointer (some ⟨y, 0, none⟩)]) ∧
    w.heap[x]? = some (.cells #[.int .i64 t.2] 3 (0, 0)) ∧ w.heap[y]? = some (.cells #[.int .i64 (t.1 : Int)] 3 (0, 0)) ∧ T x = 5 ∧ T y = 5
/-- The places by label, a row each. -/
def MarksIn (w : World) (T : Nat → Nat) (ents : List (Int × Value)) (g : List (Int × List Nat)) : Prop :=
  ents.length = g.length ∧ ∀ (i : Nat) (k : Int) (ps : List Nat), g[i]? = some (k, ps) → ∃ a c, ents[i]? = some (k, .slice a ps.length c) ∧ w.ownsRow 0 3 1 (.slice a ps.length c) ps.length (natV ps) ∧ ∀ b, (Value.slice a ps.length c).ownBlock = some b → T b = 10 + i

/-- A builder at block p; T tells which block is what. -/
structure BdAt (w : World) (p : Nat) (T : Nat → Nat) (tag : Int) (cs : List Ins) (ls : List (Nat × Int)) (labels : Nat) (g : List (Int × List Nat)) (ac : Option Addr) (cc : Nat) (al : Option Addr) (cl mb : Nat) (fs : List Value) (ents : List (Int × Value)) : Prop where
  blk : w.heap[p]? = some (.cells #[.int .i64 tag, .slice ac cs.length cc, .slice al ls.length cl, .int .i64 (labels : Int), .map (some mb)] 113 (0, 0))
  tp : T p = 1
  tm : T mb = 2
  code : w.ownsRow 0 73 3 (.slice ac cs.length cc) cs.length (insV cs)
  tc : ∀ b, (Value.slice ac cs.length cc).ownBlock = some b → T b = 3
  later : w.ownsRow 0 115 1 (.slice al ls.length cl) ls.length fs
  tl : ∀ b, (Value.slice al ls.length cl).ownBlock = some b → T b = 4
  fns : FnsOk w T fs ls
  map : MapS w mb ents
  marks : MarksIn w T ents g
  lt : ∀ k, T k ≠ 0 → k < w.heap.size
  most : labels ≤ 256
  uniq : (g.map (·.1)).Nodup

section
variable {w w1 w2 w' : World} {p : Nat} {T T' : Nat → Nat} {tag : Int} {cs : List Ins} {ls : List (Nat × Int)} {labels : Nat} {g : List (Int × List Nat)} {ac al : Option Addr} {cc cl mb : Nat} {fs : List Value} {ents : List (Int × Value)}

theorem FnsOk.move (h : FnsOk w T fs ls) (hs : ∀ b, T b = 5 → w'.heap[b]? = w.heap[b]? ∧ T' b = 5) : FnsOk w' T' fs ls :=
  ⟨h.1, fun i t ht => by
    obtain ⟨x, y, h1, h2, h3, h4, h5⟩ := h.2 i t ht
    exact ⟨x, y, h1, (hs x h4).1.trans h2, (hs y h5).1.trans h3, (hs x h4).2, (hs y h5).2⟩⟩
theorem MarksIn.move (h : MarksIn w T ents g) (hs : ∀ b, 10 ≤ T b → w'.heap[b]? = w.heap[b]? ∧ T' b = T b) : MarksIn w' T' ents g :=
  ⟨h.1, fun i k ps hi => by
    obtain ⟨a, c, h1, h2, h3⟩ := h.2 i k ps hi
    refine ⟨a, c, h1, ownsRow_heap h2 (fun b hb => (hs b (by rw [h3 b hb]; omega)).1), fun b hb => by rw [(hs b (by rw [h3 b hb]; omega)).2, h3 b hb]⟩⟩

theorem BdAt.cells (h : BdAt w p T tag cs ls labels g ac cc al cl mb fs ents) : w.cell? ⟨p, 0, none⟩ = some (.int .i64 tag) ∧ w.cell? ⟨p, 1, none⟩ = some (.slice ac cs.length cc) ∧ w.cell? ⟨p, 2, none⟩ = some (.slice al ls.length cl) ∧ w.cell? ⟨p, 3, none⟩ = some (.int .i64 (labels : Int)) ∧ w.cell? ⟨p, 4, none⟩ = some (.map (some mb)) :=
  ⟨blk_cell h.blk 0, blk_cell h.blk 1, blk_cell h.blk 2, blk_cell h.blk 3, blk_cell h.blk 4⟩
theorem BdAt.free (h : BdAt w p T tag cs ls labels g ac cc al cl mb fs ents) (o : Nat) : w.frozen? ⟨p, o, none⟩ = false := blk_free h.blk o

/-- Nothing of it has changed. -/
theorem BdAt.frame (h : BdAt w p T tag cs ls labels g ac cc al cl mb fs ents) (hz : w.heap.size ≤ w'.heap.size) (hs : ∀ b, T b ≠ 0 → w'.heap[b]? = w.heap[b]?) : BdAt w' p T tag cs ls labels g ac cc al cl mb fs ents :=
  ⟨(hs p (by rw [h.tp]; decide)).trans h.blk, h.tp, h.tm, ownsRow_heap h.code (fun b hb => hs b (by rw [h.tc b hb]; decide)), h.tc, ownsRow_heap h.later (fun b hb => hs b (by rw [h.tl b hb]; decide)), h.tl,
   h.fns.move (fun b hb => ⟨hs b (by rw [hb]; decide), hb⟩), h.map.frame (hs mb (by rw [h.tm]; decide)), h.marks.move (fun b hb => ⟨hs b (by omega), rfl⟩), fun k hk => Nat.lt_of_lt_of_le (h.lt k hk) hz, h.most, h.uniq⟩

/-- The row of the instructions has grown, the builder's cell leads to it. -/
theorem BdAt.added {n cap : Nat} {x : Ins} (h : BdAt w p T tag cs ls labels g ac cc al cl mb fs ents) (h1 : Chg w w1 Nothing) (hg : w1.grownBy w2 (Value.slice ac cs.length cc).ownBlock)
    (hown : w2.ownsRow 0 73 3 (.slice (some ⟨n, 0, none⟩) (cs.length + 1) cap) (cs.length + 1) (insV cs ++ [.int .i64 x.1, .int .i64 x.2.1, fl x.2.2])) (hgg : (Value.slice ac cs.length cc).ownBlock = some n ∨ w1.heap.size ≤ n) :
    BdAt (w2.setCell ⟨p, 1, none⟩ (.slice (some ⟨n, 0, none⟩) (cs.length + 1) cap)) p (fun k => if k = n then 3 else T k) tag (cs ++ [x]) ls labels g (some ⟨n, 0, none⟩) cap al cl mb fs ents ∧
      Chg w (w2.setCell ⟨p, 1, none⟩ (.slice (some ⟨n, 0, none⟩) (cs.length + 1) cap)) (fun k => T k ≠ 0) ∧ w2.cell? ⟨p, 1, none⟩ = some (.slice ac cs.length cc) ∧ w2.frozen? ⟨p, 1, none⟩ = false := by
  have hp : p < w.heap.size := h.lt p (by rw [h.tp]; decide)
  have hs2 : (w2.setCell ⟨p, 1, none⟩ (.slice (some ⟨n, 0, none⟩) (cs.length + 1) cap)).heap.size = w2.heap.size := by simp [World.setCell]
  have hsz : w.heap.size ≤ w2.heap.size := Nat.le_trans h1.size hg.size
  have old2 : ∀ b, T b ≠ 0 → T b ≠ 3 → w2.heap[b]? = w.heap[b]? := fun b hb h3 => by
    have hlt := h.lt b hb
    rw [hg.block b (Nat.lt_of_lt_of_le hlt h1.size) (fun e => h3 (h.tc b e.symm)), h1.block b hlt id]
  have hpb := (old2 p (by rw [h.tp]; decide) (by rw [h.tp]; decide)).trans h.blk
  have old3 : ∀ b, T b ≠ 0 → T b ≠ 1 → T b ≠ 3 → (w2.setCell ⟨p, 1, none⟩ (.slice (some ⟨n, 0, none⟩) (cs.length + 1) cap)).heap[b]? = w.heap[b]? := fun b hb h1' h3 =>
    (Below.heap_setCell _ _ _ _ (fun e => h1' (by rw [e]; exact h.tp))).trans (old2 b hb h3)
  have ht : ∀ b, T b ≠ 0 → T b ≠ 3 → (if b = n then 3 else T b) = T b := fun b hb h3 => by
    by_cases e : b = n
    · subst e
      rcases hgg with hgg | hgg
      · exact absurd (h.tc b hgg) h3
      · have := h.lt b hb; have := h1.size; omega
    · rw [if_neg e]
  have hnp : n ≠ p := by
    rintro rfl
    rcases hgg with hgg | hgg
    · have := h.tc _ hgg; rw [h.tp] at this; omega
    · have := h1.size; omega
  have hn2 := (hown.lt n rfl).2
  have hl : (cs ++ [x]).length = cs.length + 1 := by simp
  refine ⟨⟨?_, ?_, ?_, ?_, ?_, ?_, ?_, ?_, ?_, ?_, ?_, h.most, h.uniq⟩, ?_, by rw [blk_cell hpb]; rfl, blk_free hpb 1⟩
  · rw [hl]; simpa using blk_set hpb 1 (.slice (some ⟨n, 0, none⟩) (cs.length + 1) cap)
  · rw [ht p (by rw [h.tp]; decide) (by rw [h.tp]; decide), h.tp]
  · rw [ht mb (by rw [h.tm]; decide) (by rw [h.tm]; decide), h.tm]
  · rw [hl, insV_snoc]
    exact ownsRow_heap hown (fun k hk => by simp [Value.ownBlock] at hk; subst hk; exact Below.heap_setCell _ _ _ _ hnp)
  · intro b hb
    simp [Value.ownBlock] at hb
    rw [if_pos hb.symm]
  · exact ownsRow_heap h.later (fun b hb => old3 b (by rw [h.tl b hb]; decide) (by rw [h.tl b hb]; decide) (by rw [h.tl b hb]; decide))
  · intro b hb
    rw [ht b (by rw [h.tl b hb]; decide) (by rw [h.tl b hb]; decide), h.tl b hb]
  · exact h.fns.move (fun b hb => ⟨old3 b (by rw [hb]; decide) (by rw [hb]; decide) (by rw [hb]; decide), by rw [ht b (by rw [hb]; decide) (by rw [hb]; decide), hb]⟩)
  · exact h.map.frame (old3 mb (by rw [h.tm]; decide) (by rw [h.tm]; decide) (by rw [h.tm]; decide))
  · exact h.marks.move (fun b hb => ⟨old3 b (by omega) (by omega) (by omega), ht b (by omega) (by omega)⟩)
  · intro k hk
    rw [hs2]
    by_cases e : k = n
    · subst e; exact hn2
    · rw [if_neg e] at hk; exact Nat.lt_of_lt_of_le (h.lt k hk) hsz
  · refine Chg.setCell (Chg.grown (h1.mono (fun k _ hk => hk.elim)) hg ?_) (.inr (by show T p ≠ 0; rw [h.tp]; decide)) _
    intro k hk
    exact .inr (by show T k ≠ 0; rw [h.tc k hk]; decide)

/-- The row of what is to be filled in later has grown, by a closure whose two boxes are there. -/
theorem BdAt.latered {n cap x y : Nat} {t : Nat × Int} {u : Value} (h : BdAt w p T tag cs ls labels g ac cc al cl mb fs ents) (h1 : Chg w w1 Nothing) (hg : w1.grownBy w2 (Value.slice al ls.length cl).ownBlock)
    (hu : u = .func (.func 136) #[] #[.pointer (some ⟨x, 0, none⟩), .pointer (some ⟨y, 0, none⟩)])
    (hx : w.heap[x]? = some (.cells #[.int .i64 t.2] 3 (0, 0))) (hy : w.heap[y]? = some (.cells #[.int .i64 (t.1 : Int)] 3 (0, 0))) (hx0 : T x = 0 ∨ T x = 5) (hy0 : T y = 0 ∨ T y = 5)
    (hown : w2.ownsRow 0 115 1 (.slice (some ⟨n, 0, none⟩) (ls.length + 1) cap) (ls.length + 1) (fs ++ [u])) (hgg : (Value.slice al ls.length cl).ownBlock = some n ∨ w1.heap.size ≤ n) :
    BdAt (w2.setCell ⟨p, 2, none⟩ (.slice (some ⟨n, 0, none⟩) (ls.length + 1) cap)) p (fun k => if k = n then 4 else if k = x ∨ k = y then 5 else T k) tag cs (ls ++ [t]) labels g ac cc (some ⟨n, 0, none⟩) cap mb (fs ++ [u]) ents ∧
      Chg w (w2.setCell ⟨p, 2, none⟩ (.slice (some ⟨n, 0, none⟩) (ls.length + 1) cap)) (fun k => T k ≠ 0) ∧ w2.cell? ⟨p, 2, none⟩ = some (.slice al ls.length cl) ∧ w2.frozen? ⟨p, 2, none⟩ = false := by
  have hp : p < w.heap.size := h.lt p (by rw [h.tp]; decide)
  have hs2 : (w2.setCell ⟨p, 2, none⟩ (.slice (some ⟨n, 0, none⟩) (ls.length + 1) cap)).heap.size = w2.heap.size := by simp [World.setCell]
  have hsz : w.heap.size ≤ w2.heap.size := Nat.le_trans h1.size hg.size
  have hxl := blk_lt hx
  have hyl := blk_lt hy
  have own4 : ∀ b, (Value.slice al ls.length cl).ownBlock = some b → T b = 4 := h.tl
  have gen2 : ∀ b, b < w.heap.size → T b ≠ 4 → w2.heap[b]? = w.heap[b]? := fun b hlt h3 => by
    rw [hg.block b (Nat.lt_of_lt_of_le hlt h1.size) (fun e => h3 (h.tl b e.symm)), h1.block b hlt id]
  have old2 : ∀ b, T b ≠ 0 → T b ≠ 4 → w2.heap[b]? = w.heap[b]? := fun b hb h3 => gen2 b (h.lt b hb) h3
  have hpb := (old2 p (by rw [h.tp]; decide) (by rw [h.tp]; decide)).trans h.blk
  have set3 : ∀ b, T b ≠ 1 → (w2.setCell ⟨p, 2, none⟩ (.slice (some ⟨n, 0, none⟩) (ls.length + 1) cap)).heap[b]? = w2.heap[b]? := fun b h1' => Below.heap_setCell _ _ _ _ (fun e => h1' (by rw [e]; exact h.tp))
  have old3 : ∀ b, T b ≠ 0 → T b ≠ 1 → T b ≠ 4 → (w2.setCell ⟨p, 2, none⟩ (.slice (some ⟨n, 0, none⟩) (ls.length + 1) cap)).heap[b]? = w.heap[b]? := fun b hb h1' h3 => (set3 b h1').trans (old2 b hb h3)
  have hnT : T n = 4 ∨ w.heap.size ≤ n := by
    rcases hgg with hgg | hgg
    · exact .inl (h.tl n hgg)
    · exact .inr (Nat.le_trans h1.size hgg)
  have hnx : n ≠ x := by rintro rfl; omega
  have hny : n ≠ y := by rintro rfl; omega
  have ht : ∀ b, T b ≠ 0 → T b ≠ 4 → (if b = n then 4 else if b = x ∨ b = y then 5 else T b) = T b := fun b hb h3 => by
    by_cases e : b = n
    · subst e
      rcases hnT with h' | h'
      · exact absurd h' h3
      · have := h.lt b hb; omega
    · rw [if_neg e]
      by_cases e2 : b = x ∨ b = y
      · rw [if_pos e2]
        rcases e2 with rfl | rfl <;> omega
      · rw [if_neg e2]
  have hnp : n ≠ p := by rintro rfl; have := h.tp; omega
  have hn2 := (hown.lt n rfl).2
  have hl : (ls ++ [t]).length = ls.length + 1 := by simp
  refine ⟨⟨?_, ?_, ?_, ?_, ?_, ?_, ?_, ?_, ?_, ?_, ?_, h.most, h.uniq⟩, ?_, by rw [blk_cell hpb]; rfl, blk_free hpb 2⟩
  · rw [hl]; simpa using blk_set hpb 2 (.slice (some ⟨n, 0, none⟩) (ls.length + 1) cap)
  · rw [ht p (by rw [h.tp]; decide) (by rw [h.tp]; decide), h.tp]
  · rw [ht mb (by rw [h.tm]; decide) (by rw [h.tm]; decide), h.tm]
  · exact ownsRow_heap h.code (fun b hb => old3 b (by rw [h.tc b hb]; decide) (by rw [h.tc b hb]; decide) (by rw [h.tc b hb]; decide))
  · intro b hb
    rw [ht b (by rw [h.tc b hb]; decide) (by rw [h.tc b hb]; decide), h.tc b hb]
  · rw [hl]
    exact ownsRow_heap hown (fun k hk => by simp [Value.ownBlock] at hk; subst hk; exact Below.heap_setCell _ _ _ _ hnp)
  · intro b hb
    simp [Value.ownBlock] at hb
    rw [if_pos hb.symm]
  · have hm := h.fns.move (w' := w2.setCell ⟨p, 2, none⟩ (.slice (some ⟨n, 0, none⟩) (ls.length + 1) cap)) (T' := fun k => if k = n then 4 else if k = x ∨ k = y then 5 else T k) (fun b hb => ⟨old3 b (by rw [hb]; decide) (by rw [hb]; decide) (by rw [hb]; decide), by rw [ht b (by rw [hb]; decide) (by rw [hb]; decide), hb]⟩)
    refine ⟨by simp [hm.1], fun i s hi => ?_⟩
    rcases Nat.lt_or_ge i ls.length with hlt | hge
    · rw [List.getElem?_append_left hlt] at hi
      obtain ⟨x', y', e1, e2⟩ := hm.2 i s hi
      exact ⟨x', y', by rw [List.getElem?_append_left (by rw [hm.1]; exact hlt)]; exact e1, e2⟩
    · have hi2 : i = ls.length := by have := (List.getElem?_eq_some_iff.1 hi).1; simp at this; omega
      subst hi2
      simp at hi
      subst hi
      have gx : w2.heap[x]? = w.heap[x]? := gen2 x hxl (by omega)
      have gy : w2.heap[y]? = w.heap[y]? := gen2 y hyl (by omega)
      refine ⟨x, y, by rw [← hm.1, hu]; simp, ((set3 x (by omega)).trans gx).trans hx, ((set3 y (by omega)).trans gy).trans hy, ?_, ?_⟩
      · show (if x = n then 4 else if x = x ∨ x = y then 5 else T x) = 5
        rw [if_neg (fun e => hnx e.symm), if_pos (.inl rfl)]
      · show (if y = n then 4 else if y = x ∨ y = y then 5 else T y) = 5
        rw [if_neg (fun e => hny e.symm), if_pos (.inr rfl)]
  · exact h.map.frame (old3 mb (by rw [h.tm]; decide) (by rw [h.tm]; decide) (by rw [h.tm]; decide))
  · exact h.marks.move (fun b hb => ⟨old3 b (by omega) (by omega) (by omega), ht b (by omega) (by omega)⟩)
  · intro k hk
    rw [hs2]
    by_cases e : k = n
    · subst e; exact hn2
    · rw [if_neg e] at hk
      by_cases e2 : k = x ∨ k = y
      · rcases e2 with rfl | rfl <;> omega
      · rw [if_neg e2] at hk; exact Nat.lt_of_lt_of_le (h.lt k hk) hsz
  · refine Chg.setCell (Chg.grown (h1.mono (fun k _ hk => hk.elim)) hg ?_) (.inr (by show T p ≠ 0; rw [h.tp]; decide)) _
    intro k hk
    exact .inr (by show T k ≠ 0; rw [h.tl k hk]; decide)

/-- A place has come to a label's row. -/
theorem BdAt.marked {n cap i x : Nat} {k : Int} {ps : List Nat} {v : Value} {g' : List (Int × List Nat)} {ents' : List (Int × Value)} {w4 : World} (h : BdAt w p T tag cs ls labels g ac cc al cl mb fs ents)
    (hi : (g[i]? = some (k, ps) ∧ ents[i]? = some (k, v) ∧ g' = g.set i (k, ps ++ [x]) ∧ ents' = ents.set i (k, .slice (some ⟨n, 0, none⟩) (ps.length + 1) cap)) ∨ (i = g.length ∧ ps = [] ∧ g' = g ++ [(k, [x])] ∧ ents' = ents ++ [(k, .slice (some ⟨n, 0, none⟩) (ps.length + 1) cap)]))
    (hv : ∀ b, v.ownBlock = some b → T b = 10 + i) (hu : (g'.map (·.1)).Nodup) (h1 : Chg w w1 Nothing) (hg : w1.grownBy w2 v.ownBlock)
    (hown : w2.ownsRow 0 3 1 (.slice (some ⟨n, 0, none⟩) (ps.length + 1) cap) (ps.length + 1) (natV ps ++ [.int .i64 (x : Int)])) (hgg : v.ownBlock = some n ∨ w1.heap.size ≤ n) (hm : MapS w4 mb ents') (hc : Chg w2 w4 (fun j => j = mb)) :
    BdAt w4 p (fun k => if k = n then 10 + i else T k) tag cs ls labels g' ac cc al cl mb fs ents' ∧ Chg w w4 (fun k => T k ≠ 0) := by
  have hsz : w.heap.size ≤ w2.heap.size := Nat.le_trans h1.size hg.size
  have hnT : T n = 10 + i ∨ w.heap.size ≤ n := by
    rcases hgg with hgg | hgg
    · exact .inl (hv n hgg)
    · exact .inr (Nat.le_trans h1.size hgg)
  have old2 : ∀ b, T b ≠ 0 → T b ≠ 10 + i → w2.heap[b]? = w.heap[b]? := fun b hb h3 => by
    have hlt := h.lt b hb
    rw [hg.block b (Nat.lt_of_lt_of_le hlt h1.size) (fun e => h3 (hv b e.symm)), h1.block b hlt id]
  have old4 : ∀ b, T b ≠ 0 → T b ≠ 2 → T b ≠ 10 + i → w4.heap[b]? = w.heap[b]? := fun b hb h2 h3 => by
    have hlt := h.lt b hb
    rw [hc.block b (by omega) (fun e => h2 (by rw [e]; exact h.tm)), old2 b hb h3]
  have ht : ∀ b, T b ≠ 0 → T b ≠ 10 + i → (if b = n then 10 + i else T b) = T b := fun b hb h3 => by
    by_cases e : b = n
    · subst e
      rcases hnT with h' | h'
      · exact absurd h' h3
      · have := h.lt b hb; omega
    · rw [if_neg e]
  have hnm : n ≠ mb := by
    rintro rfl
    have := h.tm
    have := h.lt n (by omega)
    omega
  have hn2 := (hown.lt n rfl).2
  have hn4 : w4.heap[n]? = w2.heap[n]? := hc.block n hn2 hnm
  have hown4 : w4.ownsRow 0 3 1 (.slice (some ⟨n, 0, none⟩) (ps.length + 1) cap) (ps.length + 1) (natV ps ++ [.int .i64 (x : Int)]) := ownsRow_heap hown (fun b hb => by simp [Value.ownBlock] at hb; subst hb; exact hn4)
  have hnat : natV (ps ++ [x]) = natV ps ++ [.int .i64 (x : Int)] := by simp [natV]
  have hlen := h.marks.1
  -- one of the rows
  have mine : ∃ a c, (Value.slice (some ⟨n, 0, none⟩) (ps.length + 1) cap) = .slice a (ps ++ [x]).length c ∧ w4.ownsRow 0 3 1 (.slice a (ps ++ [x]).length c) (ps ++ [x]).length (natV (ps ++ [x])) ∧ ∀ b, (Value.slice a (ps ++ [x]).length c).ownBlock = some b → (if b = n then 10 + i else T b) = 10 + i := by
    have hl : (ps ++ [x]).length = ps.length + 1 := by simp
    refine ⟨some ⟨n, 0, none⟩, cap, by rw [hl], by rw [hl, hnat]; exact hown4, fun b hb => ?_⟩
    simp [Value.ownBlock] at hb
    rw [if_pos hb.symm]
  have others : ∀ j k' ps', j ≠ i → g[j]? = some (k', ps') → ∃ a c, ents[j]? = some (k', .slice a ps'.length c) ∧ w4.ownsRow 0 3 1 (.slice a ps'.length c) ps'.length (natV ps') ∧ ∀ b, (Value.slice a ps'.length c).ownBlock = some b → (if b = n then 10 + i else T b) = 10 + j := fun j k' ps' hj hjg => by
    obtain ⟨a, c, e1, e2, e3⟩ := h.marks.2 j k' ps' hjg
    refine ⟨a, c, e1, ownsRow_heap e2 (fun b hb => old4 b (by rw [e3 b hb]; omega) (by rw [e3 b hb]; omega) (by rw [e3 b hb]; omega)), fun b hb => by rw [ht b (by rw [e3 b hb]; omega) (by rw [e3 b hb]; omega), e3 b hb]⟩
  refine ⟨⟨?_, ?_, ?_, ?_, ?_, ?_, ?_, ?_, hm, ?_, ?_, h.most, hu⟩, ?_⟩
  · exact (old4 p (by rw [h.tp]; decide) (by rw [h.tp]; decide) (by rw [h.tp]; omega)).trans h.blk
  · rw [ht p (by rw [h.tp]; decide) (by rw [h.tp]; omega), h.tp]
  · rw [ht mb (by rw [h.tm]; decide) (by rw [h.tm]; omega), h.tm]
  · exact ownsRow_heap h.code (fun b hb => old4 b (by rw [h.tc b hb]; decide) (by rw [h.tc b hb]; decide) (by rw [h.tc b hb]; omega))
  · intro b hb
    rw [ht b (by rw [h.tc b hb]; decide) (by rw [h.tc b hb]; omega), h.tc b hb]
  · exact ownsRow_heap h.later (fun b hb => old4 b (by rw [h.tl b hb]; decide) (by rw [h.tl b hb]; decide) (by rw [h.tl b hb]; omega))
  · intro b hb
    rw [ht b (by rw [h.tl b hb]; decide) (by rw [h.tl b hb]; omega), h.tl b hb]
  · exact h.fns.move (fun b hb => ⟨old4 b (by rw [hb]; decide) (by rw [hb]; decide) (by rw [hb]; omega), by rw [ht b (by rw [hb]; decide) (by rw [hb]; omega), hb]⟩)
  · rcases hi with ⟨q1, q2, rfl, rfl⟩ | ⟨rfl, rfl, rfl, rfl⟩
    · have hlt := (List.getElem?_eq_some_iff.1 q1).1
      refine ⟨by simp [hlen], fun j k' ps' hj => ?_⟩
      by_cases e : i = j
      · subst e
        rw [List.getElem?_set_self hlt] at hj
        cases hj
        obtain ⟨a, c, m1, m2, m3⟩ := mine
        exact ⟨a, c, by rw [List.getElem?_set_self (by omega), m1], m2, m3⟩
      · rw [List.getElem?_set_ne e] at hj
        obtain ⟨a, c, m1, m2, m3⟩ := others j k' ps' (fun e' => e e'.symm) hj
        exact ⟨a, c, by rw [List.getElem?_set_ne e, m1], m2, m3⟩
    · refine ⟨by simp [hlen], fun j k' ps' hj => ?_⟩
      rcases Nat.lt_or_ge j g.length with hlt | hge
      · rw [List.getElem?_append_left hlt] at hj
        obtain ⟨a, c, m1, m2, m3⟩ := others j k' ps' (by omega) hj
        exact ⟨a, c, by rw [List.getElem?_append_left (by omega), m1], m2, m3⟩
      · have hj2 : j = g.length := by have := (List.getElem?_eq_some_iff.1 hj).1; simp at this; omega
        subst hj2
        simp at hj
        obtain ⟨rfl, rfl⟩ := hj
        obtain ⟨a, c, m1, m2, m3⟩ := mine
        exact ⟨a, c, by rw [m1, ← hlen]; simp, m2, m3⟩
  · intro b hb
    by_cases e : b = n
    · subst e; exact Nat.lt_of_lt_of_le hn2 hc.size
    · have hb' : T b ≠ 0 := by
        intro h0
        apply hb
        show (if b = n then 10 + i else T b) = 0
        rw [if_neg e, h0]
      exact Nat.lt_of_lt_of_le (h.lt b hb') (Nat.le_trans hsz hc.size)
  · refine Chg.trans (Chg.grown (h1.mono (fun k _ hk => hk.elim)) hg (fun k hk => .inr (by show T k ≠ 0; rw [hv k hk]; omega))) hc (fun k _ hk => ?_)
    show T k ≠ 0
    rw [hk, h.tm]
    decide

theorem BdAt.labeled (h : BdAt w p T tag cs ls labels g ac cc al cl mb fs ents) (hl : labels < 256) :
    BdAt (w.setCell ⟨p, 3, none⟩ (.int .i64 ((labels + 1 : Nat) : Int))) p T tag cs ls (labels + 1) g ac cc al cl mb fs ents ∧ Chg w (w.setCell ⟨p, 3, none⟩ (.int .i64 ((labels + 1 : Nat) : Int))) (fun k => T k ≠ 0) := by
  have old : ∀ b, T b ≠ 1 → (w.setCell ⟨p, 3, none⟩ (.int .i64 ((labels + 1 : Nat) : Int))).heap[b]? = w.heap[b]? := fun b hb => Below.heap_setCell _ _ _ _ (fun e => hb (by rw [e]; exact h.tp))
  refine ⟨⟨?_, h.tp, h.tm, ?_, h.tc, ?_, h.tl, ?_, ?_, ?_, ?_, by omega, h.uniq⟩, (Chg.refl _ _).setCell (.inr (by show T p ≠ 0; rw [h.tp]; decide)) _⟩
  · simpa using blk_set h.blk 3 (.int .i64 ((labels + 1 : Nat) : Int))
  · exact ownsRow_heap h.code (fun b hb => old b (by rw [h.tc b hb]; decide))
  · exact ownsRow_heap h.later (fun b hb => old b (by rw [h.tl b hb]; decide))
  · exact h.fns.move (fun b hb => ⟨old b (by omega), hb⟩)
  · exact h.map.frame (old mb (by rw [h.tm]; decide))
  · exact h.marks.move (fun b hb => ⟨old b (by omega), rfl⟩)
  · intro k hk; simpa [World.setCell] using h.lt k hk
end

theorem BdAt.made (w : World) (tag : Int) : BdAt ((w.alloc (.map #[] 0)).alloc (.cells #[.int .i64 tag, .slice none 0 0, .slice none 0 0, .int .i64 0, .map (some w.heap.size)] 113)) (w.heap.size + 1) (fun k => if k = w.heap.size then 2 else if k = w.heap.size + 1 then 1 else 0) tag [] [] 0 [] none 0 none 0 w.heap.size [] [] := by
  refine ⟨?_, by simp, by simp, World.ownsRow_nil _ _ _ _, by simp [Value.ownBlock], World.ownsRow_nil _ _ _ _, by simp [Value.ownBlock], ⟨rfl, by simp⟩, ?_, ⟨rfl, by simp⟩, ?_, by decide, by simp⟩
  · have := heap_alloc_new (w.alloc (.map #[] 0)) (.cells #[.int .i64 tag, .slice none 0 0, .slice none 0 0, .int .i64 0, .map (some w.heap.size)] 113)
    simpa using this
  · exact (MapS.made w).frame (by rw [blk_alloc (heap_alloc_new w (.map #[] 0))]; exact (heap_alloc_new w _).symm)
  · intro k hk
    simp only [ne_eq] at hk
    by_cases e : k = w.heap.size
    · subst e; simp; omega
    · rw [if_neg e] at hk
      by_cases e2 : k = w.heap.size + 1
      · subst e2; simp
      · rw [if_neg e2] at hk; exact absurd rfl hk
end Go.Proofs.YtgeapkalabijmaaGreat
