/- Words on memory that all proofs of this seat share: which blocks a call may have changed, and a stack behind a pointer. -/
import Derived.WalkKit
import Derived.Lib.Hide
import Derived.Deep.Draws
import Derived.Deep.QuietTactic
import Derived.BigQuiet
import Derived.StillTailTactics
import Derived.Outline
import Derived.WalkSpells
import Derived.WalkLawsBesides
import Derived.Deep.RegionWith
import Derived.Deep.RegionHeld3
import Derived.Deep.LoopGhost
import Derived.Deep.DeepCutAuto
import Derived.Laws.CopyOwn
import Derived.WideLaws
import Derived.Laws.EntriesVeiled
import Derived.Test.YtgeapkalabijmaaGreatProg
import Derived.Maps.Keyed
import Derived.MapKept
import Derived.Carry
namespace Go.Proofs.YtgeapkalabijmaaGreat
open Go Go.RowKit

section
variable {P : Program} {w : World} {a : Addr} {m : Mode}
@[go_sem] theorem run_store_float (k : FloatKind) (b : Nat) : (store a (.float k b) m).run P w = stored P w a (.float k b) m := run_store P w a _ m rfl
end

/-- From w to w' only blocks in S, and new ones, have changed. -/
structure Chg (w w' : World) (S : Nat → Prop) : Prop where
  os : w'.os = w.os
  tape : w'.tape = w.tape
  output : w'.output = w.output
  size : w.heap.size ≤ w'.heap.size
  block : ∀ k, k < w.heap.size → ¬ S k → w'.heap[k]? = w.heap[k]?

/-- A footprint that has taken in what is new. -/
def Grow (F : Nat → Prop) (w w' : World) : Nat → Prop := fun k => F k ∨ (w.heap.size ≤ k ∧ k < w'.heap.size)

def Nothing : Nat → Prop := fun _ => False

theorem Chg.refl (w : World) (S : Nat → Prop) : Chg w w S := ⟨rfl, rfl, rfl, Nat.le_refl _, fun _ _ _ => rfl⟩

theorem Chg.mono {w w' : World} {S S' : Nat → Prop} (h : Chg w w' S) (hs : ∀ k, k < w.heap.size → S k → S' k) : Chg w w' S' :=
  ⟨h.os, h.tape, h.output, h.size, fun k hk hn => h.block k hk (fun hS => hn (hs k hk hS))⟩

theorem Chg.trans {w w1 w2 : World} {S S' : Nat → Prop} (h : Chg w w1 S) (h' : Chg w1 w2 S') (hs : ∀ k, k < w.heap.size → S' k → S k) : Chg w w2 S :=
  ⟨h'.os.trans h.os, h'.tape.trans h.tape, h'.output.trans h.output, Nat.le_trans h.size h'.size, fun k hk hn =>
    (h'.block k (Nat.lt_of_lt_of_le hk h.size) (fun hS => hn (hs k hk hS))).trans (h.block k hk hn)⟩

theorem Chg.drewN {w w' : World} {S : Nat → Prop} (h : Chg w w' S) (n : Nat) : Chg w (w'.drewN n) S := ⟨h.os, h.tape, h.output, h.size, h.block⟩
theorem Chg.drew {w w' : World} {S : Nat → Prop} (h : Chg w w' S) : Chg w w'.drew S := ⟨h.os, h.tape, h.output, h.size, h.block⟩
theorem Chg.alloc {w w' : World} {S : Nat → Prop} (h : Chg w w' S) (o : Obj) : Chg w (w'.alloc o) S :=
  ⟨h.os, h.tape, h.output, Nat.le_trans h.size (by simp), fun k hk hn => (Below.heap_alloc _ _ _ (Nat.lt_of_lt_of_le hk h.size)).trans (h.block k hk hn)⟩
theorem Chg.setCell {w w' : World} {S : Nat → Prop} (h : Chg w w' S) {a : Addr} (ha : w.heap.size ≤ a.block ∨ S a.block) (u : Value) : Chg w (w'.setCell a u) S :=
  ⟨h.os, h.tape, h.output, Nat.le_trans h.size (by simp [World.setCell]), fun k hk hn =>
    (Below.heap_setCell _ _ _ _ (by rintro rfl; rcases ha with ha | ha; omega; exact hn ha)).trans (h.block k hk hn)⟩
theorem Chg.grown {w w' w2 : World} {S : Nat → Prop} {row : Option Nat} (h : Chg w w' S) (hg : w'.grownBy w2 row) (hr : ∀ k, row = some k → w.heap.size ≤ k ∨ S k) : Chg w w2 S :=
  ⟨hg.os.trans h.os, hg.tape.trans h.tape, hg.output.trans h.output, Nat.le_trans h.size hg.size, fun k hk hn =>
    (hg.block k (Nat.lt_of_lt_of_le hk h.size) (by intro e; rcases hr k e.symm with h1 | h1; omega; exact hn h1)).trans (h.block k hk hn)⟩
theorem Chg.below {w w' : World} (h : Chg w w' Nothing) : Below w.heap.size w w' := ⟨h.os, h.tape, h.output, h.size, fun k hk => h.block k hk id⟩
theorem Chg.of_below {w w' : World} (h : Below w.heap.size w w') (S : Nat → Prop) : Chg w w' S := ⟨h.os, h.tape, h.output, h.size, fun k hk _ => h.block k hk⟩

/-- A block of cells known whole: its cells, its marks. -/
theorem blk_cell {w : World} {b : Nat} {cs : Array Value} {T : TypeId} {fr : Nat × Nat} (h : w.heap[b]? = some (.cells cs T fr)) (o : Nat) : w.cell? ⟨b, o, none⟩ = cs[o]? := by simp [World.cell?, h]
theorem blk_free {w : World} {b : Nat} {cs : Array Value} {T : TypeId} (h : w.heap[b]? = some (.cells cs T (0, 0))) (o : Nat) : w.frozen? ⟨b, o, none⟩ = false := by simp [World.frozen?, h]
theorem blk_lt {w : World} {b : Nat} {o : Obj} (h : w.heap[b]? = some o) : b < w.heap.size := (Array.getElem?_eq_some_iff.1 h).1
theorem blk_set {w : World} {b : Nat} {cs : Array Value} {T : TypeId} {fr : Nat × Nat} (h : w.heap[b]? = some (.cells cs T fr)) (o : Nat) (u : Value) :
    (w.setCell ⟨b, o, none⟩ u).heap[b]? = some (.cells (cs.setIfInBounds o u) T fr) := by
  simp [World.setCell, Array.getElem?_modify, h]
theorem blk_set_other {w : World} {b : Nat} {x : Option Obj} {a : Addr} (h : w.heap[b]? = x) (hne : b ≠ a.block) (u : Value) : (w.setCell a u).heap[b]? = x :=
  (Below.heap_setCell _ _ _ _ hne).trans h
theorem blk_alloc {w : World} {b : Nat} {o : Obj} (h : w.heap[b]? = some o) (o' : Obj) : (w.alloc o').heap[b]? = some o :=
  (Below.heap_alloc _ _ _ (blk_lt h)).trans h

theorem cell_lt {w : World} {a : Addr} {v : Value} (h : w.cell? a = some v) : a.block < w.heap.size := World.block_lt_of_cell? w a h
theorem cell_alloc {w : World} {a : Addr} {v : Value} (h : w.cell? a = some v) (o : Obj) : (w.alloc o).cell? a = some v :=
  (World.cell?_of_block (w := w) (Below.heap_alloc _ _ _ (cell_lt h))).trans h
theorem Chg.cell {w w' : World} {S : Nat → Prop} (h : Chg w w' S) {a : Addr} {v : Value} (hv : w.cell? a = some v) (hS : ¬ S a.block) : w'.cell? a = some v :=
  (World.cell?_of_block (w := w) (h.block _ (cell_lt hv) hS)).trans hv
theorem ownsRow_shape {w : World} {base : Nat} {e : TypeId} {size : Nat} {v : Value} {n : Nat} {xs : List Value} (h : w.ownsRow base e size v n xs) : (∃ a c, v = .slice a n c) ∧ (0 < n → ∃ g c, v = .slice (some ⟨g, 0, none⟩) n c) := by
  rcases h.2 with ⟨rfl, rfl⟩ | ⟨g, cap, cur, rfl, _⟩
  · exact ⟨⟨_, _, rfl⟩, by omega⟩
  · exact ⟨⟨_, _, rfl⟩, fun _ => ⟨_, _, rfl⟩⟩

theorem ownsRow_base {w : World} {base base' : Nat} {e : TypeId} {size : Nat} {v : Value} {n : Nat} {xs : List Value} (h : w.ownsRow base e size v n xs) (hb : base' ≤ base) : w.ownsRow base' e size v n xs := by
  refine ⟨h.1, ?_⟩
  rcases h.2 with h | ⟨g, cap, cur, rfl, hg, hr⟩
  · exact .inl h
  · exact .inr ⟨g, cap, cur, rfl, Nat.le_trans hb hg, hr⟩

theorem ownsRow_rebase {w : World} {base base' : Nat} {e : TypeId} {size : Nat} {v : Value} {n : Nat} {xs : List Value} (h : w.ownsRow base e size v n xs) (hb : ∀ g, v.ownBlock = some g → base' ≤ g) : w.ownsRow base' e size v n xs := by
  refine ⟨h.1, ?_⟩
  rcases h.2 with h | ⟨g, cap, cur, rfl, hg, hr⟩
  · exact .inl h
  · exact .inr ⟨g, cap, cur, rfl, hb g rfl, hr⟩

theorem ownsRow_heap {w w' : World} {base : Nat} {e : TypeId} {size : Nat} {v : Value} {n : Nat} {xs : List Value} (h : w.ownsRow base e size v n xs) (hb : ∀ k, v.ownBlock = some k → w'.heap[k]? = w.heap[k]?) : w'.ownsRow base e size v n xs := by
  refine ⟨h.1, ?_⟩
  rcases h.2 with h | ⟨g, cap, cur, rfl, hg, hh, hr⟩
  · exact .inl h
  · exact .inr ⟨g, cap, cur, rfl, hg, (hb g rfl).trans hh, hr⟩
/-- A float by its bits. -/
abbrev fl : Nat → Value := Value.float .f64

/-- What a slice's address leads to: the cells xs. -/
def Sees (w : World) (a : Option Addr) (xs : List Value) : Prop := xs = [] ∨ ∃ b o, a = some ⟨b, o, none⟩ ∧ ∀ j u, xs[j]? = some u → w.cell? ⟨b, o + j, none⟩ = some u
theorem Sees.of_owns {w : World} {base : Nat} {e : TypeId} {size : Nat} {a : Option Addr} {n c : Nat} {xs : List Value} (h : w.ownsRow base e size (.slice a n c) n xs) : Sees w a xs := by
  rcases h.2 with ⟨hv, h0⟩ | ⟨g, cap, cur, hv, _⟩
  · exact .inl (List.eq_nil_of_length_eq_zero (by rw [h.1, h0, Nat.zero_mul]))
  · injection hv with hv
    subst hv
    refine .inr ⟨g, 0, rfl, fun j u hu => ?_⟩
    have := h.cells (g := g) rfl j u hu
    rwa [show (⟨g, 0, none⟩ : Addr).add j = ⟨g, 0 + j, none⟩ by unfold Addr.add; split <;> simp_all] at this
theorem ownsRow_low {w : World} {base : Nat} {e : TypeId} {size : Nat} {a : Option Addr} {n c : Nat} {xs : List Value} (h : w.ownsRow base e size (.slice a n c) n xs) (w' : World) (hb : ∀ k, base ≤ k ∧ k < w.heap.size → w'.heap[k]? = w.heap[k]?) : Sees w' a xs := by
  rcases Sees.of_owns h with h' | ⟨b, o, rfl, h'⟩
  · exact .inl h'
  · exact .inr ⟨b, o, rfl, fun j u hu => (World.cell?_of_block (w := w) (hb b (h.lt b rfl))).trans (h' j u hu)⟩
theorem Sees.chg {w w' : World} {a : Option Addr} {xs : List Value} (h : Sees w a xs) (hc : Chg w w' Nothing) : Sees w' a xs := by
  rcases h with h | ⟨b, o, rfl, h⟩
  · exact .inl h
  · exact .inr ⟨b, o, rfl, fun j u hu => hc.cell (h j u hu) id⟩
theorem Sees.drewN {w : World} {a : Option Addr} {xs : List Value} (h : Sees w a xs) (n : Nat) : Sees (w.drewN n) a xs := h
theorem Sees.take {w : World} {a : Option Addr} {xs : List Value} (h : Sees w a xs) (n : Nat) : Sees w a (xs.take n) := by
  rcases h with rfl | ⟨b, o, rfl, h⟩
  · exact .inl (by simp)
  · refine .inr ⟨b, o, rfl, fun j u hu => h j u ?_⟩
    rw [List.getElem?_take] at hu
    split at hu
    · exact hu
    · cases hu

/-- 'append(xs, ..)' on a row that is owned: where the new row lies. -/
theorem append_any {P : Program} {w : World} {ops : Array Oper} {rest : List Oper} {o : Oper} {a : Act} {Q : Exit → Act → World → Prop} (hgd : o.guard = none) (s x : Operand) (t e : TypeId)
    (ho : o.op = .call { callee := .builtin .append, args := #[s, x], argTypes := #[t, t] }) (z : Value) (size bytes : Nat) (ht : P.underlying t = some (.slice e))
    (hinf : (P.info? e).map (fun i => (i.zero, i.size, i.bytes)) = some (some z, size, bytes)) (hzs : z.cells.size = size) (hsz : 0 < size)
    (v : Value) (n : Nat) (xs : List Value) (hs : a.eval s = v) (hown : w.ownsRow 0 e size v n xs)
    (ad : Addr) (m c : Nat) (hx : a.eval x = .slice (some ad) m c) (news : List Value) (hl : news.length = m * size) (hnews : ∀ j u, news[j]? = some u → w.cell? (ad.add j) = some u) (h1 : ∀ u ∈ news, u.oneCell' = true)
    (h63 : n + m ≤ maxLen) (hbytes : (n + m) * bytes ≤ 140737488355328)
    (h : ∀ v' w', w'.ownsRow 0 e size v' (n + m) (xs ++ news) → w.grownBy w' v.ownBlock → (∀ g, v'.ownBlock = some g → v.ownBlock = some g ∨ w.heap.size ≤ g) →
      wpList P ops Q rest (a.put o.dst v') w') : wpList P ops Q (o :: rest) a w := by
  obtain ⟨i, hi, hz, hsize, hby⟩ := info_parts hinf
  by_cases hfit : ∃ g cap, v = .slice (some ⟨g, 0, none⟩) n cap ∧ n + m ≤ cap
  · obtain ⟨g, cap, rfl, hfit⟩ := hfit
    refine wpList_append_fits w hgd s x t ho 0 e i size ht hi hsize g n cap xs hs hown ad m c news hx hl hnews h1 hfit ?_
    intro w' hw' hg
    exact h _ w' hw' hg (fun g' hg' => .inl hg')
  · by_cases hm : m = 0
    · subst hm
      have hn : news = [] := List.eq_nil_of_length_eq_zero (by simpa using hl)
      subst hn
      refine wpList_append_own w hgd s x t ho 0 e i z size bytes ht hi hz hsize hby hzs hsz v n xs hs hown ad 0 c [] hx hl hnews h1 h63 hbytes (Nat.zero_le _) ?_
      intro v' w' hw' hg hnil
      rcases hown.2 with ⟨rfl, rfl⟩ | ⟨g, cap, cur, rfl, _, hh, hnc, _⟩
      · obtain rfl := hnil.2 ⟨rfl, rfl⟩
        exact h _ w' hw' hg (by simp [Value.ownBlock])
      · exact absurd ⟨g, cap, rfl, hnc⟩ hfit
    · obtain ⟨ao, cap, rfl⟩ := (ownsRow_shape hown).1
      refine wpList_append_grows w hgd s x t ho e i z size bytes ht hi hz hsize hby hzs hsz ao n cap xs hs ?_ hown.1 ?_ ad m c news hx hl hnews h1 ?_ h63 hbytes ?_
      · rintro rfl
        rcases hown.2 with ⟨hv, rfl⟩ | ⟨g, cap', cur, hv, _⟩
        · injection hv with _ _ hv; exact ⟨rfl, hv⟩
        · injection hv with hv; cases hv
      · intro b hb j u hu
        subst hb
        rcases hown.2 with ⟨hv, rfl⟩ | ⟨g, cap', cur, hv, _⟩
        · injection hv with hv; cases hv
        · injection hv with hv
          cases hv
          exact hown.cells (g := g) rfl j u hu
      · rcases hown.2 with ⟨hv, rfl⟩ | ⟨g, cap', cur, hv, _⟩
        · injection hv with _ _ hv; subst hv; omega
        · injection hv with hv hv2 hv3
          subst hv hv3
          exact Nat.lt_of_not_le fun hle => hfit ⟨g, _, rfl, hle⟩
      · intro v' w' hw' hg
        exact h v' w' (ownsRow_base hw' (Nat.zero_le _)) ⟨hg.os, hg.tape, hg.output, hg.size, fun k hk hne => hg.block k hk (by simp)⟩ (fun g hg' => .inr (hw'.lt g hg').1)

/-- 'xs = append(xs, x)', x laid at the head of a block of its own: the new slice shows its head. -/
theorem append_one {P : Program} {w : World} {ops : Array Oper} {rest : List Oper} {o : Oper} {a : Act} {Q : Exit → Act → World → Prop} (hgd : o.guard = none) (s x : Operand) (t e : TypeId)
    (ho : o.op = .call { callee := .builtin .append, args := #[s, x], argTypes := #[t, t] }) (z : Value) (size bytes : Nat) (ht : P.underlying t = some (.slice e))
    (hinf : (P.info? e).map (fun i => (i.zero, i.size, i.bytes)) = some (some z, size, bytes)) (hzs : z.cells.size = size) (hsz : 0 < size)
    (v : Value) (n : Nat) (xs : List Value) (hs : a.eval s = v) (hown : w.ownsRow 0 e size v n xs)
    (b c : Nat) (hx : a.eval x = .slice (some ⟨b, 0, none⟩) 1 c) (news : List Value) (hl : news.length = size) (hnews : ∀ j u, news[j]? = some u → w.cell? ⟨b, j, none⟩ = some u) (h1 : ∀ u ∈ news, u.oneCell' = true)
    (h63 : n + 1 ≤ maxLen) (hbytes : (n + 1) * bytes ≤ 140737488355328)
    (h : ∀ g cap w', w'.ownsRow 0 e size (.slice (some ⟨g, 0, none⟩) (n + 1) cap) (n + 1) (xs ++ news) → w.grownBy w' v.ownBlock → (v.ownBlock = some g ∨ w.heap.size ≤ g) →
      wpList P ops Q rest (a.put o.dst (.slice (some ⟨g, 0, none⟩) (n + 1) cap)) w') : wpList P ops Q (o :: rest) a w := by
  have hadd : ∀ j, (⟨b, 0, none⟩ : Addr).add j = ⟨b, j, none⟩ := fun j => by unfold Addr.add; split <;> simp_all
  refine append_any hgd s x t e ho z size bytes ht hinf hzs hsz v n xs hs hown ⟨b, 0, none⟩ 1 c hx news (by simpa using hl) (fun j u hu => by rw [hadd]; exact hnews j u hu) h1 h63 hbytes ?_
  intro v' w' hw' hg hv
  obtain ⟨g, cap, rfl⟩ := (ownsRow_shape hw').2 (by omega)
  exact h g cap w' hw' hg (hv g rfl)

/-- 'make([]T, n)': a row of zeros. -/
theorem make_row {P : Program} {w : World} {ops : Array Oper} {rest : List Oper} {o : Oper} {a : Act} {Q : Exit → Act → World → Prop} (hg : o.guard = none) (l c : Operand) (t e : TypeId) (hop : o.op = Op.makeSlice t l c)
    (z : Value) (bytes : Nat) (ht : P.underlying t = some (.slice e)) (hinf : (P.info? e).map (fun i => (i.zero, i.size, i.bytes)) = some (some z, 1, bytes)) (hz : z.cells = #[z])
    (kl kc : IntKind) (L C : Int) (n : Nat) (hl : a.eval l = .int kl L) (hc : a.eval c = .int kc C) (hL : L = (n : Int)) (hC : C = (n : Int)) (b2 : bytes * n ≤ 281474976710656) (b3 : n ≤ maxLen)
    (hK : ∀ w', w'.ownsRow w.heap.size e 1 (.slice (some ⟨w.heap.size, 0, none⟩) n n) n (List.replicate n z) → w.grownBy w' none → wpList P ops Q rest (a.put o.dst (.slice (some ⟨w.heap.size, 0, none⟩) n n)) w') : wpList P ops Q (o :: rest) a w := by
  obtain ⟨i, hi, hz0, hsize, hby⟩ := info_parts hinf
  refine wpList_make_full w hg l c t hop w.heap.size e i z 1 ht hi hz0 hsize kl kc L C n hl hc hL hC (by rw [hby]; exact b2) b3 (Nat.le_refl _) fun w' h1 h2 => hK w' ?_ h2
  have e1 : (madeCells z.cells (n * 1)).toList = List.replicate n z := by
    rw [hz, Nat.mul_one]
    simp [madeCells, Nat.mod_one, List.map_const']
  rw [e1] at h1
  exact h1

/-- 'copy(dst, src)' where both are of one length, dst a row that is owned. -/
theorem copy_row {P : Program} {w : World} {ops : Array Oper} {rest : List Oper} {o : Oper} {a : Act} {Q : Exit → Act → World → Prop} (hgd : o.guard = none) (d s : Operand) (dT sT : TypeId)
    (ho : o.op = .call { callee := .builtin .copy, args := #[d, s], argTypes := #[dT, sT] }) (e : TypeId) (hu : P.underlying dT = some (.slice e)) (hsz : (P.info? e).map (·.size) = some 1)
    (base : Nat) (v : Value) (n : Nat) (ys : List Value) (hd : a.eval d = v) (hown : w.ownsRow base e 1 v n ys) (sp : Option Addr) (sCap : Nat) (hs : a.eval s = .slice sp n sCap) (xs : List Value) (hx : xs.length = n) (hsee : Sees w sp xs) (h1 : ∀ u ∈ xs, u.oneCell' = true)
    (h : ∀ w', w'.ownsRow base e 1 v n xs → w.grownBy w' v.ownBlock → wpList P ops Q rest (a.put o.dst (goInt n)) w') : wpList P ops Q (o :: rest) a w := by
  subst hx
  by_cases h0 : xs.length = 0
  · obtain rfl : xs = [] := List.eq_nil_of_length_eq_zero h0
    obtain ⟨⟨dp, dCap, rfl⟩, _⟩ := ownsRow_shape hown
    refine wpList_copy_nothing hgd d s dT sT ho e hu hsz dp sp 0 dCap 0 sCap hd hs rfl ?_
    refine h w ?_ (World.grownBy.refl _ _)
    have : ys = [] := List.eq_nil_of_length_eq_zero (by simpa using hown.1)
    subst this
    exact hown
  · rcases hown.2 with ⟨_, hn⟩ | ⟨g, cap, cur, rfl, hb, hg, hnc, hcm, hcs, htake⟩
    · exact absurd hn h0
    · rcases hsee with rfl | ⟨b, off, rfl, hc⟩
      · exact absurd rfl h0
      · have hfit : 0 + xs.length ≤ cur.size := by omega
        refine wpList_copy_own hgd d s dT sT ho e hu hsz g 0 xs.length cap ⟨b, off, none⟩ xs.length sCap hd hs cur e hg xs (by simp) ?_ hfit h1 ?_
        · intro j v hj
          rw [Addr.add_lit]
          exact hc j v hj
        · refine h _ ⟨by simp, .inr ⟨g, cap, _, rfl, hb, setRow_heap w g cur _ e _ hg, hnc, hcm, ?_, ?_⟩⟩ ⟨rfl, rfl, rfl, by simp [World.setRow], fun k _ hk => setRow_other w g k _ (fun e => hk (by simp [Value.ownBlock, e]))⟩
          · simp; omega
          · simp
/-- A row of the call's own, grown by one. -/
theorem own_more {w wr w2 : World} {E : TypeId} {n : Nat} {v v' u : Value} {o : Obj} {xs ys : List Value} {size : Nat} (hown2 : w2.ownsRow 0 E size v' (n + 1) (ys ++ [u])) (hk : ys ++ [u] = xs.take (n + 1)) (hown : wr.ownsRow w.heap.size E size v n ys) (hchg : Chg w wr Nothing)
    (hg : (wr.alloc o).grownBy w2 v.ownBlock) (hgg : ∀ g, v'.ownBlock = some g → v.ownBlock = some g ∨ wr.heap.size + 1 ≤ g) :
    w2.ownsRow w.heap.size E size v' (n + 1) (xs.take (n + 1)) ∧ Chg w w2 Nothing := by
  refine ⟨?_, (hchg.alloc o).grown hg (fun k hk => .inl (hown.lt k hk).1)⟩
  rw [← hk]
  refine ownsRow_rebase hown2 fun g hg' => ?_
  rcases hgg g hg' with h | h
  · exact (hown.lt g h).1
  · have := hchg.size; omega

end Go.Proofs.YtgeapkalabijmaaGreat

/- Floats by their bits: the small functions of layer 1 that the layers above use. -/
namespace Go.Proofs.YtgeapkalabijmaaGreat
open Go Go.RowKit
set_option maxRecDepth 100000
set_option maxHeartbeats 1000000
set_option linter.unusedVariables false
set_option linter.unusedSimpArgs false

/-- math's two views of a float's bits. -/
theorem bits_law (b : Nat) (w : World) : (callFunc 69 #[.float .f64 b]).run Tryz.prog w = .ok (.value (.int .u64 b)) w := by
  rw [run_callFunc_extern (e := Extern.MathFloatBits.float64bits) Tryz.func69 (by kernel_rfl) (by kernel_rfl) (by kernel_rfl) (by kernel_rfl)]
  rfl
theorem frombits_law (b : Int) (w : World) : (callFunc 154 #[.int .u64 b]).run Tryz.prog w = .ok (.value (.float .f64 b.toNat)) w := by
  rw [run_callFunc_extern (e := Extern.MathFloatBits.float64frombits) Tryz.func154 (by kernel_rfl) (by kernel_rfl) (by kernel_rfl) (by kernel_rfl)]
  rfl
attribute [go_sem] bits_law frombits_law

/-- Is it a NaN? -/
def nanB (b : Nat) : Bool := FloatKind.f64.format.order b b != some .eq
/-- The one NaN in the place of each. -/
def fixB (b : Nat) : Nat := if nanB b then 9221120237041090560 else b

theorem fix_any (b : Nat) (w : World) : Calls Tryz.prog 115 #[.float .f64 b] w fun e w' => e = .returned (.float .f64 (fixB b)) ∧ w = w' := by
  have HF := Lib.hid (show fixB b = if nanB b then 9221120237041090560 else b from rfl)
  by_cases h : nanB b = true
  · have hn : (FloatKind.f64.format.order b b != some .eq) = true := h
    rw [if_pos h] at HF
    go_enter Tryz.func115, Tryz.ntmps115
    go_wp2
    go_ret
    rw [HF.out]
    exact ⟨rfl, rfl⟩
  · have hn : (FloatKind.f64.format.order b b != some .eq) = false := by simpa [nanB] using h
    rw [if_neg h] at HF
    go_enter Tryz.func115, Tryz.ntmps115
    go_wp2
    go_ret
    rw [HF.out]
    exact ⟨rfl, rfl⟩

theorem nbits_any (b : Nat) (w : World) : Calls Tryz.prog 91 #[.float .f64 b] w fun e w' => e = .returned (.int .u64 (fixB b)) ∧ w = w' := by
  go_enter Tryz.func91, Tryz.ntmps91
  go_wp2_with fail
  refine (fix_any _ _).mono ?_
  rintro e w' ⟨rfl, rfl⟩
  go_wp2_with fail
  go_ret
  exact ⟨rfl, rfl⟩

theorem same_any (a b : Nat) (w : World) : Calls Tryz.prog 41 #[.float .f64 a, .float .f64 b] w fun e w' => e = .returned (.bool ((fixB a : Int) == (fixB b : Int))) ∧ w = w' := by
  go_enter Tryz.func41, Tryz.ntmps41
  go_wp2_with fail
  refine (nbits_any _ _).mono ?_
  rintro e w' ⟨rfl, rfl⟩
  go_wp2_with fail
  refine (nbits_any _ _).mono ?_
  rintro e w' ⟨rfl, rfl⟩
  go_wp2_with fail
  go_ret
  exact ⟨rfl, rfl⟩


end Go.Proofs.YtgeapkalabijmaaGreat

/- Maps keyed by an int: what they are in memory, and their operations' laws. -/
namespace Go.Proofs.YtgeapkalabijmaaGreat
open Go Go.RowKit
set_option maxRecDepth 100000
set_option maxHeartbeats 1000000
set_option linter.unusedVariables false
set_option linter.unusedSimpArgs false

/-- Block b is a map that holds these, in this order. -/
def MapI (w : World) (b : Nat) (l : List (Int × Value)) : Prop := ∃ es clock, w.heap[b]? = some (.map es clock) ∧ es.toList.map (fun e => (e.key, e.val)) = l.map (fun t => (Value.int .i64 t.1, t.2))

section
variable {α : Type}
/-- Key k stands first at i. -/
def Kn (l : List (Int × α)) (k : Int) (i : Nat) : Prop := (∃ y, l[i]? = some (k, y)) ∧ ∀ j, j < i → ∀ t, l[j]? = some t → t.1 ≠ k
def Un (l : List (Int × α)) (k : Int) : Prop := ∀ t ∈ l, t.1 ≠ k
def pos (l : List (Int × α)) (k : Int) : Option Nat := l.findIdx? (fun t => t.1 == k)

theorem pos_cons (t : Int × α) (l : List (Int × α)) (k : Int) : pos (t :: l) k = if t.1 == k then some 0 else (pos l k).map (· + 1) := by
  simp only [pos, List.findIdx?_cons]
theorem Kn.of_pos : ∀ {l : List (Int × α)} {k : Int} {i : Nat}, pos l k = some i → Kn l k i
  | [], k, i, h => by simp [pos] at h
  | t :: l, k, i, h => by
    rw [pos_cons] at h
    by_cases e : t.1 == k
    · rw [if_pos e] at h
      cases h
      exact ⟨⟨t.2, by simp at e; simp [← e]⟩, fun j hj => absurd hj (Nat.not_lt_zero _)⟩
    · rw [if_neg e] at h
      rw [Option.map_eq_some_iff] at h
      obtain ⟨j, hj, rfl⟩ := h
      obtain ⟨⟨y, hy⟩, h2⟩ := Kn.of_pos hj
      refine ⟨⟨y, by simpa using hy⟩, fun m hm u hu => ?_⟩
      cases m with
      | zero => simp at hu; subst hu; simpa using e
      | succ m => exact h2 m (by omega) u (by simpa using hu)
theorem Un.of_pos {l : List (Int × α)} {k : Int} (h : pos l k = none) : Un l k := by
  intro t ht e
  simp [pos, List.findIdx?_eq_none_iff] at h
  exact h t.1 t.2 ht e
theorem Un.pos {l : List (Int × α)} {k : Int} (h : Un l k) : pos l k = none := by
  simp [Go.Proofs.YtgeapkalabijmaaGreat.pos, List.findIdx?_eq_none_iff]
  intro a b hm e
  exact h _ hm e
theorem Kn.tail {t : Int × α} {l : List (Int × α)} {k : Int} {i : Nat} (h : Kn (t :: l) k (i + 1)) : t.1 ≠ k ∧ Kn l k i := by
  obtain ⟨⟨y, hy⟩, h2⟩ := h
  exact ⟨h2 0 (by omega) t rfl, ⟨y, by simpa using hy⟩, fun j hj u hu => h2 (j + 1) (by omega) u (by simpa using hu)⟩
theorem Kn.pos : ∀ {l : List (Int × α)} {k : Int} {i : Nat}, Kn l k i → pos l k = some i
  | [], k, i, h => by obtain ⟨⟨y, hy⟩, _⟩ := h; simp at hy
  | t :: l, k, 0, h => by
    obtain ⟨⟨y, hy⟩, _⟩ := h
    simp at hy; subst hy
    rw [pos_cons]; simp
  | t :: l, k, i + 1, h => by
    obtain ⟨h1, h2⟩ := h.tail
    rw [pos_cons, if_neg (by simpa using h1), h2.pos]; rfl
theorem Kn.lt {l : List (Int × α)} {k : Int} {i : Nat} (h : Kn l k i) : i < l.length := by
  obtain ⟨⟨y, hy⟩, _⟩ := h
  exact (List.getElem?_eq_some_iff.1 hy).1
variable {β : Type}
theorem pos_map (f : α → β) : ∀ (l : List (Int × α)) (k : Int), pos (l.map fun t => (t.1, f t.2)) k = pos l k
  | [], k => rfl
  | t :: l, k => by rw [List.map_cons, pos_cons, pos_cons, pos_map f l k]
/-- Of distinct keys each stands first where it stands. -/
theorem Kn.of_nodup {l : List (Int × α)} (hn : (l.map (·.1)).Nodup) {i : Nat} {t : Int × α} (h : l[i]? = some t) : Kn l t.1 i := by
  refine ⟨⟨t.2, h⟩, fun j hj u hu e => ?_⟩
  have hi := (List.getElem?_eq_some_iff.1 h)
  have hj' := (List.getElem?_eq_some_iff.1 hu)
  obtain ⟨h1, h2⟩ := hi
  obtain ⟨h3, h4⟩ := hj'
  exact (List.pairwise_iff_getElem.1 hn) j i (by simpa using h3) (by simpa using h1) hj (by simp [h2, h4, e])
end

section
variable {P : Program} {w : World} {b : Nat} {l : List (Int × Value)} {K E T : TypeId} {k : Int} {i : Nat}

theorem findNow_kn : ∀ {es : List MapEntry} {l : List (Int × Value)} {k : Int} {i : Nat} (n : Nat), es.map (fun e => (e.key, e.val)) = l.map (fun t => (Value.int .i64 t.1, t.2)) → Kn l k i → Instr.findNow (.int .i64) (.int .i64 k) es n = some ((l[i]?).map fun t => (n + i, t.2))
  | [], [], k, i, n, _, h => by obtain ⟨⟨y, hy⟩, _⟩ := h; simp at hy
  | [], _ :: _, _, _, _, h, _ => by simp at h
  | _ :: _, [], _, _, _, h, _ => by simp at h
  | e :: es, t :: l, k, 0, n, he, h => by
    obtain ⟨⟨y, hy⟩, _⟩ := h
    simp at hy; subst hy
    simp at he
    simp [Instr.findNow, he.1.1, he.1.2, Instr.sameNow]
  | e :: es, t :: l, k, i + 1, n, he, h => by
    obtain ⟨h1, h2⟩ := h.tail
    simp only [List.map_cons, List.cons.injEq, Prod.mk.injEq] at he
    have := findNow_kn (n + 1) he.2 h2
    simp [Instr.findNow, he.1.1, he.1.2, Instr.sameNow, this, show (k == t.1) = false from by simpa using fun e => h1 e.symm]
    have hi := h2.lt
    simp [hi]
    omega

theorem findNow_un : ∀ {es : List MapEntry} {l : List (Int × Value)} {k : Int} (n : Nat), es.map (fun e => (e.key, e.val)) = l.map (fun t => (Value.int .i64 t.1, t.2)) → Un l k → Instr.findNow (.int .i64) (.int .i64 k) es n = some none
  | [], [], k, n, _, h => rfl
  | [], _ :: _, _, _, h, _ => by simp at h
  | _ :: _, [], _, _, h, _ => by simp at h
  | e :: es, t :: l, k, n, he, h => by
    simp only [List.map_cons, List.cons.injEq, Prod.mk.injEq] at he
    have := findNow_un (n + 1) he.2 (fun u hu => h u (by simp [hu]))
    simp [Instr.findNow, he.1.1, he.1.2, Instr.sameNow, this, show (k == t.1) = false from by simpa using fun e => h t (by simp) e.symm]

theorem run_keyInt (hk : P.underlying K = some (.int .i64)) (e : Bool) : (Instr.checkKey e 10000 K (.int .i64 k)).run P w = .ok () w := MapKept.run_checkKey (k := .int .i64 k) hk (by simp [MapKept.IsKey]) e 9999
theorem run_staysInt : (Instr.keyThatStays (.int .i64 k) (.int .i64 k)).run P w = .ok (.int .i64 k) w := by simp [Instr.keyThatStays, Instr.sameBits]

theorem MapI.look_kn (h : MapI w b l) (ht : P.underlying T = some (.map K E)) (hk : P.underlying K = some (.int .i64)) (hn : Kn l k i) (ok : Bool) {v : Value} (hv : l[i]? = some (k, v)) :
    (Instr.lookup T (.map (some b)) (.int .i64 k) ok).run P w = .ok (if ok then .tuple #[v, .bool true] else v) w := by
  obtain ⟨es, clock, hb, he⟩ := h
  have h1 : (Instr.findKey K (.int .i64 k) es.toList).run P w = .ok (some (i, v)) w := MapKept.run_findKey hk (by rw [findNow_kn 0 he hn, hv]; simp)
  simp [Instr.lookup, run_underlying ht, MapKept.run_getObj_map hb, run_keyInt hk, h1, Result.andThen]

theorem MapI.look_un (h : MapI w b l) (ht : P.underlying T = some (.map K E)) (hk : P.underlying K = some (.int .i64)) (hn : Un l k) (ok : Bool) {z : Value} (hz : (zeroValue E).run P w = .ok z w) :
    (Instr.lookup T (.map (some b)) (.int .i64 k) ok).run P w = .ok (if ok then .tuple #[z, .bool false] else z) w := by
  obtain ⟨es, clock, hb, he⟩ := h
  have h1 : (Instr.findKey K (.int .i64 k) es.toList).run P w = .ok none w := MapKept.run_findKey hk (findNow_un 0 he hn)
  simp [Instr.lookup, run_underlying ht, MapKept.run_getObj_map hb, run_keyInt hk, h1, hz, Result.andThen]

theorem chg_set {o o' : Obj} (hb : w.heap[b]? = some o) : Chg w { w with heap := w.heap.setIfInBounds b o' } (fun k => k = b) :=
  ⟨rfl, rfl, rfl, by simp, fun k hk hne => (MapKept.heap_set hb).2 k hne⟩

theorem MapI.put_kn (h : MapI w b l) (ht : P.underlying T = some (.map K E)) (hk : P.underlying K = some (.int .i64)) (hn : Kn l k i) (v : Value) :
    ∃ w', (Instr.mapUpdate T (.map (some b)) (.int .i64 k) v).run P w = .ok () w' ∧ MapI w' b (l.set i (k, v)) ∧ Chg w w' (fun j => j = b) := by
  obtain ⟨es, clock, hb, he⟩ := h
  obtain ⟨⟨y, hy⟩, _⟩ := id hn
  have h1 : (Instr.findKey K (.int .i64 k) es.toList).run P w = .ok (some (i, y)) w := MapKept.run_findKey hk (by rw [findNow_kn 0 he hn, hy]; simp)
  have hi : (es.toList.map (fun e => (e.key, e.val)))[i]? = some (.int .i64 k, y) := by rw [he]; simp [hy]
  rw [List.getElem?_map, Option.map_eq_some_iff] at hi
  obtain ⟨e0, he0, hee⟩ := hi
  simp at hee
  have he1 : es[i]? = some e0 := by simpa using he0
  refine ⟨_, by simp [Instr.mapUpdate, run_underlying ht, MapKept.run_getObj_map hb, run_keyInt hk, h1, he1, hee.1, run_staysInt, MapKept.run_setObj_map _ hb, Result.andThen]; rfl, ⟨_, clock, (MapKept.heap_set hb).1, ?_⟩, chg_set hb⟩
  rw [Array.toList_modify, ChangeMaps.modify_eq_set _ _ _ _ he0, List.map_set, List.map_set, he]

theorem MapI.put_un (h : MapI w b l) (ht : P.underlying T = some (.map K E)) (hk : P.underlying K = some (.int .i64)) (hn : Un l k) (v : Value) :
    ∃ w', (Instr.mapUpdate T (.map (some b)) (.int .i64 k) v).run P w = .ok () w' ∧ MapI w' b (l ++ [(k, v)]) ∧ Chg w w' (fun j => j = b) := by
  obtain ⟨es, clock, hb, he⟩ := h
  have h1 : (Instr.findKey K (.int .i64 k) es.toList).run P w = .ok none w := MapKept.run_findKey hk (findNow_un 0 he hn)
  refine ⟨_, by simp [Instr.mapUpdate, run_underlying ht, MapKept.run_getObj_map hb, run_keyInt hk, h1, MapKept.run_setObj_map _ hb, Result.andThen]; rfl, ⟨_, clock + 1, (MapKept.heap_set hb).1, ?_⟩, chg_set hb⟩
  rw [Array.toList_push, List.map_append, List.map_append, he]
  rfl

theorem MapI.clear (h : MapI w b l) (ht : P.underlying T = some (.map K E)) (R : TypeId) :
    ∃ w', (Builtin.clear_ #[T] R #[.map (some b)]).run P w = .ok (.tuple #[]) w' ∧ MapI w' b [] ∧ Chg w w' (fun j => j = b) := by
  obtain ⟨es, clock, hb, he⟩ := h
  refine ⟨_, by simp [Builtin.clear_, run_underlying ht, MapKept.run_getObj_map hb, MapKept.run_setObj_map _ hb, Result.andThen], ⟨#[], clock, (MapKept.heap_set hb).1, rfl⟩, chg_set hb⟩

theorem MapI.made (w : World) : MapI (w.alloc (.map #[] 0)) w.heap.size [] := ⟨#[], 0, heap_alloc_new w _, rfl⟩
theorem MapI.frame {w' : World} (h : MapI w b l) (hb : w'.heap[b]? = w.heap[b]?) : MapI w' b l := by
  obtain ⟨es, clock, h1, he⟩ := h
  exact ⟨es, clock, hb.trans h1, he⟩
theorem MapI.lt (h : MapI w b l) : b < w.heap.size := by
  obtain ⟨es, clock, h1, he⟩ := h
  exact blk_lt h1

/-- A map held against nil; a map out of an interface; the model's own clone. -/
theorem run_map_nil0 (d : Nat) (p : Option Nat) (ht : P.underlying T = some (.map K E)) : (Op.equalIn (d + 1) T (.map p) (.map none)).run P w = .ok p.isNone w := by
  cases p <;> simp [Op.equalIn, run_underlying ht]
theorem run_map_nil (p : Option Nat) (ht : P.underlying T = some (.map K E)) : (binOp .eql T (.map p) (.map none)).run P w = .ok (.bool p.isNone) w := by
  simp only [binOp]
  have h : (Op.equal T (.map p) (.map none)).run P w = .ok p.isNone w := by
    exact run_map_nil0 9999 p ht
  simp [h]
theorem run_map_assert (X : TypeId) (v : Value) (ht : P.underlying T = some (.map K E)) : (Instr.typeAssert (.iface T v) X T false).run P w = .ok v w := by
  simp [Instr.typeAssert, run_underlying ht, go_sem, Result.andThen]
theorem MapI.cloned (h : MapI w b l) : ∃ w', (Extern.MapsClone.clone #[.iface T (.map (some b))]).run P w = .ok (.iface T (.map (some w.heap.size))) w' ∧ MapI w' w.heap.size l ∧ w'.heap.size = w.heap.size + 1 ∧ Chg w w' Nothing := by
  obtain ⟨es, clock, hb, he⟩ := h
  refine ⟨w.alloc (.map es clock), ?_, ⟨es, clock, heap_alloc_new w _, he⟩, by simp, (Chg.refl _ _).alloc _⟩
  have e : Extern.MapsClone.clone #[.iface T (.map (some b))] = (getObj b >>= fun o => match o with
      | .map entries clock => (newObj (.map entries clock) >>= fun n => pure (.iface T (.map (some n))))
      | _ => stuck "maps.clone: a map expected") := rfl
  rw [e]
  simp [MapKept.run_getObj_map hb, Result.andThen, go_sem]
end
end Go.Proofs.YtgeapkalabijmaaGreat

/- A stack behind a pointer: what it is in memory. -/
namespace Go.Proofs.YtgeapkalabijmaaGreat
open Go Go.RowKit
set_option maxRecDepth 100000
set_option maxHeartbeats 1000000
set_option linter.unusedVariables false
set_option linter.unusedSimpArgs false

/-- A stack at block p, its struct of type T, its things of type E, one cell each: F holds all its blocks. -/
def Stk (T E : TypeId) (w : World) (p : Nat) (F : Nat → Prop) (xs : List Value) (room : Int) : Prop :=
  ∃ v, w.heap[p]? = some (.cells #[v, .int .i64 room] T (0, 0)) ∧ w.ownsRow 0 E 1 v xs.length xs ∧ F p ∧ (∀ k, v.ownBlock = some k → F k ∧ k ≠ p) ∧
    (∀ k, F k → k < w.heap.size) ∧ (xs.length : Int) ≤ room ∧ room ≤ 65536 ∧ ∃ a c, v = .slice a xs.length c

section
variable {T E : TypeId} {w w' : World} {p : Nat} {F S : Nat → Prop} {xs : List Value} {room : Int} {x : Value}

theorem ownsRow_blk {v : Value} {n : Nat} (h : w.ownsRow 0 E 1 v n xs) (hb : ∀ k, v.ownBlock = some k → w'.heap[k]? = w.heap[k]?) : w'.ownsRow 0 E 1 v n xs := by
  refine ⟨h.1, ?_⟩
  rcases h.2 with h | ⟨g, cap, cur, rfl, hg, hh, hr⟩
  · exact .inl h
  · exact .inr ⟨g, cap, cur, rfl, hg, (hb g rfl).trans hh, hr⟩

theorem Stk.frame (h : Stk T E w p F xs room) (hs : w.heap.size ≤ w'.heap.size) (hb : ∀ k, F k → w'.heap[k]? = w.heap[k]?) : Stk T E w' p F xs room := by
  obtain ⟨v, h1, h2, h3, h4, h5, h6, h7, h8⟩ := h
  exact ⟨v, (hb p h3).trans h1, ownsRow_blk h2 (fun k hk => hb k (h4 k hk).1), h3, h4, fun k hk => Nat.lt_of_lt_of_le (h5 k hk) hs, h6, h7, h8⟩

theorem Stk.lt (h : Stk T E w p F xs room) : ∀ k, F k → k < w.heap.size := by obtain ⟨v, h1, h2, h3, h4, h5, h6⟩ := h; exact h5

theorem Stk.fits (h : Stk T E w p F xs room) : (xs.length : Int) ≤ room ∧ room ≤ 65536 := by obtain ⟨v, h1, h2, h3, h4, h5, h6, h7, _⟩ := h; exact ⟨h6, h7⟩

theorem Stk.has (h : Stk T E w p F xs room) : F p := by obtain ⟨v, h1, h2, h3, h4, h5, h6⟩ := h; exact h3

theorem Stk.chg (h : Stk T E w p F xs room) (hc : Chg w w' S) (hd : ∀ k, F k → ¬ S k) : Stk T E w' p F xs room :=
  h.frame hc.size fun k hk => hc.block k (h.lt k hk) (hd k hk)

theorem Stk.drewN (h : Stk T E w p F xs room) (n : Nat) : Stk T E (w.drewN n) p F xs room := h.frame (Nat.le_refl _) (fun _ _ => rfl)

/-- Its two cells. -/
theorem Stk.cells (h : Stk T E w p F xs room) : ∃ a c, w.cell? ⟨p, 0, none⟩ = some (.slice a xs.length c) ∧ w.cell? ⟨p, 1, none⟩ = some (.int .i64 room) ∧ (xs.length : Int) ≤ 65536 := by
  obtain ⟨v, h1, h2, h3, h4, h5, h6, h7, a, c, rfl⟩ := h
  exact ⟨a, c, blk_cell h1 0, blk_cell h1 1, by omega⟩

theorem Stk.free (h : Stk T E w p F xs room) (o : Nat) : w.frozen? ⟨p, o, none⟩ = false := by
  obtain ⟨v, h1, h2⟩ := h
  exact blk_free h1 o

theorem Stk.top (h : Stk T E w p F (xs ++ [x]) room) : ∃ g c, w.cell? ⟨p, 0, none⟩ = some (.slice (some ⟨g, 0, none⟩) (xs.length + 1) c) ∧ w.frozen? ⟨p, 0, none⟩ = false ∧ xs.length + 1 ≤ c ∧ (xs.length : Int) + 1 ≤ 65536 := by
  obtain ⟨v, h1, h2, h3, h4, h5, h6, h7, a, c, rfl⟩ := h
  rcases h2.2 with ⟨_, h⟩ | ⟨g, cap, cur, he, _, hh, hl, _⟩
  · simp at h
  · injection he with he1 he2 he3
    subst he1 he3
    simp at hl h6
    exact ⟨g, c, by rw [blk_cell h1 0]; simp, blk_free h1 0, hl, by omega⟩

theorem Stk.owns {a : Option Addr} {n c : Nat} (h : Stk T E w p F xs room) (c0 : w.cell? ⟨p, 0, none⟩ = some (.slice a n c)) : w.ownsRow 0 E 1 (.slice a n c) xs.length xs := by
  obtain ⟨v, h1, h2, _⟩ := h
  have := (blk_cell h1 0).symm.trans c0
  simp at this
  subst this
  exact h2

theorem Stk.cleared (h : Stk T E w p F xs room) : Stk T E (w.setCell ⟨p, 0, none⟩ (.slice none 0 0)) p F [] room := by
  obtain ⟨v, h1, h2, h3, h4, h5, h6, h7, a, c, rfl⟩ := h
  exact ⟨.slice none 0 0, by simpa using blk_set h1 0 (.slice none 0 0), World.ownsRow_nil _ _ _ _, h3, by simp [Value.ownBlock], fun k hk => by simpa [World.setCell] using h5 k hk, by simp; omega, h7, none, 0, rfl⟩

theorem Stk.popped {g c : Nat} (h : Stk T E w p F (xs ++ [x]) room) (c0 : w.cell? ⟨p, 0, none⟩ = some (.slice (some ⟨g, 0, none⟩) (xs.length + 1) c)) :
    Stk T E (w.setCell ⟨p, 0, none⟩ (.slice (some ⟨g, 0, none⟩) xs.length c)) p F xs room := by
  obtain ⟨v, h1, h2, h3, h4, h5, h6, h7, a, c', rfl⟩ := h
  have := (blk_cell h1 0).symm.trans c0
  simp at this
  obtain ⟨rfl, rfl⟩ := this
  refine ⟨.slice (some ⟨g, 0, none⟩) xs.length c', by simpa using blk_set h1 0 (.slice (some ⟨g, 0, none⟩) xs.length c'), ?_, h3, fun k hk => h4 k hk, fun k hk => by simpa [World.setCell] using h5 k hk, by simp at h6; omega, h7, _, _, rfl⟩
  refine ⟨by simp, ?_⟩
  rcases h2.2 with ⟨h, _⟩ | ⟨g', cap, cur, he, hg, hh, hl, hm, hs, ht⟩
  · simp at h
  · injection he with he1 he2 he3
    obtain rfl : g = g' := by simpa using he1
    subst he3
    refine .inr ⟨g, c', cur, rfl, hg, (blk_set_other hh (h4 g rfl).2 _), by simp at hl; omega, hm, hs, ?_⟩
    have := congrArg (List.take xs.length) ht
    simpa [List.take_take] using this

theorem Stk.chg0 (h : Stk T E w p F xs room) (u : Value) : Chg w (w.setCell ⟨p, 0, none⟩ u) F := (Chg.refl _ _).setCell (.inr h.has) _
theorem Stk.chg0' (h : Stk T E w p F xs room) (m : Nat) (u : Value) : Chg w ((w.drewN m).setCell ⟨p, 0, none⟩ u) F := ((Chg.refl _ _).drewN m).setCell (.inr h.has) _

theorem Stk.blk (h : Stk T E w p F xs room) {w1 w2 : World} {v : Value} (c0 : w.cell? ⟨p, 0, none⟩ = some v) (h1 : Chg w w1 Nothing) (hg : w1.grownBy w2 v.ownBlock) :
    w2.cell? ⟨p, 0, none⟩ = some v ∧ w2.frozen? ⟨p, 0, none⟩ = false := by
  obtain ⟨v', k1, k2, k3, k4, k5, k6, k7, a, c, hv'⟩ := h
  obtain rfl : v' = v := by have := (blk_cell k1 0).symm.trans c0; simpa using this
  have hp : p < w.heap.size := k5 p k3
  have hpb : w2.heap[p]? = some (.cells #[v', .int .i64 room] T (0, 0)) := by
    rw [hg.block p (Nat.lt_of_lt_of_le hp h1.size) (by intro e; exact (k4 p e.symm).2 rfl), h1.block p hp (fun h => h), k1]
  exact ⟨by rw [blk_cell hpb]; rfl, blk_free hpb 0⟩

theorem Stk.pushed {w1 w2 : World} {v : Value} {g cap : Nat} (h : Stk T E w p F xs room) (hl : (xs.length : Int) < room) (c0 : w.cell? ⟨p, 0, none⟩ = some v) (h1 : Chg w w1 Nothing) (hg : w1.grownBy w2 v.ownBlock)
    (hown : w2.ownsRow 0 E 1 (.slice (some ⟨g, 0, none⟩) (xs.length + 1) cap) (xs.length + 1) (xs ++ [x])) (hgg : v.ownBlock = some g ∨ w1.heap.size ≤ g) :
    Stk T E (w2.setCell ⟨p, 0, none⟩ (.slice (some ⟨g, 0, none⟩) (xs.length + 1) cap)) p (Grow F w (w2.setCell ⟨p, 0, none⟩ (.slice (some ⟨g, 0, none⟩) (xs.length + 1) cap))) (xs ++ [x]) room ∧
      Chg w (w2.setCell ⟨p, 0, none⟩ (.slice (some ⟨g, 0, none⟩) (xs.length + 1) cap)) F := by
  have hlt := h.lt
  obtain ⟨v', k1, k2, k3, k4, k5, k6, k7, a, c, hv'⟩ := h
  obtain rfl : v' = v := by have := (blk_cell k1 0).symm.trans c0; simpa using this
  have hp : p < w.heap.size := k5 p k3
  have hs2 : (w2.setCell ⟨p, 0, none⟩ (.slice (some ⟨g, 0, none⟩) (xs.length + 1) cap)).heap.size = w2.heap.size := by simp [World.setCell]
  have hsz : w.heap.size ≤ w2.heap.size := Nat.le_trans h1.size hg.size
  have hpb : w2.heap[p]? = some (.cells #[v', .int .i64 room] T (0, 0)) := by
    rw [hg.block p (Nat.lt_of_lt_of_le hp h1.size) (by intro e; exact (k4 p e.symm).2 rfl), h1.block p hp (fun h => h), k1]
  have hgp : g ≠ p := by rcases hgg with hgg | hgg; exact (k4 g hgg).2; have := h1.size; omega
  have hg2 := (hown.lt g rfl).2
  refine ⟨⟨.slice (some ⟨g, 0, none⟩) (xs.length + 1) cap, by simpa using blk_set hpb 0 _, ?_, .inl k3, ?_, ?_, by simp; omega, k7, some ⟨g, 0, none⟩, cap, by simp⟩, ?_⟩
  · rw [show (xs ++ [x]).length = xs.length + 1 by simp]
    exact ownsRow_blk hown (fun k hk => by simp [Value.ownBlock] at hk; subst hk; exact Below.heap_setCell _ _ _ _ hgp)
  · intro k hk
    simp [Value.ownBlock] at hk
    subst hk
    refine ⟨?_, hgp⟩
    rcases hgg with hgg | hgg
    · exact .inl (k4 g hgg).1
    · exact .inr ⟨Nat.le_trans h1.size hgg, by rw [hs2]; exact hg2⟩
  · intro k hk
    rw [hs2]
    rcases hk with hk | hk
    · exact Nat.lt_of_lt_of_le (k5 k hk) hsz
    · rw [hs2] at hk; exact hk.2
  · refine Chg.setCell (Chg.grown (h1.mono (fun k _ hk => hk.elim)) hg ?_) (.inr k3) _
    intro k hk
    exact .inr (k4 k hk).1
end

theorem ownsRow_at {E : TypeId} {w : World} {g cap : Nat} {xs : List Value} {n : Nat} (h : w.ownsRow 0 E 1 (.slice (some ⟨g, 0, none⟩) n cap) n xs) (j : Nat) (x : Value) (hj : xs[j]? = some x) :
    w.cell? ⟨g, j, none⟩ = some x := by
  have := h.cells (g := g) rfl j x hj
  rwa [show (⟨g, 0, none⟩ : Addr).add j = ⟨g, j, none⟩ by unfold Addr.add; split <;> simp_all] at this

theorem max2_int (k k' : IntKind) (x y : Int) : Builtin.max2 (.int k x) (.int k' y) = pure (.int k (if x < y then y else x)) := by simp only [Builtin.max2, gt_iff_lt]
theorem min2_int (k k' : IntKind) (x y : Int) : Builtin.min2 (.int k x) (.int k' y) = pure (.int k (if y < x then y else x)) := by simp only [Builtin.min2]
theorem max_two (ats : Array TypeId) (ty : TypeId) (a b : Value) : Builtin.max_ ats ty #[a, b] = (Builtin.max2 a b >>= fun s => pure s) := by simp only [Builtin.max_, List.foldlM_cons, List.foldlM_nil]
theorem min_two (ats : Array TypeId) (ty : TypeId) (a b : Value) : Builtin.min_ ats ty #[a, b] = (Builtin.min2 a b >>= fun s => pure s) := by simp only [Builtin.min_, List.foldlM_cons, List.foldlM_nil]
/-- The room that New gives. -/
def roomOf (r : Int) : Int := if 65536 < (if r < 0 then 0 else r) then 65536 else (if r < 0 then 0 else r)
theorem roomOf_le (r : Int) : 0 ≤ roomOf r ∧ roomOf r ≤ 65536 := by unfold roomOf; (repeat' split) <;> omega

theorem stk_new {T E : TypeId} {r : Int} (h0 : 0 ≤ roomOf r) (h1 : roomOf r ≤ 65536) (w : World) (q : Int) (hq : q = roomOf r) :
    Stk T E (w.alloc (.cells #[.slice none 0 0, .int .i64 q] T)) w.heap.size (Grow Nothing w (w.alloc (.cells #[.slice none 0 0, .int .i64 q] T))) [] q := by
  subst hq
  exact ⟨.slice none 0 0, heap_alloc_new w _, World.ownsRow_nil _ _ _ _, .inr ⟨Nat.le_refl _, by simp⟩, by simp [Value.ownBlock], fun k hk => by rcases hk with hk | hk; exact hk.elim; exact hk.2, by simpa using h0, h1, none, 0, rfl⟩

theorem stk_box {T E : TypeId} {w w' : World} {a : Option Addr} {c b : Nat} {xs : List Value} {room : Int} (hown : w'.ownsRow w.heap.size E 1 (.slice a xs.length c) xs.length xs) (hchg : Chg (w.drewN b) w' Nothing)
    (hr : Hid ((xs.length : Int) ≤ room ∧ room ≤ 65536)) : w.heap.size ≤ w'.heap.size ∧ Stk T E (w'.alloc (.cells #[.slice a xs.length c, .int .i64 room] T)) w'.heap.size (Grow Nothing w (w'.alloc (.cells #[.slice a xs.length c, .int .i64 room] T))) xs room ∧
      Chg w (w'.alloc (.cells #[.slice a xs.length c, .int .i64 room] T)) Nothing := by
  have hsz : w.heap.size ≤ w'.heap.size := hchg.size
  refine ⟨hsz, ⟨_, heap_alloc_new w' _, ownsRow_base (hown.alloc _) (Nat.zero_le _), .inr ⟨hsz, by simp⟩, ?_, ?_, hr.out.1, hr.out.2, a, c, rfl⟩, ?_⟩
  · intro k hk
    have := hown.lt k hk
    exact ⟨.inr ⟨this.1, by simp; omega⟩, by omega⟩
  · intro k hk
    rcases hk with hk | hk
    · exact hk.elim
    · exact hk.2
  · exact (Chg.alloc (⟨hchg.os, hchg.tape, hchg.output, hchg.size, hchg.block⟩ : Chg w w' Nothing) _)


theorem Stk.wider {T E : TypeId} {w : World} {p : Nat} {F F' : Nat → Prop} {xs : List Value} {room : Int} (h : Stk T E w p F xs room) (hF : ∀ k, F k → F' k) (hlt : ∀ k, F' k → k < w.heap.size) : Stk T E w p F' xs room := by
  obtain ⟨v, h1, h2, h3, h4, h5, h6, h7, h8⟩ := h
  exact ⟨v, h1, h2, hF _ h3, fun k hk => ⟨hF _ (h4 k hk).1, (h4 k hk).2⟩, hlt, h6, h7, h8⟩

theorem Stk.grow {T E : TypeId} {w w' : World} {p : Nat} {F : Nat → Prop} {xs : List Value} {room : Int} (h : Stk T E w' p F xs room) : Stk T E w' p (Grow F w w') xs room :=
  h.wider (fun k hk => .inl hk) (fun k hk => by rcases hk with hk | hk; exact h.lt k hk; exact hk.2)

theorem Chg.drawn (w : World) (m : Nat) (S : Nat → Prop) : Chg w (w.drewN m) S := (Chg.refl w S).drewN m

/-- What a stack's methods answer: the thing, and the error's number. -/
def popV {α : Type} (d : α) (zs : List α) : α := zs.getLastD d
def popE {α : Type} (zs : List α) : Int := if zs.isEmpty then 41 else 0
def pushE {α : Type} (zs : List α) (room : Int) : Int := if (zs.length : Int) < room then 0 else 40
def pushL {α : Type} (zs : List α) (room : Int) (x : α) : List α := if (zs.length : Int) < room then zs ++ [x] else zs
def pickE {α : Type} (zs : List α) (n : Int) : Int := if 0 ≤ n ∧ n < zs.length then 0 else 41
def pickV {α : Type} (d : α) (zs : List α) (n : Int) : α := if 0 ≤ n ∧ n < zs.length then zs.getD (zs.length - 1 - n.toNat) d else d

end Go.Proofs.YtgeapkalabijmaaGreat

/- Words of float64 as whole numbers: how they stand to each other. -/
namespace Go.Proofs.YtgeapkalabijmaaGreat
open Go Ieee
set_option maxRecDepth 100000
set_option maxHeartbeats 1000000
set_option linter.unusedVariables false
set_option linter.unusedSimpArgs false

abbrev f64 : Format := FloatKind.f64.format
/-- The sign and the rung of a word. -/
def negB (b : Nat) : Bool := b / 9223372036854775808 % 2 == 1
def rungB (b : Nat) : Nat := b % 9223372036854775808
theorem rungB_lt (b : Nat) : rungB b < 9223372036854775808 := Nat.mod_lt _ (by decide)

/-- What a rung stands for, in units of the least place. -/
def units (r : Nat) : Nat := if r < 4503599627370496 then r else (4503599627370496 + r % 4503599627370496) * 2 ^ (r / 4503599627370496 - 1)

theorem units_step {r r' : Nat} (h : r < r') : units r < units r' := by
  unfold units
  by_cases h1 : r < 4503599627370496
  · rw [if_pos h1]
    by_cases h2 : r' < 4503599627370496
    · rw [if_pos h2]; exact h
    · rw [if_neg h2]
      have : 1 ≤ 2 ^ (r' / 4503599627370496 - 1) := Nat.one_le_two_pow
      calc r < 4503599627370496 := h1
        _ ≤ (4503599627370496 + r' % 4503599627370496) * 1 := by omega
        _ ≤ _ := Nat.mul_le_mul_left _ this
  · have h2 : ¬ r' < 4503599627370496 := by omega
    rw [if_neg h1, if_neg h2]
    obtain ⟨e, he⟩ : ∃ e, r / 4503599627370496 = e + 1 := ⟨r / 4503599627370496 - 1, by omega⟩
    obtain ⟨e', he'⟩ : ∃ e, r' / 4503599627370496 = e + 1 := ⟨r' / 4503599627370496 - 1, by omega⟩
    rw [he, he', Nat.add_sub_cancel, Nat.add_sub_cancel]
    have hle : e ≤ e' := by
      have : r / 4503599627370496 ≤ r' / 4503599627370496 := Nat.div_le_div_right (Nat.le_of_lt h)
      omega
    rcases Nat.lt_or_eq_of_le hle with hlt | rfl
    · have hp : 2 ^ (e + 1) ≤ 2 ^ e' := Nat.pow_le_pow_right (by decide) hlt
      have h0 : 1 ≤ 2 ^ e := Nat.one_le_two_pow
      have hf : r % 4503599627370496 < 4503599627370496 := Nat.mod_lt _ (by decide)
      calc (4503599627370496 + r % 4503599627370496) * 2 ^ e < (4503599627370496 * 2) * 2 ^ e := Nat.mul_lt_mul_of_pos_right (by omega) h0
        _ = 4503599627370496 * 2 ^ (e + 1) := by rw [Nat.pow_succ, Nat.mul_assoc, Nat.mul_comm 2]
        _ ≤ 4503599627370496 * 2 ^ e' := Nat.mul_le_mul_left _ hp
        _ ≤ _ := Nat.mul_le_mul_right _ (by omega)
    · have h0 : 1 ≤ 2 ^ e := Nat.one_le_two_pow
      exact Nat.mul_lt_mul_of_pos_right (by omega) h0
theorem units_le {r r' : Nat} (h : r ≤ r') : units r ≤ units r' := by
  rcases Nat.lt_or_eq_of_le h with h | rfl
  · exact Nat.le_of_lt (units_step h)
  · exact Nat.le_refl _
theorem units_zero : units 0 = 0 := rfl

/-- How a word is read. -/
theorem read_eq (b : Nat) : f64.read b = if rungB b < 4503599627370496 then .number (negB b) (rungB b) (-1074)
    else if rungB b < 9218868437227405312 then .number (negB b) (4503599627370496 + rungB b % 4503599627370496) (-1074 + (rungB b / 4503599627370496 - 1 : Nat))
    else if rungB b = 9218868437227405312 then .infinity (negB b) else .nan (negB b) (rungB b - 9218868437227405312) := by
  rfl

/-- .. a finite one: so many of so high a place. -/
theorem read_fin {b : Nat} (h : rungB b < 9218868437227405312) : ∃ m p : Nat, f64.read b = .number (negB b) m (-1074 + (p : Int)) ∧ m * 2 ^ p = units (rungB b) := by
  rw [read_eq]
  unfold units
  by_cases h1 : rungB b < 4503599627370496
  · rw [if_pos h1, if_pos h1]; exact ⟨rungB b, 0, rfl, by simp⟩
  · rw [if_neg h1, if_neg h1, if_pos h]; exact ⟨_, _, rfl, rfl⟩
theorem read_inf {b : Nat} (h : rungB b = 9218868437227405312) : f64.read b = .infinity (negB b) := by
  rw [read_eq, if_neg (by omega), if_neg (by omega), if_pos h]
theorem read_nan {b : Nat} (h : 9218868437227405312 < rungB b) : f64.read b = .nan (negB b) (rungB b - 9218868437227405312) := by
  rw [read_eq, if_neg (by omega), if_neg (by omega), if_neg (by omega)]

/-- A word's place in the order: its rung, with its sign. -/
def sk (b : Nat) : Int := if negB b then -(rungB b : Int) else rungB b
def isNaN (b : Nat) : Bool := decide (9218868437227405312 < rungB b)

theorem compare_int (a b : Int) : compare a b = if a < b then .lt else if a = b then .eq else .gt := rfl

theorem signed_eq (s : Bool) (m k : Nat) : signed s m k = if s then -((m * 2 ^ k : Nat) : Int) else ((m * 2 ^ k : Nat) : Int) := by
  unfold signed
  rw [Nat.shiftLeft_eq]

theorem cmp_scale {a b a' b' : Int} (h1 : a < b ↔ a' < b') (h2 : a = b ↔ a' = b') : compare a b = compare a' b' := by
  rw [compare_int, compare_int]
  by_cases h : a < b
  · rw [if_pos h, if_pos (h1.1 h)]
  · rw [if_neg h, if_neg (fun x => h (h1.2 x))]
    by_cases e : a = b
    · rw [if_pos e, if_pos (h2.1 e)]
    · rw [if_neg e, if_neg (fun x => e (h2.2 x))]

/-- Two finite numbers stand as their units do. -/
theorem order_units (s t : Bool) (m n p q : Nat) : Datum.order (.number s m (-1074 + (p : Int))) (.number t n (-1074 + (q : Int))) =
    some (compare (if s then -((m * 2 ^ p : Nat) : Int) else ((m * 2 ^ p : Nat) : Int)) (if t then -((n * 2 ^ q : Nat) : Int) else ((n * 2 ^ q : Nat) : Int))) := by
  simp only [Datum.order]
  congr 1
  have hmin : min (-1074 + (p : Int)) (-1074 + (q : Int)) = -1074 + (min p q : Nat) := by omega
  rw [hmin]
  have e1 : (-1074 + (p : Int) - (-1074 + ((min p q : Nat) : Int))).toNat = p - min p q := by omega
  have e2 : (-1074 + (q : Int) - (-1074 + ((min p q : Nat) : Int))).toNat = q - min p q := by omega
  rw [e1, e2, signed_eq, signed_eq]
  obtain ⟨k, hk⟩ : ∃ k, k = min p q := ⟨_, rfl⟩
  rw [← hk]
  obtain ⟨p', hp'⟩ : ∃ p', p = p' + k := ⟨p - k, by omega⟩
  obtain ⟨q', hq'⟩ : ∃ q', q = q' + k := ⟨q - k, by omega⟩
  subst hp' hq'
  rw [Nat.add_sub_cancel, Nat.add_sub_cancel]
  have m1 : m * 2 ^ (p' + k) = (m * 2 ^ p') * 2 ^ k := by rw [Nat.pow_add, Nat.mul_assoc]
  have m2 : n * 2 ^ (q' + k) = (n * 2 ^ q') * 2 ^ k := by rw [Nat.pow_add, Nat.mul_assoc]
  rw [m1, m2]
  generalize m * 2 ^ p' = A
  generalize n * 2 ^ q' = B
  have hpos : (0 : Int) < ((2 ^ k : Nat) : Int) := by exact_mod_cast Nat.two_pow_pos k
  generalize 2 ^ k = D at hpos
  have key : ∀ (x y : Int), (x < y ↔ x * (D : Int) < y * (D : Int)) ∧ (x = y ↔ x * (D : Int) = y * (D : Int)) := fun x y =>
    ⟨⟨fun h => Int.mul_lt_mul_of_pos_right h hpos, fun h => Int.lt_of_mul_lt_mul_right h (Int.le_of_lt hpos)⟩,
     ⟨fun h => by rw [h], fun h => Int.eq_of_mul_eq_mul_right (Int.ne_of_gt hpos) h⟩⟩
  have c1 : ∀ (u : Bool) (C : Nat), (if u then -((C * D : Nat) : Int) else ((C * D : Nat) : Int)) = (if u then -(C : Int) else (C : Int)) * (D : Int) := fun u C => by
    cases u <;> simp [Int.neg_mul]
  rw [c1, c1]
  exact cmp_scale (key _ _).1 (key _ _).2

theorem units_cmp (s t : Bool) (a b : Nat) : compare (if s then -((units a : Nat) : Int) else (units a : Int)) (if t then -((units b : Nat) : Int) else (units b : Int)) = compare (if s then -(a : Int) else (a : Int)) (if t then -(b : Int) else (b : Int)) := by
  have h0 : ∀ a, (units a = 0 ↔ a = 0) := fun a => ⟨fun h => by
    rcases Nat.eq_zero_or_pos a with h' | h'
    · exact h'
    · have := units_step h'; rw [units_zero] at this; omega, fun h => by rw [h]; rfl⟩
  have h1 : units a < units b ↔ a < b := ⟨fun h => by
    rcases Nat.lt_or_ge a b with h' | h'
    · exact h'
    · have := units_le h'; omega, units_step⟩
  have h2 : units b < units a ↔ b < a := ⟨fun h => by
    rcases Nat.lt_or_ge b a with h' | h'
    · exact h'
    · have := units_le h'; omega, units_step⟩
  have z1 := h0 a
  have z2 := h0 b
  cases s <;> cases t <;> simp only [if_true, if_false, Bool.false_eq_true] <;> exact cmp_scale (by omega) (by omega)

/-- THE LAW: two words that are no NaNs stand as their rungs do, each with its sign. -/
theorem order_eq {a b : Nat} (ha : isNaN a = false) (hb : isNaN b = false) : f64.order a b = some (compare (sk a) (sk b)) := by
  have ha' : rungB a ≤ 9218868437227405312 := by simpa [isNaN] using ha
  have hb' : rungB b ≤ 9218868437227405312 := by simpa [isNaN] using hb
  unfold Format.order
  rcases Nat.lt_or_eq_of_le ha' with h1 | h1 <;> rcases Nat.lt_or_eq_of_le hb' with h2 | h2
  · obtain ⟨m, p, e1, u1⟩ := read_fin h1
    obtain ⟨n, q, e2, u2⟩ := read_fin h2
    rw [e1, e2, order_units, u1, u2, units_cmp]
    rfl
  · obtain ⟨m, p, e1, u1⟩ := read_fin h1
    rw [e1, read_inf h2]
    simp only [Datum.order, sk, h2, compare_int]
    congr 1
    cases negB a <;> cases negB b <;> (simp only [if_true, if_false, Bool.false_eq_true]; repeat' split) <;> first | rfl | (exfalso; omega)
  · obtain ⟨n, q, e2, u2⟩ := read_fin h2
    rw [e2, read_inf h1]
    simp only [Datum.order, sk, h1, compare_int]
    congr 1
    cases negB a <;> cases negB b <;> (simp only [if_true, if_false, Bool.false_eq_true]; repeat' split) <;> first | rfl | (exfalso; omega)
  · rw [read_inf h1, read_inf h2]
    simp only [Datum.order, sk, h1, h2, compare_int]
    congr 1
    cases negB a <;> cases negB b <;> simp <;> decide

theorem order_nan_left {a b : Nat} (ha : isNaN a = true) : f64.order a b = none := by
  have ha' : 9218868437227405312 < rungB a := by simpa [isNaN] using ha
  unfold Format.order
  rw [read_nan ha']
  cases f64.read b <;> rfl
theorem order_nan_right {a b : Nat} (hb : isNaN b = true) : f64.order a b = none := by
  have hb' : 9218868437227405312 < rungB b := by simpa [isNaN] using hb
  unfold Format.order
  rw [read_nan hb']
  cases f64.read a <;> rfl

/-- The comparisons. -/
def ltF (a b : Nat) : Bool := !isNaN a && !isNaN b && decide (sk a < sk b)
def eqF (a b : Nat) : Bool := !isNaN a && !isNaN b && decide (sk a = sk b)
theorem lt_eq (a b : Nat) : (f64.order a b == some .lt) = ltF a b := by
  unfold ltF
  cases ha : isNaN a with
  | true => rw [order_nan_left ha]; rfl
  | false =>
    cases hb : isNaN b with
    | true => rw [order_nan_right hb]; rfl
    | false =>
      rw [order_eq ha hb, compare_int]
      by_cases h : sk a < sk b
      · simp [h]
      · by_cases e : sk a = sk b <;> simp [h, e]
theorem eq_eq (a b : Nat) : (f64.order a b == some .eq) = eqF a b := by
  unfold eqF
  cases ha : isNaN a with
  | true => rw [order_nan_left ha]; rfl
  | false =>
    cases hb : isNaN b with
    | true => rw [order_nan_right hb]; rfl
    | false =>
      rw [order_eq ha hb, compare_int]
      by_cases h : sk a < sk b
      · have : ¬ sk a = sk b := by omega
        simp [h, this]
      · by_cases e : sk a = sk b <;> simp [h, e]
theorem gt_eq (a b : Nat) : (f64.order a b == some .gt) = ltF b a := by
  unfold ltF
  cases ha : isNaN a with
  | true => rw [order_nan_left ha]; simp
  | false =>
    cases hb : isNaN b with
    | true => rw [order_nan_right hb]; rfl
    | false =>
      rw [order_eq ha hb, compare_int]
      by_cases h : sk a < sk b
      · have : ¬ sk b < sk a := by omega
        simp [h, this]
      · by_cases e : sk a = sk b
        · simp [h, e]
        · have : sk b < sk a := by omega
          simp [h, e, this]

end Go.Proofs.YtgeapkalabijmaaGreat

/- Words of float64 and whole numbers. -/
namespace Go.Proofs.YtgeapkalabijmaaGreat
open Go Ieee
set_option maxRecDepth 100000
set_option maxHeartbeats 1000000
set_option linter.unusedVariables false
set_option linter.unusedSimpArgs false

theorem cut_gap (n drop : Nat) : n / (1 <<< min drop (n.log2 + 2)) = n / 2 ^ drop := by
  rw [Nat.shiftLeft_eq, Nat.one_mul]
  by_cases h : drop ≤ n.log2 + 2
  · rw [Nat.min_eq_left h]
  · rw [Nat.min_eq_right (by omega)]
    have h1 : n < 2 ^ (n.log2 + 1) := Nat.lt_log2_self
    have h2 : n < 2 ^ (n.log2 + 2) := Nat.lt_of_lt_of_le h1 (Nat.pow_le_pow_right (by decide) (by omega))
    have h3 : n < 2 ^ drop := Nat.lt_of_lt_of_le h1 (Nat.pow_le_pow_right (by decide) (by omega))
    rw [Nat.div_eq_of_lt h2, Nat.div_eq_of_lt h3]
theorem cut_zero (neg : Bool) (n drop : Nat) : Toward.zero.cut neg n drop = n / 2 ^ drop := by
  unfold Toward.cut
  simp only [Bool.toNat_false, Nat.add_zero]
  exact cut_gap n drop
theorem cut_down (n drop : Nat) : Toward.down.cut false n drop = n / 2 ^ drop := by
  unfold Toward.cut
  simp only [Bool.false_and, Bool.toNat_false, Nat.add_zero]
  exact cut_gap n drop

/-- How many of the least place make one. -/
def lsbs (E : Nat) : Nat := 2 ^ E
theorem lsbs_pos (E : Nat) : 0 < lsbs E := Nat.two_pow_pos _
/-- The whole part of a finite word, without its sign. -/
def wholeN (b : Nat) : Nat := units (rungB b) / lsbs 1074
theorem shift_div (E m p : Nat) (z : Int) (hz : z = -(E : Int)) : (m <<< (z + (p : Int)).toNat) / 2 ^ (-(z + (p : Int))).toNat = m * 2 ^ p / lsbs E := by
  subst hz
  unfold lsbs
  rw [Nat.shiftLeft_eq]
  by_cases h : E ≤ p
  · obtain ⟨k, rfl⟩ : ∃ k, p = k + E := ⟨p - E, by omega⟩
    have e1 : (-(E : Int) + ((k + E : Nat) : Int)).toNat = k := by omega
    have e2 : (-(-(E : Int) + ((k + E : Nat) : Int))).toNat = 0 := by omega
    rw [e1, e2, Nat.pow_zero, Nat.div_one, Nat.pow_add, ← Nat.mul_assoc, Nat.mul_div_cancel _ (Nat.two_pow_pos _)]
  · obtain ⟨k, rfl⟩ : ∃ k, E = k + p := ⟨E - p, by omega⟩
    have e1 : (-((k + p : Nat) : Int) + (p : Int)).toNat = 0 := by omega
    have e2 : (-(-((k + p : Nat) : Int) + (p : Int))).toNat = k := by omega
    rw [e1, e2, Nat.pow_zero, Nat.mul_one, Nat.pow_add, Nat.mul_comm (2 ^ k), Nat.mul_comm m, Nat.mul_div_mul_left _ _ (Nat.two_pow_pos _)]
/-- A finite word, made whole towards zero. -/
theorem integral_zero {b : Nat} (h : rungB b < 9218868437227405312) : (f64.read b).integral .zero = .number (negB b) (wholeN b) 0 := by
  obtain ⟨m, p, e, u⟩ := read_fin h
  rw [e]
  show Datum.number (negB b) (Toward.zero.cut (negB b) (m <<< (-1074 + (p : Int)).toNat) (-(-1074 + (p : Int))).toNat) 0 = _
  rw [cut_zero, shift_div 1074 m p (-1074) (by decide), u]
  rfl
theorem integral_down {b : Nat} (h : rungB b < 9218868437227405312) (hn : negB b = false) : (f64.read b).integral .down = .number false (wholeN b) 0 := by
  obtain ⟨m, p, e, u⟩ := read_fin h
  rw [e, hn]
  show Datum.number false (Toward.down.cut false (m <<< (-1074 + (p : Int)).toNat) (-(-1074 + (p : Int))).toNat) 0 = _
  rw [cut_down, shift_div 1074 m p (-1074) (by decide), u]
  rfl
theorem toInt_zero {b : Nat} (h : rungB b < 9218868437227405312) : (f64.read b).toInt .zero = some (if negB b then -(wholeN b : Int) else (wholeN b : Int)) := by
  unfold Datum.toInt
  rw [integral_zero h]
  simp only [signed_eq, Nat.pow_zero, Nat.mul_one]
/-- The whole part is below 2^k where the word stands below that of 2^k. -/
theorem wholeN_lt {b R : Nat} (h : rungB b < R) (K : Nat) (hK : units R = K * lsbs 1074) : wholeN b < K := by
  have := units_step h
  unfold wholeN
  rw [hK] at this
  exact (Nat.div_lt_iff_lt_mul (lsbs_pos _)).2 this

theorem cut_even_zero (neg : Bool) (n : Nat) : Toward.even.cut neg n 0 = n := by
  unfold Toward.cut
  simp [Nat.mod_one]
/-- A whole number below 2^53 is written as it is. -/
theorem nearest_nat (neg : Bool) {n : Nat} (h0 : 0 < n) (h : n < 9007199254740992) : ∃ R, f64.nearest neg n 0 = f64.word neg R ∧ 0 < R ∧ R < 9218868437227405312 ∧ units R = n * lsbs 1074 := by
  obtain ⟨k, hk⟩ : ∃ k, k = n.log2 := ⟨_, rfl⟩
  have hlo : 2 ^ k ≤ n := by rw [hk]; exact Nat.log2_self_le (by omega)
  have hhi : n < 2 ^ (k + 1) := by rw [hk]; exact Nat.lt_log2_self
  have hk52 : k ≤ 52 := by
    rcases Nat.lt_or_ge 52 k with h1 | h1
    · have : 2 ^ 53 ≤ 2 ^ k := Nat.pow_le_pow_right (by decide) h1
      have h2 : (9007199254740992 : Nat) = 2 ^ 53 := rfl
      omega
    · exact h1
  obtain ⟨j, hj⟩ : ∃ j, j + k = 52 := ⟨52 - k, by omega⟩
  have e0 : f64.nearest neg n 0 = (if n = 0 then f64.word neg 0 else
      let last := max ((0 : Int) + n.log2 - 52) (-1074)
      f64.word neg (min ((last - (-1074)).toNat * 4503599627370496 + Toward.even.cut neg (n <<< ((0 : Int) - last).toNat) (last - 0).toNat) 9218868437227405312)) := rfl
  rw [e0, if_neg (by omega), ← hk]
  have hl : max ((0 : Int) + k - 52) (-1074) = -(j : Int) := by omega
  simp only [hl]
  have e1 : (-(j : Int) - (-1074)).toNat = k + 1022 := by omega
  have e2 : ((0 : Int) - (-(j : Int))).toNat = j := by omega
  have e3 : (-(j : Int) - 0).toNat = 0 := by omega
  rw [e1, e2, e3, cut_even_zero, Nat.shiftLeft_eq]
  have b1 : 4503599627370496 ≤ n * 2 ^ j := by
    have : 2 ^ k * 2 ^ j ≤ n * 2 ^ j := Nat.mul_le_mul_right _ hlo
    rw [← Nat.pow_add, Nat.add_comm k j, hj] at this
    exact this
  have b2 : n * 2 ^ j < 9007199254740992 := by
    have : n * 2 ^ j < 2 ^ (k + 1) * 2 ^ j := Nat.mul_lt_mul_of_pos_right hhi (Nat.two_pow_pos _)
    rw [← Nat.pow_add, show k + 1 + j = 53 by omega] at this
    exact this
  have hm0 : ∀ E, E = j + (k + 1022) → n * 2 ^ j * 2 ^ (k + 1022) = n * lsbs E := fun E hE => by subst hE; unfold lsbs; rw [Nat.mul_assoc, ← Nat.pow_add]
  have hm := hm0 1074 (by omega)
  clear hm0
  generalize n * 2 ^ j = N at b1 b2 hm
  have hr : (k + 1022) * 4503599627370496 + N < 9218868437227405312 := by omega
  rw [Nat.min_eq_left (by omega)]
  refine ⟨_, rfl, by omega, hr, ?_⟩
  unfold units
  rw [if_neg (by omega)]
  have d1 : ((k + 1022) * 4503599627370496 + N) / 4503599627370496 = k + 1023 := by omega
  have d2 : ((k + 1022) * 4503599627370496 + N) % 4503599627370496 = N - 4503599627370496 := by omega
  rw [d1, d2, show 4503599627370496 + (N - 4503599627370496) = N by omega, show k + 1023 - 1 = k + 1022 by omega, hm]

/-- The word of a power of two. -/
theorem units_pow (q : Nat) : units ((q + 1) * 4503599627370496) = 4503599627370496 * lsbs q := by
  unfold units lsbs
  rw [if_neg (by omega)]
  have d1 : (q + 1) * 4503599627370496 / 4503599627370496 = q + 1 := by omega
  have d2 : (q + 1) * 4503599627370496 % 4503599627370496 = 0 := by omega
  rw [d1, d2, Nat.add_sub_cancel, Nat.add_zero]
theorem lsbs_add (k E F D : Nat) (h : F = k + E) (hD : D = 2 ^ k) : lsbs F = D * lsbs E := by subst h hD; unfold lsbs; rw [Nat.pow_add]
theorem units_53 : units 4845873199050653696 = 9007199254740992 * lsbs 1074 := by
  have h := units_pow 1075
  have e : lsbs 1075 = 2 * lsbs 1074 := lsbs_add 1 1074 1075 2 (by decide) (by decide)
  rw [e, ← Nat.mul_assoc, show (4503599627370496 : Nat) * 2 = 9007199254740992 by decide, show ((1075 : Nat) + 1) * 4503599627370496 = 4845873199050653696 by decide] at h
  exact h
theorem units_one : units 4607182418800017408 = 1 * lsbs 1074 := by
  have h := units_pow 1022
  have e : lsbs 1074 = 4503599627370496 * lsbs 1022 := lsbs_add 52 1022 1074 4503599627370496 (by decide) (by decide)
  rw [show ((1022 : Nat) + 1) * 4503599627370496 = 4607182418800017408 by decide] at h
  rw [Nat.one_mul, e]
  exact h
theorem units_63 : units 4890909195324358656 = 9223372036854775808 * lsbs 1074 := by
  have h := units_pow 1085
  have e : lsbs 1085 = 2048 * lsbs 1074 := lsbs_add 11 1074 1085 2048 (by decide) (by decide)
  rw [e, ← Nat.mul_assoc, show (4503599627370496 : Nat) * 2048 = 9223372036854775808 by decide, show ((1085 : Nat) + 1) * 4503599627370496 = 4890909195324358656 by decide] at h
  exact h
theorem wholeN_ge {b R : Nat} (h : R ≤ rungB b) (K : Nat) (hK : units R = K * lsbs 1074) : K ≤ wholeN b := by
  have := units_le h
  unfold wholeN
  rw [hK] at this
  exact (Nat.le_div_iff_mul_le (lsbs_pos _)).2 this
end Go.Proofs.YtgeapkalabijmaaGreat
