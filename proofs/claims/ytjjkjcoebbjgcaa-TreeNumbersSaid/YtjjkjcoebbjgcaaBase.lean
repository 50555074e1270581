/- Words on memory that all proofs of this seat share: which blocks a call may have changed, and a stack behind a pointer. -/
import Derived.WalkKit
import Derived.Lib.Hide
import Derived.Deep.Draws
import Derived.Deep.QuietTactic
import Derived.BigQuiet
import Derived.StillTailTactics
import Derived.Outline
import Derived.WalkSpells
import Derived.WalkLawsBesides
import Derived.Deep.RegionWith
import Derived.Deep.RegionHeld3
import Derived.Deep.LoopGhost
import Derived.Deep.DeepCutAuto
import Derived.Laws.CopyOwn
import Derived.WideLaws
import Derived.Laws.EntriesVeiled
namespace Go.Proofs.Ytjjkjcoebbjgcaa
open Go Go.RowKit

section
variable {P : Program} {w : World} {a : Addr} {m : Mode}
@[go_sem] theorem run_store_float (k : FloatKind) (b : Nat) : (store a (.float k b) m).run P w = stored P w a (.float k b) m := run_store P w a _ m rfl
end

/-- From w to w' only blocks in S, and new ones, have changed. -/
structure Chg (w w' : World) (S : Nat → Prop) : Prop where
  os : w'.os = w.os
  tape : w'.tape = w.tape
  output : w'.output = w.output
  size : w.heap.size ≤ w'.heap.size
  block : ∀ k, k < w.heap.size → ¬ S k → w'.heap[k]? = w.heap[k]?

/-- A footprint that has taken in what is new. -/
def Grow (F : Nat → Prop) (w w' : World) : Nat → Prop := fun k => F k ∨ (w.heap.size ≤ k ∧ k < w'.heap.size)

def Nothing : Nat → Prop := fun _ => False

theorem Chg.refl (w : World) (S : Nat → Prop) : Chg w w S := ⟨rfl, rfl, rfl, Nat.le_refl _, fun _ _ _ => rfl⟩

theorem Chg.mono {w w' : World} {S S' : Nat → Prop} (h : Chg w w' S) (hs : ∀ k, k < w.heap.size → S k → S' k) : Chg w w' S' :=
  ⟨h.os, h.tape, h.output, h.size, fun k hk hn => h.block k hk (fun hS => hn (hs k hk hS))⟩

theorem Chg.trans {w w1 w2 : World} {S S' : Nat → Prop} (h : Chg w w1 S) (h' : Chg w1 w2 S') (hs : ∀ k, k < w.heap.size → S' k → S k) : Chg w w2 S :=
  ⟨h'.os.trans h.os, h'.tape.trans h.tape, h'.output.trans h.output, Nat.le_trans h.size h'.size, fun k hk hn =>
    (h'.block k (Nat.lt_of_lt_of_le hk h.size) (fun hS => hn (hs k hk hS))).trans (h.block k hk hn)⟩

theorem Chg.drewN {w w' : World} {S : Nat → Prop} (h : Chg w w' S) (n : Nat) : Chg w (w'.drewN n) S := ⟨h.os, h.tape, h.output, h.size, h.block⟩
theorem Chg.drew {w w' : World} {S : Nat → Prop} (h : Chg w w' S) : Chg w w'.drew S := ⟨h.os, h.tape, h.output, h.size, h.block⟩
theorem Chg.alloc {w w' : World} {S : Nat → Prop} (h : Chg w w' S) (o : Obj) : Chg w (w'.alloc o) S :=
  ⟨h.os, h.tape, h.output, Nat.le_trans h.size (by simp), fun k hk hn => (Below.heap_alloc _ _ _ (Nat.lt_of_lt_of_le hk h.size)).trans (h.block k hk hn)⟩
theorem Chg.setCell {w w' : World} {S : Nat → Prop} (h : Chg w w' S) {a : Addr} (ha : w.heap.size ≤ a.block ∨ S a.block) (u : Value) : Chg w (w'.setCell a u) S :=
  ⟨h.os, h.tape, h.output, Nat.le_trans h.size (by simp [World.setCell]), fun k hk hn =>
    (Below.heap_setCell _ _ _ _ (by rintro rfl; rcases ha with ha | ha; omega; exact hn ha)).trans (h.block k hk hn)⟩
theorem Chg.grown {w w' w2 : World} {S : Nat → Prop} {row : Option Nat} (h : Chg w w' S) (hg : w'.grownBy w2 row) (hr : ∀ k, row = some k → w.heap.size ≤ k ∨ S k) : Chg w w2 S :=
  ⟨hg.os.trans h.os, hg.tape.trans h.tape, hg.output.trans h.output, Nat.le_trans h.size hg.size, fun k hk hn =>
    (hg.block k (Nat.lt_of_lt_of_le hk h.size) (by intro e; rcases hr k e.symm with h1 | h1; omega; exact hn h1)).trans (h.block k hk hn)⟩
theorem Chg.below {w w' : World} (h : Chg w w' Nothing) : Below w.heap.size w w' := ⟨h.os, h.tape, h.output, h.size, fun k hk => h.block k hk id⟩
theorem Chg.of_below {w w' : World} (h : Below w.heap.size w w') (S : Nat → Prop) : Chg w w' S := ⟨h.os, h.tape, h.output, h.size, fun k hk _ => h.block k hk⟩

/-- A block of cells known whole: its cells, its marks. -/
theorem blk_cell {w : World} {b : Nat} {cs : Array Value} {T : TypeId} {fr : Nat × Nat} (h : w.heap[b]? = some (.cells cs T fr)) (o : Nat) : w.cell? ⟨b, o, none⟩ = cs[o]? := by simp [World.cell?, h]
theorem blk_free {w : World} {b : Nat} {cs : Array Value} {T : TypeId} (h : w.heap[b]? = some (.cells cs T (0, 0))) (o : Nat) : w.frozen? ⟨b, o, none⟩ = false := by simp [World.frozen?, h]
theorem blk_lt {w : World} {b : Nat} {o : Obj} (h : w.heap[b]? = some o) : b < w.heap.size := (Array.getElem?_eq_some_iff.1 h).1
theorem blk_set {w : World} {b : Nat} {cs : Array Value} {T : TypeId} {fr : Nat × Nat} (h : w.heap[b]? = some (.cells cs T fr)) (o : Nat) (u : Value) :
    (w.setCell ⟨b, o, none⟩ u).heap[b]? = some (.cells (cs.setIfInBounds o u) T fr) := by
  simp [World.setCell, Array.getElem?_modify, h]
theorem blk_set_other {w : World} {b : Nat} {x : Option Obj} {a : Addr} (h : w.heap[b]? = x) (hne : b ≠ a.block) (u : Value) : (w.setCell a u).heap[b]? = x :=
  (Below.heap_setCell _ _ _ _ hne).trans h
theorem blk_alloc {w : World} {b : Nat} {o : Obj} (h : w.heap[b]? = some o) (o' : Obj) : (w.alloc o').heap[b]? = some o :=
  (Below.heap_alloc _ _ _ (blk_lt h)).trans h

theorem cell_lt {w : World} {a : Addr} {v : Value} (h : w.cell? a = some v) : a.block < w.heap.size := World.block_lt_of_cell? w a h
theorem cell_alloc {w : World} {a : Addr} {v : Value} (h : w.cell? a = some v) (o : Obj) : (w.alloc o).cell? a = some v :=
  (World.cell?_of_block (w := w) (Below.heap_alloc _ _ _ (cell_lt h))).trans h
theorem Chg.cell {w w' : World} {S : Nat → Prop} (h : Chg w w' S) {a : Addr} {v : Value} (hv : w.cell? a = some v) (hS : ¬ S a.block) : w'.cell? a = some v :=
  (World.cell?_of_block (w := w) (h.block _ (cell_lt hv) hS)).trans hv
theorem ownsRow_shape {w : World} {base : Nat} {e : TypeId} {size : Nat} {v : Value} {n : Nat} {xs : List Value} (h : w.ownsRow base e size v n xs) : (∃ a c, v = .slice a n c) ∧ (0 < n → ∃ g c, v = .slice (some ⟨g, 0, none⟩) n c) := by
  rcases h.2 with ⟨rfl, rfl⟩ | ⟨g, cap, cur, rfl, _⟩
  · exact ⟨⟨_, _, rfl⟩, by omega⟩
  · exact ⟨⟨_, _, rfl⟩, fun _ => ⟨_, _, rfl⟩⟩

theorem ownsRow_base {w : World} {base base' : Nat} {e : TypeId} {size : Nat} {v : Value} {n : Nat} {xs : List Value} (h : w.ownsRow base e size v n xs) (hb : base' ≤ base) : w.ownsRow base' e size v n xs := by
  refine ⟨h.1, ?_⟩
  rcases h.2 with h | ⟨g, cap, cur, rfl, hg, hr⟩
  · exact .inl h
  · exact .inr ⟨g, cap, cur, rfl, Nat.le_trans hb hg, hr⟩

theorem ownsRow_rebase {w : World} {base base' : Nat} {e : TypeId} {size : Nat} {v : Value} {n : Nat} {xs : List Value} (h : w.ownsRow base e size v n xs) (hb : ∀ g, v.ownBlock = some g → base' ≤ g) : w.ownsRow base' e size v n xs := by
  refine ⟨h.1, ?_⟩
  rcases h.2 with h | ⟨g, cap, cur, rfl, hg, hr⟩
  · exact .inl h
  · exact .inr ⟨g, cap, cur, rfl, hb g rfl, hr⟩

theorem ownsRow_heap {w w' : World} {base : Nat} {e : TypeId} {size : Nat} {v : Value} {n : Nat} {xs : List Value} (h : w.ownsRow base e size v n xs) (hb : ∀ k, v.ownBlock = some k → w'.heap[k]? = w.heap[k]?) : w'.ownsRow base e size v n xs := by
  refine ⟨h.1, ?_⟩
  rcases h.2 with h | ⟨g, cap, cur, rfl, hg, hh, hr⟩
  · exact .inl h
  · exact .inr ⟨g, cap, cur, rfl, hg, (hb g rfl).trans hh, hr⟩
/-- A float by its bits. -/
abbrev fl : Nat → Value := Value.float .f64

/-- What a slice's address leads to: the cells xs. -/
def Sees (w : World) (a : Option Addr) (xs : List Value) : Prop := xs = [] ∨ ∃ b o, a = some ⟨b, o, none⟩ ∧ ∀ j u, xs[j]? = some u → w.cell? ⟨b, o + j, none⟩ = some u
theorem Sees.of_owns {w : World} {base : Nat} {e : TypeId} {size : Nat} {a : Option Addr} {n c : Nat} {xs : List Value} (h : w.ownsRow base e size (.slice a n c) n xs) : Sees w a xs := by
  rcases h.2 with ⟨hv, h0⟩ | ⟨g, cap, cur, hv, _⟩
  · exact .inl (List.eq_nil_of_length_eq_zero (by rw [h.1, h0, Nat.zero_mul]))
  · injection hv with hv
    subst hv
    refine .inr ⟨g, 0, rfl, fun j u hu => ?_⟩
    have := h.cells (g := g) rfl j u hu
    rwa [show (⟨g, 0, none⟩ : Addr).add j = ⟨g, 0 + j, none⟩ by unfold Addr.add; split <;> simp_all] at this
theorem ownsRow_low {w : World} {base : Nat} {e : TypeId} {size : Nat} {a : Option Addr} {n c : Nat} {xs : List Value} (h : w.ownsRow base e size (.slice a n c) n xs) (w' : World) (hb : ∀ k, base ≤ k ∧ k < w.heap.size → w'.heap[k]? = w.heap[k]?) : Sees w' a xs := by
  rcases Sees.of_owns h with h' | ⟨b, o, rfl, h'⟩
  · exact .inl h'
  · exact .inr ⟨b, o, rfl, fun j u hu => (World.cell?_of_block (w := w) (hb b (h.lt b rfl))).trans (h' j u hu)⟩
theorem Sees.chg {w w' : World} {a : Option Addr} {xs : List Value} (h : Sees w a xs) (hc : Chg w w' Nothing) : Sees w' a xs := by
  rcases h with h | ⟨b, o, rfl, h⟩
  · exact .inl h
  · exact .inr ⟨b, o, rfl, fun j u hu => hc.cell (h j u hu) id⟩
theorem Sees.drewN {w : World} {a : Option Addr} {xs : List Value} (h : Sees w a xs) (n : Nat) : Sees (w.drewN n) a xs := h
theorem Sees.take {w : World} {a : Option Addr} {xs : List Value} (h : Sees w a xs) (n : Nat) : Sees w a (xs.take n) := by
  rcases h with rfl | ⟨b, o, rfl, h⟩
  · exact .inl (by simp)
  · refine .inr ⟨b, o, rfl, fun j u hu => h j u ?_⟩
    rw [List.getElem?_take] at hu
    split at hu
    · exact hu
    · cases hu

/-- 'append(xs, ..)' on a row that is owned: where the new row lies. -/
theorem append_any {P : Program} {w : World} {ops : Array Oper} {rest : List Oper} {o : Oper} {a : Act} {Q : Exit → Act → World → Prop} (hgd : o.guard = none) (s x : Operand) (t e : TypeId)
    (ho : o.op = .call { callee := .builtin .append, args := #[s, x], argTypes := #[t, t] }) (z : Value) (size bytes : Nat) (ht : P.underlying t = some (.slice e))
    (hinf : (P.info? e).map (fun i => (i.zero, i.size, i.bytes)) = some (some z, size, bytes)) (hzs : z.cells.size = size) (hsz : 0 < size)
    (v : Value) (n : Nat) (xs : List Value) (hs : a.eval s = v) (hown : w.ownsRow 0 e size v n xs)
    (ad : Addr) (m c : Nat) (hx : a.eval x = .slice (some ad) m c) (news : List Value) (hl : news.length = m * size) (hnews : ∀ j u, news[j]? = some u → w.cell? (ad.add j) = some u) (h1 : ∀ u ∈ news, u.oneCell' = true)
    (h63 : n + m ≤ maxLen) (hbytes : (n + m) * bytes ≤ 140737488355328)
    (h : ∀ v' w', w'.ownsRow 0 e size v' (n + m) (xs ++ news) → w.grownBy w' v.ownBlock → (∀ g, v'.ownBlock = some g → v.ownBlock = some g ∨ w.heap.size ≤ g) →
      wpList P ops Q rest (a.put o.dst v') w') : wpList P ops Q (o :: rest) a w := by
  obtain ⟨i, hi, hz, hsize, hby⟩ := info_parts hinf
  by_cases hfit : ∃ g cap, v = .slice (some ⟨g, 0, none⟩) n cap ∧ n + m ≤ cap
  · obtain ⟨g, cap, rfl, hfit⟩ := hfit
    refine wpList_append_fits w hgd s x t ho 0 e i size ht hi hsize g n cap xs hs hown ad m c news hx hl hnews h1 hfit ?_
    intro w' hw' hg
    exact h _ w' hw' hg (fun g' hg' => .inl hg')
  · by_cases hm : m = 0
    · subst hm
      have hn : news = [] := List.eq_nil_of_length_eq_zero (by simpa using hl)
      subst hn
      refine wpList_append_own w hgd s x t ho 0 e i z size bytes ht hi hz hsize hby hzs hsz v n xs hs hown ad 0 c [] hx hl hnews h1 h63 hbytes (Nat.zero_le _) ?_
      intro v' w' hw' hg hnil
      rcases hown.2 with ⟨rfl, rfl⟩ | ⟨g, cap, cur, rfl, _, hh, hnc, _⟩
      · obtain rfl := hnil.2 ⟨rfl, rfl⟩
        exact h _ w' hw' hg (by simp [Value.ownBlock])
      · exact absurd ⟨g, cap, rfl, hnc⟩ hfit
    · obtain ⟨ao, cap, rfl⟩ := (ownsRow_shape hown).1
      refine wpList_append_grows w hgd s x t ho e i z size bytes ht hi hz hsize hby hzs hsz ao n cap xs hs ?_ hown.1 ?_ ad m c news hx hl hnews h1 ?_ h63 hbytes ?_
      · rintro rfl
        rcases hown.2 with ⟨hv, rfl⟩ | ⟨g, cap', cur, hv, _⟩
        · injection hv with _ _ hv; exact ⟨rfl, hv⟩
        · injection hv with hv; cases hv
      · intro b hb j u hu
        subst hb
        rcases hown.2 with ⟨hv, rfl⟩ | ⟨g, cap', cur, hv, _⟩
        · injection hv with hv; cases hv
        · injection hv with hv
          cases hv
          exact hown.cells (g := g) rfl j u hu
      · rcases hown.2 with ⟨hv, rfl⟩ | ⟨g, cap', cur, hv, _⟩
        · injection hv with _ _ hv; subst hv; omega
        · injection hv with hv hv2 hv3
          subst hv hv3
          exact Nat.lt_of_not_le fun hle => hfit ⟨g, _, rfl, hle⟩
      · intro v' w' hw' hg
        exact h v' w' (ownsRow_base hw' (Nat.zero_le _)) ⟨hg.os, hg.tape, hg.output, hg.size, fun k hk hne => hg.block k hk (by simp)⟩ (fun g hg' => .inr (hw'.lt g hg').1)

/-- 'xs = append(xs, x)', x laid at the head of a block of its own: the new slice shows its head. -/
theorem append_one {P : Program} {w : World} {ops : Array Oper} {rest : List Oper} {o : Oper} {a : Act} {Q : Exit → Act → World → Prop} (hgd : o.guard = none) (s x : Operand) (t e : TypeId)
    (ho : o.op = .call { callee := .builtin .append, args := #[s, x], argTypes := #[t, t] }) (z : Value) (size bytes : Nat) (ht : P.underlying t = some (.slice e))
    (hinf : (P.info? e).map (fun i => (i.zero, i.size, i.bytes)) = some (some z, size, bytes)) (hzs : z.cells.size = size) (hsz : 0 < size)
    (v : Value) (n : Nat) (xs : List Value) (hs : a.eval s = v) (hown : w.ownsRow 0 e size v n xs)
    (b c : Nat) (hx : a.eval x = .slice (some ⟨b, 0, none⟩) 1 c) (news : List Value) (hl : news.length = size) (hnews : ∀ j u, news[j]? = some u → w.cell? ⟨b, j, none⟩ = some u) (h1 : ∀ u ∈ news, u.oneCell' = true)
    (h63 : n + 1 ≤ maxLen) (hbytes : (n + 1) * bytes ≤ 140737488355328)
    (h : ∀ g cap w', w'.ownsRow 0 e size (.slice (some ⟨g, 0, none⟩) (n + 1) cap) (n + 1) (xs ++ news) → w.grownBy w' v.ownBlock → (v.ownBlock = some g ∨ w.heap.size ≤ g) →
      wpList P ops Q rest (a.put o.dst (.slice (some ⟨g, 0, none⟩) (n + 1) cap)) w') : wpList P ops Q (o :: rest) a w := by
  have hadd : ∀ j, (⟨b, 0, none⟩ : Addr).add j = ⟨b, j, none⟩ := fun j => by unfold Addr.add; split <;> simp_all
  refine append_any hgd s x t e ho z size bytes ht hinf hzs hsz v n xs hs hown ⟨b, 0, none⟩ 1 c hx news (by simpa using hl) (fun j u hu => by rw [hadd]; exact hnews j u hu) h1 h63 hbytes ?_
  intro v' w' hw' hg hv
  obtain ⟨g, cap, rfl⟩ := (ownsRow_shape hw').2 (by omega)
  exact h g cap w' hw' hg (hv g rfl)

/-- 'make([]T, n)': a row of zeros. -/
theorem make_row {P : Program} {w : World} {ops : Array Oper} {rest : List Oper} {o : Oper} {a : Act} {Q : Exit → Act → World → Prop} (hg : o.guard = none) (l c : Operand) (t e : TypeId) (hop : o.op = Op.makeSlice t l c)
    (z : Value) (bytes : Nat) (ht : P.underlying t = some (.slice e)) (hinf : (P.info? e).map (fun i => (i.zero, i.size, i.bytes)) = some (some z, 1, bytes)) (hz : z.cells = #[z])
    (kl kc : IntKind) (L C : Int) (n : Nat) (hl : a.eval l = .int kl L) (hc : a.eval c = .int kc C) (hL : L = (n : Int)) (hC : C = (n : Int)) (b2 : bytes * n ≤ 281474976710656) (b3 : n ≤ maxLen)
    (hK : ∀ w', w'.ownsRow w.heap.size e 1 (.slice (some ⟨w.heap.size, 0, none⟩) n n) n (List.replicate n z) → w.grownBy w' none → wpList P ops Q rest (a.put o.dst (.slice (some ⟨w.heap.size, 0, none⟩) n n)) w') : wpList P ops Q (o :: rest) a w := by
  obtain ⟨i, hi, hz0, hsize, hby⟩ := info_parts hinf
  refine wpList_make_full w hg l c t hop w.heap.size e i z 1 ht hi hz0 hsize kl kc L C n hl hc hL hC (by rw [hby]; exact b2) b3 (Nat.le_refl _) fun w' h1 h2 => hK w' ?_ h2
  have e1 : (madeCells z.cells (n * 1)).toList = List.replicate n z := by
    rw [hz, Nat.mul_one]
    simp [madeCells, Nat.mod_one, List.map_const']
  rw [e1] at h1
  exact h1

/-- 'copy(dst, src)' where both are of one length, dst a row that is owned. -/
theorem copy_row {P : Program} {w : World} {ops : Array Oper} {rest : List Oper} {o : Oper} {a : Act} {Q : Exit → Act → World → Prop} (hgd : o.guard = none) (d s : Operand) (dT sT : TypeId)
    (ho : o.op = .call { callee := .builtin .copy, args := #[d, s], argTypes := #[dT, sT] }) (e : TypeId) (hu : P.underlying dT = some (.slice e)) (hsz : (P.info? e).map (·.size) = some 1)
    (base : Nat) (v : Value) (n : Nat) (ys : List Value) (hd : a.eval d = v) (hown : w.ownsRow base e 1 v n ys) (sp : Option Addr) (sCap : Nat) (hs : a.eval s = .slice sp n sCap) (xs : List Value) (hx : xs.length = n) (hsee : Sees w sp xs) (h1 : ∀ u ∈ xs, u.oneCell' = true)
    (h : ∀ w', w'.ownsRow base e 1 v n xs → w.grownBy w' v.ownBlock → wpList P ops Q rest (a.put o.dst (goInt n)) w') : wpList P ops Q (o :: rest) a w := by
  subst hx
  by_cases h0 : xs.length = 0
  · obtain rfl : xs = [] := List.eq_nil_of_length_eq_zero h0
    obtain ⟨⟨dp, dCap, rfl⟩, _⟩ := ownsRow_shape hown
    refine wpList_copy_nothing hgd d s dT sT ho e hu hsz dp sp 0 dCap 0 sCap hd hs rfl ?_
    refine h w ?_ (World.grownBy.refl _ _)
    have : ys = [] := List.eq_nil_of_length_eq_zero (by simpa using hown.1)
    subst this
    exact hown
  · rcases hown.2 with ⟨_, hn⟩ | ⟨g, cap, cur, rfl, hb, hg, hnc, hcm, hcs, htake⟩
    · exact absurd hn h0
    · rcases hsee with rfl | ⟨b, off, rfl, hc⟩
      · exact absurd rfl h0
      · have hfit : 0 + xs.length ≤ cur.size := by omega
        refine wpList_copy_own hgd d s dT sT ho e hu hsz g 0 xs.length cap ⟨b, off, none⟩ xs.length sCap hd hs cur e hg xs (by simp) ?_ hfit h1 ?_
        · intro j v hj
          rw [Addr.add_lit]
          exact hc j v hj
        · refine h _ ⟨by simp, .inr ⟨g, cap, _, rfl, hb, setRow_heap w g cur _ e _ hg, hnc, hcm, ?_, ?_⟩⟩ ⟨rfl, rfl, rfl, by simp [World.setRow], fun k _ hk => setRow_other w g k _ (fun e => hk (by simp [Value.ownBlock, e]))⟩
          · simp; omega
          · simp
/-- A row of the call's own, grown by one. -/
theorem own_more {w wr w2 : World} {E : TypeId} {n : Nat} {v v' u : Value} {o : Obj} {xs ys : List Value} {size : Nat} (hown2 : w2.ownsRow 0 E size v' (n + 1) (ys ++ [u])) (hk : ys ++ [u] = xs.take (n + 1)) (hown : wr.ownsRow w.heap.size E size v n ys) (hchg : Chg w wr Nothing)
    (hg : (wr.alloc o).grownBy w2 v.ownBlock) (hgg : ∀ g, v'.ownBlock = some g → v.ownBlock = some g ∨ wr.heap.size + 1 ≤ g) :
    w2.ownsRow w.heap.size E size v' (n + 1) (xs.take (n + 1)) ∧ Chg w w2 Nothing := by
  refine ⟨?_, (hchg.alloc o).grown hg (fun k hk => .inl (hown.lt k hk).1)⟩
  rw [← hk]
  refine ownsRow_rebase hown2 fun g hg' => ?_
  rcases hgg g hg' with h | h
  · exact (hown.lt g h).1
  · have := hchg.size; omega

end Go.Proofs.Ytjjkjcoebbjgcaa
