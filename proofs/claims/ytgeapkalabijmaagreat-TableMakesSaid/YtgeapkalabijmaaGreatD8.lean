/- A table's Make: what it answers. -/
import Derived.Test.YtgeapkalabijmaaGreatD7
import Derived.Test.YtgeapkalabijmaaGreatDR
import Derived.Test.YtgeapkalabijmaaGreatDM
namespace Go.Proofs.YtgeapkalabijmaaGreat
open Go Go.RowKit
set_option maxRecDepth 100000
set_option maxHeartbeats 1000000
set_option linter.unusedVariables false
set_option linter.unusedSimpArgs false

/-- What a part does with a builder that has just begun. -/
def Does (base room tag : Int) (kf : Nat) (f : Int → Int → Asm → Asm) : Prop :=
  (∀ (args : Array Value) (w : World), (callFunc kf args).run Tryz.prog w = .ok (.enter kf args) w) ∧ ∀ (w0 w : World) (m p : Nat), Mk Nothing w0 w m p base room ⟨tag, [], [], 0, []⟩ 0 → Calls Tryz.prog kf #[.pointer (some ⟨m, 0, none⟩)] w fun e w' => e = .returned (.tuple #[]) ∧ Mk Nothing w0 w' m p base room (f base room ⟨tag, [], [], 0, []⟩) 250
theorem Mk.most {G : Nat → Prop} {w0 w : World} {m p n n' : Nat} {base room : Int} {s : Asm} (h : Mk G w0 w m p base room s n) (hn : n ≤ n') : Mk G w0 w m p base room s n' :=
  ⟨h.ex, h.c0, h.c1, h.c2, h.old, Nat.le_trans h.l1 hn, Nat.le_trans h.l2 hn, Nat.le_trans h.l3 hn⟩
def tbRec : List (Int × Nat × (Int → Int → Asm → Asm)) := [(1, 105, tbDoGet), (2, 106, tbDoPut), (2, 107, tbDoDel), (1, 108, tbDoLen), (1, 109, tbDoAll)]
theorem tb_does (base room : Int) : ∀ t ∈ tbRec, Does base room t.1 t.2.1 t.2.2 := by
  intro t ht
  simp only [tbRec, List.mem_cons, List.mem_nil_iff, or_false] at ht
  rcases ht with rfl | rfl | rfl | rfl | rfl
  · exact ⟨fun _ _ => by simp only [go_sem]; rfl, fun w0 w m p h => (tbDoGet_any h (by decide)).mono fun e w' ⟨h1, h2⟩ => ⟨h1, h2.most (by decide)⟩⟩
  · exact ⟨fun _ _ => by simp only [go_sem]; rfl, fun w0 w m p h => (tbDoPut_any h (by decide)).mono fun e w' ⟨h1, h2⟩ => ⟨h1, h2.most (by decide)⟩⟩
  · exact ⟨fun _ _ => by simp only [go_sem]; rfl, fun w0 w m p h => (tbDoDel_any h (by decide)).mono fun e w' ⟨h1, h2⟩ => ⟨h1, h2.most (by decide)⟩⟩
  · exact ⟨fun _ _ => by simp only [go_sem]; rfl, fun w0 w m p h => (tbDoLen_any h (by decide)).mono fun e w' ⟨h1, h2⟩ => ⟨h1, h2.most (by decide)⟩⟩
  · exact ⟨fun _ _ => by simp only [go_sem]; rfl, fun w0 w m p h => (tbDoAll_any h (by decide)).mono fun e w' ⟨h1, h2⟩ => ⟨h1, h2.most (by decide)⟩⟩
theorem tbRec_cells : ∀ i t, tbRec[i]? = some t → tbRecV[i * 2]? = some (.int .i64 t.1) ∧ tbRecV[i * 2 + 1]? = some (.func (.func t.2.1) #[] #[]) := by
  intro i t h
  match i, h with
  | 0, h => obtain rfl := Option.some.inj h; exact ⟨rfl, rfl⟩
  | 1, h => obtain rfl := Option.some.inj h; exact ⟨rfl, rfl⟩
  | 2, h => obtain rfl := Option.some.inj h; exact ⟨rfl, rfl⟩
  | 3, h => obtain rfl := Option.some.inj h; exact ⟨rfl, rfl⟩
  | 4, h => obtain rfl := Option.some.inj h; exact ⟨rfl, rfl⟩
  | (n + 5), h => simp [tbRec] at h
/-- The builder of a table's program, when it is put together. -/
def tbAsm (base room : Int) (t : Int × Nat × (Int → Int → Asm → Asm)) : Asm := t.2.2 base room ⟨t.1, [], [], 0, []⟩

/-- Programs as they lie in a row. -/
abbrev PV := Int × Option Addr × Nat × Nat
def pvV (q : PV) : Value := .agg #[.int .i64 q.1, .slice q.2.1 q.2.2.1 q.2.2.2]
def pvL (vs : List PV) : List Value := vs.flatMap fun q => [.int .i64 q.1, .slice q.2.1 q.2.2.1 q.2.2.2]
theorem pvL_snoc (vs : List PV) (q : PV) : pvL (vs ++ [q]) = pvL vs ++ [.int .i64 q.1, .slice q.2.1 q.2.2.1 q.2.2.2] := by simp [pvL]

/-- A program's row is no row of programs. -/
theorem ProgAt.grown {w w' : World} {b b2 n c : Nat} {s : Asm} {v : Value} {a : Option Addr} {xs : List Value} (h : ProgAt w b s v) (hl : w.ownsRow b2 26 2 (.slice a n c) n xs) (hg : w.grownBy w' (Value.slice a n c).ownBlock) : ProgAt w' b s v := by
  rcases h with h | ⟨h1, out, gc, h2, h3, h4, h5⟩
  · exact .inl h
  · refine .inr ⟨h1, out, gc, h2, h3, h4, ownsRow_heap h5 (fun k hk => ?_)⟩
    refine hg.block k (h5.lt k hk).2 (fun e => ?_)
    rcases h5.2 with ⟨hv, _⟩ | ⟨g, cap, cur, hv, hb, hh, _⟩
    · simp at hv
    · injection hv with hv; cases hv
      rcases hl.2 with ⟨hv, _⟩ | ⟨g', cap', cur', hv, hb', hh', _⟩
      · injection hv with hv; subst hv; simp [Value.ownBlock] at e
      · injection hv with hv _ _; subst hv
        simp only [Value.ownBlock, Option.some.injEq] at e hk
        subst hk; subst e
        rw [hh] at hh'
        injection hh' with hh'
        injection hh' with _ ht
        exact absurd ht (by decide)

/-- So many of the programs are made, and stand in a row. -/
def TbInv (w wr : World) (base room : Int) (i : Nat) (v : Value) : Prop :=
  ∃ (a : Option Addr) (c : Nat) (vs : List PV), v = .slice a i c ∧ wr.ownsRow w.heap.size 26 2 (.slice a i c) i (pvL vs) ∧ vs.length = i ∧ (∀ j t, j < i → tbRec[j]? = some t → ∃ q, vs[j]? = some q ∧ ProgAt wr w.heap.size (tbAsm base room t) (pvV q)) ∧ Chg w wr Nothing
/-- The five programs, as a caller gets them. -/
def TbMade (w : World) (b : Nat) (base room : Int) (qs : List PV) : Prop := ∀ (j : Nat) (t : Int × Nat × (Int → Int → Asm → Asm)), tbRec[j]? = some t → ∃ q, qs[j]? = some q ∧ ProgAt w b (tbAsm base room t) (pvV q)
theorem TbMade.of {wr w' : World} {b c d : Nat} {base room : Int} {qs : List PV} (h : ∀ j t, j < 5 → tbRec[j]? = some t → ∃ q, qs[j]? = some q ∧ ProgAt wr b (tbAsm base room t) (pvV q)) (hc : Chg wr w' (fun k => k = d)) (hd : d < b) (hb : c ≤ b) : TbMade w' c base room qs := by
  intro j t ht
  obtain ⟨q, h1, h2⟩ := h j t (by have := (List.getElem?_eq_some_iff.1 ht).1; simpa [tbRec] using this) ht
  exact ⟨q, h1, (h2.far hc (fun k hk => by omega)).low hb⟩
theorem TbInv.zero (w : World) (base room : Int) : TbInv w w base room 0 (.slice none 0 0) :=
  ⟨none, 0, [], rfl, World.ownsRow_nil _ _ _ _, rfl, fun j t h => absurd h (Nat.not_lt_zero _), Chg.refl _ _⟩
theorem TbInv.move {w w1 wr w2 : World} {base room : Int} {i : Nat} {v : Value} (h : TbInv w wr base room i v) (hc : Chg wr w2 Nothing) : TbInv w w2 base room i v := by
  obtain ⟨a, c, vs, rfl, h1, h2, h3, h4⟩ := h
  refine ⟨a, c, vs, rfl, ownsRow_heap h1 (fun k hk => hc.block k (h1.lt k hk).2 id), h2, fun j t hj ht => ?_, h4.trans hc (fun _ _ h => h)⟩
  obtain ⟨q, h5, h6⟩ := h3 j t hj ht
  exact ⟨q, h5, h6.quiet hc⟩
theorem TbInv.snoc {w wr w1 w2 w3 : World} {base room : Int} {i g cap c : Nat} {a : Option Addr} {vs : List PV} {q : PV} {t : Int × Nat × (Int → Int → Asm → Asm)} (h1 : wr.ownsRow w.heap.size 26 2 (.slice a i c) i (pvL vs)) (h2 : vs.length = i)
    (h3 : ∀ j t, j < i → tbRec[j]? = some t → ∃ q, vs[j]? = some q ∧ ProgAt wr w.heap.size (tbAsm base room t) (pvV q)) (h4 : Chg w wr Nothing) (ht : tbRec[i]? = some t) (hp : ProgAt w3 w.heap.size (tbAsm base room t) (pvV q)) (hc3 : Chg w3 w1 Nothing)
    (hc : Chg wr w1 Nothing) (hown : w2.ownsRow 0 26 2 (.slice (some ⟨g, 0, none⟩) (i + 1) cap) (i + 1) (pvL vs ++ [.int .i64 q.1, .slice q.2.1 q.2.2.1 q.2.2.2])) (hg : w1.grownBy w2 (Value.slice a i c).ownBlock) (hgg : (Value.slice a i c).ownBlock = some g ∨ w1.heap.size ≤ g) :
    TbInv w w2 base room (i + 1) (.slice (some ⟨g, 0, none⟩) (i + 1) cap) := by
  have h1' := ownsRow_heap (w' := w1) h1 (fun k hk => hc.block k (h1.lt k hk).2 id)
  have hsz := h4.size
  have hsz1 := hc.size
  refine ⟨_, cap, vs ++ [q], rfl, ?_, by simp [h2], fun j t' hj ht' => ?_, (h4.trans hc (fun _ _ h => h)).grown hg (fun k hk => .inl (h1.lt k hk).1)⟩
  · rw [pvL_snoc]
    refine ownsRow_rebase hown (fun k hk => ?_)
    simp only [Value.ownBlock, Option.some.injEq] at hk
    have hk : g = k := hk
    subst hk
    rcases hgg with h | h
    · exact (h1.lt _ h).1
    · omega
  · by_cases e : j = i
    · subst e
      rw [ht] at ht'
      obtain rfl := Option.some.inj ht'
      exact ⟨q, by simp [← h2], (hp.quiet hc3).grown h1' hg⟩
    · obtain ⟨q', h5, h6⟩ := h3 j t' (by omega) ht'
      exact ⟨q', by rw [List.getElem?_append_left (by omega)]; exact h5, (h6.quiet hc).grown h1' hg⟩
end Go.Proofs.YtgeapkalabijmaaGreat
