/- The document's machine in memory: stores into it; its small methods. -/
import Derived.Test.YthgllaomafhdkaaGreatK8
import Derived.ArgAppend
namespace Go.Proofs.YthgllaomafhdkaaGreat
open Go Go.RowKit
set_option maxRecDepth 100000
set_option maxHeartbeats 1000000
set_option linter.unusedVariables false
set_option linter.unusedSimpArgs false

/-- Its rows. -/
structure RRows (w : World) (R : Nat → Prop) (s : Mc) (vc vA vS vC vT vR vB : Value) : Prop where
  code : RRow w R vc s.code.length 3 (insV s.code)
  arg : RRow w R vA 8 1 ((eightN s.args).map fl)
  num : RRow w R vS s.s.length 1 (s.s.map fl)
  cal : RRow w R vC s.calls.length 1 (s.calls.map (Value.int .i64))
  out : RRow w R vT s.out.length 1 (s.out.map fl)
  reads : RRow w R vR s.reads.length 2 (tchV s.reads)
  buf : RRow w R vB s.buf.length 2 (tchV s.buf)
section
variable {w w1 w' : World} {q lb cl : Nat} {R R' : Nat → Prop} {s s' : Mc} {vc vA vS vC vT vR vB vS' vC' vT' vR' vB' : Value}
theorem RmAt.rows (h : RmAt w q lb R s vc vA vS vC vT vR vB cl) : RRows w R s vc vA vS vC vT vR vB := ⟨h.code, h.arg, h.num, h.cal, h.out, h.reads, h.buf⟩
theorem RRows.move (h : RRows w R s vc vA vS vC vT vR vB) (hR : ∀ b, R b → R' b ∧ w'.heap[b]? = w.heap[b]?) : RRows w' R' s vc vA vS vC vT vR vB :=
  ⟨h.code.move hR, h.arg.move hR, h.num.move hR, h.cal.move hR, h.out.move hR, h.reads.move hR, h.buf.move hR⟩
theorem RmAt.qlt (h : RmAt w q lb R s vc vA vS vC vT vR vB cl) : q < w.heap.size ∧ lb < w.heap.size := ⟨blk_lt h.blk, (h.loc.lt lb rfl).2⟩
/-- Nothing of it has changed. -/
theorem RmAt.frame (h : RmAt w q lb R s vc vA vS vC vT vR vB cl) (hz : w.heap.size ≤ w'.heap.size) (hq : ∀ k, k = q ∨ k = lb ∨ R k → w'.heap[k]? = w.heap[k]?) : RmAt w' q lb (Grow R w w') s vc vA vS vC vT vR vB cl := by
  have hl := h.qlt
  have hr := h.rows.move (w' := w') (R' := Grow R w w') (fun b hb => ⟨.inl hb, hq b (.inr (.inr hb))⟩)
  refine ⟨(hq q (.inl rfl)).trans h.blk, ownsRow_heap h.loc (fun k hk => hq k (.inr (.inl (by simp [Value.ownBlock] at hk; exact hk.symm)))), h.ne, fun k hk => ?_, hr.code, hr.arg, hr.num, hr.cal, hr.out, hr.reads, hr.buf⟩
  rcases hk with hk | hk
  · have := h.own k hk; exact ⟨by omega, this.2⟩
  · exact ⟨hk.2, by omega, by omega⟩
theorem RmAt.wider (h : RmAt w q lb R s vc vA vS vC vT vR vB cl) (hR : ∀ k, R k → R' k) (hw : ∀ k, R' k → k < w.heap.size ∧ k ≠ q ∧ k ≠ lb) : RmAt w q lb R' s vc vA vS vC vT vR vB cl := by
  have hr := h.rows.move (w' := w) (R' := R') (fun b hb => ⟨hR b hb, rfl⟩)
  exact ⟨h.blk, h.loc, h.ne, hw, hr.code, hr.arg, hr.num, hr.cal, hr.out, hr.reads, hr.buf⟩
theorem RmAt.narrow (h : RmAt w q lb (Grow R w1 w) s vc vA vS vC vT vR vB cl) (h' : RRows w R s vc vA vS vC vT vR vB) : RmAt w q lb R s vc vA vS vC vT vR vB cl :=
  ⟨h.blk, h.loc, h.ne, fun k hk => h.own k (.inl hk), h'.code, h'.arg, h'.num, h'.cal, h'.out, h'.reads, h'.buf⟩
/-- A field was stored. -/
theorem RmAt.store (h : RmAt w q lb R s vc vA vS vC vT vR vB cl) (hc : Chg w w1 Nothing) {j : Nat} {v : Value}
    (hcells : (rcells s vc vA vS vC (.slice (some ⟨lb, 0, none⟩) 8 cl) vT vR vB).setIfInBounds j v = rcells s' vc vA vS' vC' (.slice (some ⟨lb, 0, none⟩) 8 cl) vT' vR' vB')
    (hl : s'.locals = s.locals) (hr : RRows w1 R' s' vc vA vS' vC' vT' vR' vB') (hR : ∀ k, R' k → R k ∨ (w.heap.size ≤ k ∧ k < w1.heap.size)) :
    RmAt (w1.setCell ⟨q, j, none⟩ v) q lb R' s' vc vA vS' vC' vT' vR' vB' cl := by
  have hq := h.qlt
  have hz := hc.size
  have e : (w1.setCell ⟨q, j, none⟩ v).heap.size = w1.heap.size := by simp [World.setCell]
  have hg : ∀ k, R' k → k < w1.heap.size ∧ k ≠ q ∧ k ≠ lb := fun k hk => by
    rcases hR k hk with hk | hk
    · have := h.own k hk; exact ⟨by omega, this.2⟩
    · exact ⟨hk.2, by omega, by omega⟩
  have hr2 := hr.move (w' := w1.setCell ⟨q, j, none⟩ v) (R' := R') (fun b hb => ⟨hb, Below.heap_setCell _ _ _ _ (hg b hb).2.1⟩)
  refine ⟨?_, ?_, h.ne, fun k hk => ?_, hr2.code, hr2.arg, hr2.num, hr2.cal, hr2.out, hr2.reads, hr2.buf⟩
  · have := blk_set ((hc.block q hq.1 id).trans h.blk) j v
    rw [hcells] at this
    exact this
  · rw [hl]
    exact ownsRow_heap (ownsRow_heap h.loc (fun k hk => hc.block k (h.loc.lt k hk).2 id)) (fun k hk => Below.heap_setCell _ _ _ _ (fun e' => by simp [Value.ownBlock] at hk; subst e'; exact h.ne hk.symm))
  · rw [e]; exact hg k hk
theorem RmAt.rowsC (h : RmAt w q lb R s vc vA vS vC vT vR vB cl) (hc : Chg w w1 Nothing) (hR : ∀ k, R k → R' k) : RRows w1 R' s vc vA vS vC vT vR vB :=
  h.rows.move (fun b hb => ⟨hR b hb, hc.block b (h.own b hb).1 id⟩)
/-- A store of a field that no row hangs on. -/
theorem RmAt.plain (h : RmAt w q lb R s vc vA vS vC vT vR vB cl) {j : Nat} {v : Value}
    (hcells : (rcells s vc vA vS vC (.slice (some ⟨lb, 0, none⟩) 8 cl) vT vR vB).setIfInBounds j v = rcells s' vc vA vS vC (.slice (some ⟨lb, 0, none⟩) 8 cl) vT vR vB)
    (hs : s'.locals = s.locals ∧ s'.code = s.code ∧ s'.args = s.args ∧ s'.s = s.s ∧ s'.calls = s.calls ∧ s'.out = s.out ∧ s'.reads = s.reads ∧ s'.buf = s.buf) :
    RmAt (w.setCell ⟨q, j, none⟩ v) q lb R s' vc vA vS vC vT vR vB cl := by
  obtain ⟨h1, h2, h3, h4, h5, h6, h7, h8⟩ := hs
  have hr := h.rowsC (Chg.refl w Nothing) (R' := R) (fun _ h => h)
  exact h.store (s' := s') (Chg.refl w Nothing) hcells h1 ⟨by rw [h2]; exact hr.code, by rw [h3]; exact hr.arg, by rw [h4]; exact hr.num, by rw [h5]; exact hr.cal, by rw [h6]; exact hr.out, by rw [h7]; exact hr.reads, by rw [h8]; exact hr.buf⟩ (fun k hk => .inl hk)
end
/-- Nothing of it has changed; its blocks are the same. -/
theorem RmAt.still {w w' : World} {q lb cl : Nat} {R : Nat → Prop} {s : Mc} {vc vA vS vC vT vR vB : Value} (h : RmAt w q lb R s vc vA vS vC vT vR vB cl) (hz : w.heap.size ≤ w'.heap.size) (hq : ∀ k, k = q ∨ k = lb ∨ R k → w'.heap[k]? = w.heap[k]?) : RmAt w' q lb R s vc vA vS vC vT vR vB cl :=
  (h.frame hz hq).narrow (h.rows.move (fun b hb => ⟨hb, hq b (.inr (.inr hb))⟩))
/-- What a step leaves. -/
structure Rs (w w' : World) (q lb : Nat) (R : Nat → Prop) (s' : Mc) : Prop where
  rm : Rm w' q lb (Grow R w w') s'
  chg : Chg w w' (fun k => k = q ∨ k = lb)
section
variable {w w0 w1 w2 w' : World} {q lb b : Nat} {R R' S : Nat → Prop} {s s' : Mc}
theorem Rm.qlt (h : Rm w q lb R s) : q < w.heap.size ∧ lb < w.heap.size ∧ q ≠ lb ∧ ∀ k, R k → k < w.heap.size ∧ k ≠ q ∧ k ≠ lb := by
  obtain ⟨vc, vA, vS, vC, vT, vR, vB, cl, h⟩ := h
  exact ⟨h.qlt.1, h.qlt.2, h.ne, h.own⟩
theorem Rm.wider (h : Rm w q lb R s) (hR : ∀ k, R k → R' k) (hw : ∀ k, R' k → k < w.heap.size ∧ k ≠ q ∧ k ≠ lb) : Rm w q lb R' s := by
  obtain ⟨vc, vA, vS, vC, vT, vR, vB, cl, h⟩ := h
  exact ⟨vc, vA, vS, vC, vT, vR, vB, cl, h.wider hR hw⟩
theorem Rm.chg (h : Rm w q lb R s) (hc : Chg w w' S) (hd : ∀ k, k = q ∨ k = lb ∨ R k → ¬ S k) : Rm w' q lb R s := by
  have hq := h.qlt
  obtain ⟨vc, vA, vS, vC, vT, vR, vB, cl, h⟩ := h
  exact ⟨vc, vA, vS, vC, vT, vR, vB, cl, h.still hc.size (fun k hk => hc.block k (by rcases hk with rfl | rfl | hk; exact hq.1; exact hq.2.1; exact (hq.2.2.2 k hk).1) (hd k hk))⟩
theorem Rm.quiet (h : Rm w q lb R s) (hc : Chg w w' Nothing) : Rm w' q lb R s := h.chg hc (fun _ _ h => h)
theorem Rs.of (h : Rm w q lb R s) (h' : Rm w' q lb R' s') (hc : Chg w w' (fun k => k = q ∨ k = lb)) (hR : ∀ k, R' k → R k ∨ w.heap.size ≤ k) : Rs w w' q lb R s' := by
  obtain ⟨q1, q2, q3, q4⟩ := h.qlt
  have q5 := h'.qlt.2.2.2
  have hz := hc.size
  refine ⟨h'.wider (fun k hk => ?_) (fun k hk => ?_), hc⟩
  · rcases hR k hk with h | h
    · exact .inl h
    · exact .inr ⟨h, (q5 k hk).1⟩
  · rcases hk with hk | hk
    · have := q4 k hk; exact ⟨by omega, this.2⟩
    · exact ⟨hk.2, by omega, by omega⟩
theorem Rs.then {s1 : Mc} (h0 : Rm w q lb R s) (h : Rs w w1 q lb R s1) (h' : Rs w1 w2 q lb (Grow R w w1) s') : Rs w w2 q lb R s' := by
  have hz := h.chg.size
  refine Rs.of h0 h'.rm (h.chg.trans h'.chg (fun k _ hk => hk)) (fun k hk => ?_)
  rcases hk with (hk | hk) | hk
  · exact .inl hk
  · exact .inr hk.1
  · exact .inr (by omega)
theorem Rs.after (h0 : Rm w q lb R s) (hc : Chg w w1 Nothing) (h : Rs w1 w2 q lb R s') : Rs w w2 q lb R s' := by
  have hz := hc.size
  refine Rs.of h0 h.rm ((hc.mono (fun _ _ h => h.elim)).trans h.chg (fun k _ hk => hk)) (fun k hk => ?_)
  rcases hk with hk | hk
  · exact .inl hk
  · exact .inr (by omega)
theorem Rs.asked (h0 : Rm w q lb R s) (hc0 : Chg w w0 Nothing) (h : Rs w0 w1 q lb R s') (hc : Chg w1 w2 (fun k => k = b)) (hb : w.heap.size ≤ b) (hb0 : b < w0.heap.size) : Rs w w2 q lb R s' := by
  obtain ⟨q1, q2, q3, q4⟩ := h0.qlt
  have hz := hc0.size
  have h2 := h.rm.chg hc (fun k hk e => by
    subst e
    rcases hk with hk | hk | hk | hk
    · omega
    · omega
    · have := q4 _ hk; omega
    · omega)
  refine Rs.of h0 h2 (((hc0.mono (fun _ _ h => h.elim)).trans h.chg (fun k _ hk => hk)).trans hc (fun k hk e => by omega)) (fun k hk => ?_)
  rcases hk with hk | hk
  · exact .inl hk
  · exact .inr (by omega)
theorem Rs.refl (h : Rm w q lb R s) (hc : Chg w w' Nothing) : Rs w w' q lb R s := Rs.of h (h.quiet hc) (hc.mono (fun _ _ h => h.elim)) (fun k hk => .inl hk)
end
end Go.Proofs.YthgllaomafhdkaaGreat
