/- What a transaction has written: the code's buffer behind a pointer, and the contracts of its methods. -/
import Derived.Test.YtgeapkalabijmaaGreatK1
import Derived.Deep.AppendLies
namespace Go.Proofs.YtgeapkalabijmaaGreat
open Go Go.RowKit
set_option maxRecDepth 100000
set_option maxHeartbeats 1000000
set_option linter.unusedVariables false
set_option linter.unusedSimpArgs false

def fls (l : List (Int × Nat)) : List (Int × Value) := l.map fun t => (t.1, fl t.2)
def cells1 (l : List (Int × Nat)) : List Value := l.map fun t => .int .i64 t.1
theorem fls_at {l : List (Int × Nat)} {i : Nat} {t : Int × Nat} (h : l[i]? = some t) : (fls l)[i]? = some (t.1, fl t.2) := by simp [fls, h]
theorem Kn.fls {l : List (Int × Nat)} {k : Int} {i : Nat} (h : Kn l k i) : Kn (fls l) k i := Kn.of_pos (by rw [Go.Proofs.YtgeapkalabijmaaGreat.fls, pos_map]; exact h.pos)
theorem Un.fls {l : List (Int × Nat)} {k : Int} (h : Un l k) : Un (fls l) k := Un.of_pos (by rw [Go.Proofs.YtgeapkalabijmaaGreat.fls, pos_map]; exact h.pos)


/-- A buffer at block p, whose blocks lie in F. -/
def Bf (w : World) (p : Nat) (F : Nat → Prop) (l : List (Int × Nat)) (most : Int) : Prop :=
  ∃ b a c, w.heap[p]? = some (.cells #[.map (some b), .slice a l.length c, .int .i64 most] 157 (0, 0)) ∧ MapI w b (fls l) ∧ w.ownsRow 0 3 1 (.slice a l.length c) l.length (cells1 l) ∧
    F p ∧ F b ∧ p ≠ b ∧ (∀ k, (Value.slice a l.length c).ownBlock = some k → F k ∧ k ≠ p ∧ k ≠ b) ∧ (∀ k, F k → k < w.heap.size) ∧ (l.map (·.1)).Nodup ∧ (l.length : Int) ≤ most ∧ most ≤ 32

section
variable {w w' w1 : World} {p : Nat} {F S : Nat → Prop} {l : List (Int × Nat)} {most c : Int} {i x : Nat}

theorem Bf.frame (h : Bf w p F l most) (hs : w.heap.size ≤ w'.heap.size) (hb : ∀ k, F k → w'.heap[k]? = w.heap[k]?) : Bf w' p F l most := by
  obtain ⟨b, a, c, h1, h2, h3, h4, h5, h6, h7, h8, h9⟩ := h
  exact ⟨b, a, c, (hb p h4).trans h1, h2.frame (hb b h5), ownsRow_heap h3 (fun k hk => hb k (h7 k hk).1), h4, h5, h6, h7, fun k hk => Nat.lt_of_lt_of_le (h8 k hk) hs, h9⟩
theorem Bf.lt (h : Bf w p F l most) : ∀ k, F k → k < w.heap.size := by obtain ⟨b, a, c, h1, h2, h3, h4, h5, h6, h7, h8, h9⟩ := h; exact h8
theorem Bf.has (h : Bf w p F l most) : F p := by obtain ⟨b, a, c, h1, h2, h3, h4, h5, h6, h7, h8, h9⟩ := h; exact h4
theorem Bf.fits (h : Bf w p F l most) : (l.map (·.1)).Nodup ∧ (l.length : Int) ≤ most ∧ most ≤ 32 := by obtain ⟨b, a, c, h1, h2, h3, h4, h5, h6, h7, h8, h9⟩ := h; exact h9
theorem Bf.chg (h : Bf w p F l most) (hc : Chg w w' S) (hd : ∀ k, F k → ¬ S k) : Bf w' p F l most := h.frame hc.size fun k hk => hc.block k (h.lt k hk) (hd k hk)
theorem Bf.drewN (h : Bf w p F l most) (n : Nat) : Bf (w.drewN n) p F l most := h.frame (Nat.le_refl _) (fun _ _ => rfl)
theorem Bf.wider {F' : Nat → Prop} (h : Bf w p F l most) (hF : ∀ k, F k → F' k) (hlt : ∀ k, F' k → k < w.heap.size) : Bf w p F' l most := by
  obtain ⟨b, a, c, h1, h2, h3, h4, h5, h6, h7, h8, h9⟩ := h
  exact ⟨b, a, c, h1, h2, h3, hF _ h4, hF _ h5, h6, fun k hk => ⟨hF _ (h7 k hk).1, (h7 k hk).2⟩, hlt, h9⟩
theorem Bf.cells (h : Bf w p F l most) : ∃ b a c, w.cell? ⟨p, 0, none⟩ = some (.map (some b)) ∧ w.cell? ⟨p, 1, none⟩ = some (.slice a l.length c) ∧ w.cell? ⟨p, 2, none⟩ = some (.int .i64 most) ∧ MapI w b (fls l) ∧ w.ownsRow 0 3 1 (.slice a l.length c) l.length (cells1 l) := by
  obtain ⟨b, a, c, h1, h2, h3, _⟩ := h
  exact ⟨b, a, c, blk_cell h1 0, blk_cell h1 1, blk_cell h1 2, h2, h3⟩
theorem Bf.free (h : Bf w p F l most) (o : Nat) : w.frozen? ⟨p, o, none⟩ = false := by
  obtain ⟨b, a, c, h1, _⟩ := h
  exact blk_free h1 o
/-- Its map alone was written, at a key that stood. -/
theorem Bf.stored {b : Nat} (h : Bf w p F l most) (c0 : w.cell? ⟨p, 0, none⟩ = some (.map (some b))) (hn : Kn l c i) (hm : MapI w' b ((fls l).set i (c, fl x))) (hc : Chg w w' (fun j => j = b)) : Bf w' p F (l.set i (c, x)) most ∧ Chg w w' F := by
  obtain ⟨b', a, cc, h1, h2, h3, h4, h5, h6, h7, h8, h9, h10⟩ := h
  obtain rfl : b' = b := by have := (blk_cell h1 0).symm.trans c0; simpa using this
  obtain ⟨⟨y, hy⟩, _⟩ := id hn
  have e1 : (l.set i (c, x)).map (·.1) = l.map (·.1) := by
    rw [List.map_set]
    refine List.ext_getElem? fun j => ?_
    by_cases hj : i = j
    · subst hj
      have := (List.getElem?_eq_some_iff.1 hy).1
      have h2 := (List.getElem?_eq_some_iff.1 hy).2
      simp [this, h2]
    · rw [List.getElem?_set_ne hj]
  have e2 : cells1 (l.set i (c, x)) = cells1 l := by
    have : ∀ m : List (Int × Nat), cells1 m = (m.map (·.1)).map (Value.int .i64) := fun m => by simp [cells1]
    rw [this, this, e1]
  have e3 : fls (l.set i (c, x)) = (fls l).set i (c, fl x) := by simp [fls, List.map_set]
  have hp : p < w.heap.size := h8 p h4
  refine ⟨⟨b', a, cc, ?_, by rw [e3]; exact hm, ?_, h4, h5, h6, ?_, fun k hk => Nat.lt_of_lt_of_le (h8 k hk) hc.size, by rw [e1]; exact h9, by rw [List.length_set]; exact h10⟩, hc.mono fun k _ hk => by rw [hk]; exact h5⟩
  · rw [List.length_set, hc.block p hp h6, h1]
  · rw [List.length_set, e2]
    exact ownsRow_heap h3 (fun k hk => hc.block k (h8 k (h7 k hk).1) (h7 k hk).2.2)
  · rw [List.length_set]; exact h7
/-- The row of its keys has grown, its map gets a new key. -/
theorem Bf.before {w2 : World} {v : Value} {b : Nat} (h : Bf w p F l most) (c0 : w.cell? ⟨p, 0, none⟩ = some (.map (some b))) (c1 : w.cell? ⟨p, 1, none⟩ = some v) (h1 : Chg w w1 Nothing) (hg : w1.grownBy w2 v.ownBlock) (u : Value) :
    w2.cell? ⟨p, 0, none⟩ = some (.map (some b)) ∧ w2.cell? ⟨p, 1, none⟩ = some v ∧ w2.frozen? ⟨p, 1, none⟩ = false ∧ MapI ((w2.setCell ⟨p, 1, none⟩ u).drew) b (fls l) ∧ (w2.setCell ⟨p, 1, none⟩ u).cell? ⟨p, 0, none⟩ = some (.map (some b)) := by
  obtain ⟨b', a, cc, k1, k2, k3, k4, k5, k6, k7, k8, k9, k10⟩ := h
  obtain rfl : b' = b := by have := (blk_cell k1 0).symm.trans c0; simpa using this
  obtain rfl : Value.slice a l.length cc = v := by have := (blk_cell k1 1).symm.trans c1; simpa using this
  have hp : p < w.heap.size := k8 p k4
  have hpb : w2.heap[p]? = some (.cells #[.map (some b'), .slice a l.length cc, .int .i64 most] 157 (0, 0)) := by
    rw [hg.block p (Nat.lt_of_lt_of_le hp h1.size) (fun e => (k7 p e.symm).2.1 rfl), h1.block p hp id, k1]
  have hmb : w2.heap[b']? = w.heap[b']? := by
    have hb := k8 b' k5
    rw [hg.block b' (Nat.lt_of_lt_of_le hb h1.size) (fun e => (k7 b' e.symm).2.2 rfl), h1.block b' hb id]
  refine ⟨by rw [blk_cell hpb]; rfl, by rw [blk_cell hpb]; rfl, blk_free hpb 1, (k2.frame hmb).frame (blk_set_other rfl (fun e => k6 e.symm) u), ?_⟩
  have := blk_set hpb 1 u
  rw [blk_cell this]
  rfl
theorem Bf.pushed {w2 w4 : World} {v : Value} {b g cap : Nat} (h : Bf w p F l most) (hn : Un l c) (hl : (l.length : Int) < most) (c0 : w.cell? ⟨p, 0, none⟩ = some (.map (some b))) (c1 : w.cell? ⟨p, 1, none⟩ = some v) (h1 : Chg w w1 Nothing) (hg : w1.grownBy w2 v.ownBlock)
    (hown : w2.ownsRow 0 3 1 (.slice (some ⟨g, 0, none⟩) (l.length + 1) cap) (l.length + 1) (cells1 l ++ [.int .i64 c])) (hgg : v.ownBlock = some g ∨ w1.heap.size ≤ g)
    (hm : MapI w4 b (fls l ++ [(c, fl x)])) (h4 : Chg (w2.setCell ⟨p, 1, none⟩ (.slice (some ⟨g, 0, none⟩) (l.length + 1) cap)) w4 (fun j => j = b)) : Bf w4 p (Grow F w w4) (l ++ [(c, x)]) most ∧ Chg w w4 F := by
  obtain ⟨b', a, cc, k1, k2, k3, k4, k5, k6, k7, k8, k9, k10, k11⟩ := h
  obtain rfl : b' = b := by have := (blk_cell k1 0).symm.trans c0; simpa using this
  obtain rfl : Value.slice a l.length cc = v := by have := (blk_cell k1 1).symm.trans c1; simpa using this
  have hp : p < w.heap.size := k8 p k4
  have hb : b' < w.heap.size := k8 b' k5
  have hpb : w2.heap[p]? = some (.cells #[.map (some b'), .slice a l.length cc, .int .i64 most] 157 (0, 0)) := by
    rw [hg.block p (Nat.lt_of_lt_of_le hp h1.size) (fun e => (k7 p e.symm).2.1 rfl), h1.block p hp id, k1]
  have hs3 : (w2.setCell ⟨p, 1, none⟩ (.slice (some ⟨g, 0, none⟩) (l.length + 1) cap)).heap.size = w2.heap.size := by simp [World.setCell]
  have hs2 : w.heap.size ≤ w2.heap.size := Nat.le_trans h1.size hg.size
  have hs4 : w2.heap.size ≤ w4.heap.size := by have := h4.size; omega
  have hgp : g ≠ p := by rcases hgg with hgg | hgg; exact (k7 g hgg).2.1; have := h1.size; omega
  have hgb : g ≠ b' := by rcases hgg with hgg | hgg; exact (k7 g hgg).2.2; have := h1.size; omega
  have hg2 := (hown.lt g rfl).2
  have hl1 : (l ++ [(c, x)]).length = l.length + 1 := by simp
  refine ⟨⟨b', some ⟨g, 0, none⟩, cap, ?_, by rw [show fls (l ++ [(c, x)]) = fls l ++ [(c, fl x)] by simp [fls]]; exact hm, ?_, .inl k4, .inl k5, k6, ?_, ?_, ?_, by rw [hl1]; omega, k11⟩, ?_⟩
  · rw [hl1, h4.block p (by omega) k6]
    simpa using blk_set hpb 1 (.slice (some ⟨g, 0, none⟩) (l.length + 1) cap)
  · rw [hl1, show cells1 (l ++ [(c, x)]) = cells1 l ++ [.int .i64 c] by simp [cells1]]
    refine ownsRow_heap hown (fun k hk => ?_)
    simp [Value.ownBlock] at hk
    subst hk
    rw [h4.block g (by omega) hgb]
    exact Below.heap_setCell _ _ _ _ hgp
  · intro k hk
    simp [Value.ownBlock] at hk
    subst hk
    refine ⟨?_, hgp, hgb⟩
    rcases hgg with hgg | hgg
    · exact .inl (k7 g hgg).1
    · exact .inr ⟨Nat.le_trans h1.size hgg, by omega⟩
  · intro k hk
    rcases hk with hk | hk
    · have := k8 k hk; omega
    · exact hk.2
  · rw [List.map_append, List.nodup_append]
    refine ⟨k9, by simp, ?_⟩
    intro a ha b hb e
    simp at hb
    obtain ⟨t, ht, rfl⟩ := List.mem_map.1 ha
    exact hn t ht (by rw [e, hb])
  · have hc3 : Chg w (w2.setCell ⟨p, 1, none⟩ (.slice (some ⟨g, 0, none⟩) (l.length + 1) cap)) F := Chg.setCell (Chg.grown (h1.mono (fun k _ hk => hk.elim)) hg (fun k hk => .inr (k7 k hk).1)) (.inr k4) _
    exact hc3.trans h4 (fun k _ hk => by rw [hk]; exact k5)
end

theorem put_known (p : Nat) (F : Nat → Prop) (l : List (Int × Nat)) (most c : Int) (x i : Nat) (w : World) (h : Bf w p F l most) (hn : Kn l c i) :
    Calls Tryz.prog 173 #[.pointer (some ⟨p, 0, none⟩), .int .i64 c, fl x] w fun e w' => e = .returned (.tuple #[.bool false, .int .i64 0]) ∧ Bf w' p F (l.set i (c, fixB x)) most ∧ Chg w w' F := by
  obtain ⟨b, a, cc, c0, c1, c2, hm, hown⟩ := h.cells
  obtain ⟨⟨y, hy⟩, _⟩ := id hn
  have hlook := hm.look_kn (P := Tryz.prog) Tryz.underlying155 Tryz.underlying3 hn.fls true (fls_at hy)
  obtain ⟨w2, hput, hm2, hc2⟩ := MapI.put_kn (w := w.drew) (P := Tryz.prog) (hm.frame rfl) Tryz.underlying155 Tryz.underlying3 hn.fls (fl (fixB x))
  have R := Lib.hid (h.stored c0 hn hm2 (⟨hc2.os, hc2.tape, hc2.output, hc2.size, hc2.block⟩ : Chg w w2 _))
  clear hm hown h hn hy hm2 hc2 c1 c2
  go_enter Tryz.func173, Tryz.ntmps173
  go_wp2_with fail
  go_region_law (first | (go_simp; go_at_call 115; refine (fix_any _ _).mono ?_; rintro e w' ⟨rfl, rfl⟩))
  all_goals
    go_wp2_with fail
    go_ret2
    exact ⟨rfl, R.out⟩

theorem put_full (p : Nat) (F : Nat → Prop) (l : List (Int × Nat)) (most c : Int) (x : Nat) (w : World) (h : Bf w p F l most) (hn : Un l c) (hf : (l.length : Int) = most) :
    Calls Tryz.prog 173 #[.pointer (some ⟨p, 0, none⟩), .int .i64 c, fl x] w fun e w' => e = .returned (.tuple #[.bool false, .int .i64 70]) ∧ ∃ m, w' = w.drewN m := by
  obtain ⟨b, a, cc, c0, c1, c2, hm, hown⟩ := h.cells
  have hlook := hm.look_un (P := Tryz.prog) Tryz.underlying155 Tryz.underlying3 hn.fls true (z := fl 0) (by rfl)
  have hq : ((l.length : Int) == most) = true := by simpa using hf
  clear hm hown h hn hf
  go_enter Tryz.func173, Tryz.ntmps173
  go_wp2_with fail
  go_quiet (fail)
  go_wp2_with fail
  go_ret2
  exact ⟨rfl, _, rfl⟩

theorem put_new (p : Nat) (F : Nat → Prop) (l : List (Int × Nat)) (most c : Int) (x : Nat) (w : World) (h : Bf w p F l most) (hn : Un l c) (hf : (l.length : Int) < most) :
    Calls Tryz.prog 173 #[.pointer (some ⟨p, 0, none⟩), .int .i64 c, fl x] w fun e w' => e = .returned (.tuple #[.bool true, .int .i64 0]) ∧ Bf w' p (Grow F w w') (l ++ [(c, fixB x)]) most ∧ Chg w w' F := by
  obtain ⟨b, a, cc, c0, c1, c2, hm, hown⟩ := h.cells
  have hlook := hm.look_un (P := Tryz.prog) Tryz.underlying155 Tryz.underlying3 hn.fls true (z := fl 0) (by rfl)
  have hq : ((l.length : Int) == most) = false := by simp; omega
  have H := Lib.hid h
  have HN := Lib.hid hn
  have HF := Lib.hid hf
  have HO := Lib.hid hown
  have HL := Lib.hid (show l.length ≤ 32 from by have := h.fits; omega)
  have C0 := Lib.hid c0
  have C1 := Lib.hid c1
  clear hm hown h hn hf
  go_enter Tryz.func173, Tryz.ntmps173
  go_wp2_with fail
  go_quiet (fail)
  generalize hzs : cells1 l = zs at HO
  have HZ := Lib.hid hzs
  clear hzs
  go_wp2_with (at_builtin; refine append_one rfl _ _ 114 3 rfl (.int .i64 0) 1 8 Tryz.underlying114 (by kernel_rfl) rfl (by decide) _ l.length zs rfl (HO.out.drew.alloc _) w.heap.size 1 rfl [.int .i64 c] rfl ?c1 ?c2 ?c3 ?c4 ?c5)
  case c1 => intro j u hj; match j, hj with | 0, hj => simp at hj; subst hj; exact blk_cell (heap_alloc_new (w.drewN nq) _) 0
  case c2 => first | rfl | (intro u hu; simp at hu; subst hu; rfl)
  case c3 => have := HL.out; unfold maxLen; omega
  case c4 => have := HL.out; omega
  case c5 =>
    intro g cap w2 hown2 hg2 hgg
    have hc1 : Chg w ((w.drewN nq).alloc (.cells #[.int .i64 c] 3)) Nothing := ((Chg.refl _ _).drewN _).alloc _
    obtain ⟨x0, x1, x2, x3, x4⟩ := H.out.before C0.out C1.out hc1 hg2 (.slice (some ⟨g, 0, none⟩) (l.length + 1) cap)
    obtain ⟨w4, hput, hm4, hc4⟩ := MapI.put_un (P := Tryz.prog) x3 Tryz.underlying155 Tryz.underlying3 HN.out.fls (fl (fixB x))
    have R := Lib.hid (H.out.pushed (w2 := w2) (g := g) (cap := cap) HN.out HF.out C0.out C1.out hc1 hg2 (by rw [HZ.out]; exact hown2) (hgg.imp id (fun h => by simpa using h)) hm4 (⟨hc4.os, hc4.tape, hc4.output, hc4.size, hc4.block⟩ : Chg (w2.setCell ⟨p, 1, none⟩ (.slice (some ⟨g, 0, none⟩) (l.length + 1) cap)) w4 (fun j => j = b)))
    clear hown2 hg2 hgg hc1 x3 hm4 hc4 c0 c1 c2 hlook
    go_wp2_with fail
    go_region_law (first | (go_simp; go_at_call 115; refine (fix_any _ _).mono ?_; rintro e w' ⟨rfl, rfl⟩))
    all_goals
      go_wp2_with fail
      go_ret2
      exact ⟨rfl, R.out⟩

theorem get_known (p : Nat) (F : Nat → Prop) (l : List (Int × Nat)) (most c : Int) (i y : Nat) (w : World) (h : Bf w p F l most) (hn : Kn l c i) (hy : l[i]? = some (c, y)) :
    Calls Tryz.prog 171 #[.pointer (some ⟨p, 0, none⟩), .int .i64 c] w fun e w' => e = .returned (.tuple #[fl y, .bool true]) ∧ w = w' := by
  obtain ⟨b, a, cc, c0, c1, c2, hm, hown⟩ := h.cells
  have hlook := hm.look_kn (P := Tryz.prog) Tryz.underlying155 Tryz.underlying3 hn.fls true (fls_at hy)
  clear hm hown h hn hy
  go_enter Tryz.func171, Tryz.ntmps171
  go_wp2_with fail
  go_ret2
  exact ⟨rfl, rfl⟩

theorem get_un (p : Nat) (F : Nat → Prop) (l : List (Int × Nat)) (most c : Int) (w : World) (h : Bf w p F l most) (hn : Un l c) :
    Calls Tryz.prog 171 #[.pointer (some ⟨p, 0, none⟩), .int .i64 c] w fun e w' => e = .returned (.tuple #[fl 0, .bool false]) ∧ w = w' := by
  obtain ⟨b, a, cc, c0, c1, c2, hm, hown⟩ := h.cells
  have hlook := hm.look_un (P := Tryz.prog) Tryz.underlying155 Tryz.underlying3 hn.fls true (z := fl 0) (by rfl)
  clear hm hown h hn
  go_enter Tryz.func171, Tryz.ntmps171
  go_wp2_with fail
  go_ret2
  exact ⟨rfl, rfl⟩

theorem Bf.cleared {w w1 : World} {p : Nat} {F : Nat → Prop} {l : List (Int × Nat)} {most : Int} {b : Nat} (h : Bf w p F l most) (c0 : w.cell? ⟨p, 0, none⟩ = some (.map (some b))) (hm : MapI w1 b []) (hc : Chg w w1 (fun j => j = b)) :
    w1.cell? ⟨p, 1, none⟩ = w.cell? ⟨p, 1, none⟩ ∧ w1.frozen? ⟨p, 1, none⟩ = false ∧ Bf (w1.setCell ⟨p, 1, none⟩ (.slice none 0 0)) p F [] most ∧ Chg w (w1.setCell ⟨p, 1, none⟩ (.slice none 0 0)) F := by
  obtain ⟨b', a, cc, k1, k2, k3, k4, k5, k6, k7, k8, k9, k10, k11⟩ := h
  obtain rfl : b' = b := by have := (blk_cell k1 0).symm.trans c0; simpa using this
  have hpb := (hc.block p (k8 p k4) k6).trans k1
  refine ⟨by rw [blk_cell hpb, blk_cell k1], blk_free hpb 1, ⟨b', none, 0, by simpa using blk_set hpb 1 (.slice none 0 0), hm.frame (blk_set_other rfl (fun e => k6 e.symm) _), World.ownsRow_nil _ _ _ _, k4, k5, k6, by simp [Value.ownBlock], fun k hk => by have := k8 k hk; have := hc.size; simp [World.setCell]; omega, by simp, by simp; omega, k11⟩, ?_⟩
  exact (hc.mono (fun k _ hk => by rw [hk]; exact k5)).setCell (.inr k4) _

theorem new_bad (n : Int) (w : World) (h : n < 1 ∨ 32 < n) : Calls Tryz.prog 112 #[.int .i64 n] w fun e w' => e = .returned (.tuple #[.pointer none, .int .i64 1]) ∧ w = w' := by
  by_cases h1 : n < 1
  · have b1 : decide (n < 1) = true := by simpa using h1
    clear h
    go_enter Tryz.func112, Tryz.ntmps112
    go_wp2
    go_ret2
    exact ⟨rfl, rfl⟩
  · have b1 : decide (n < 1) = false := by simpa using h1
    have b2 : decide (32 < n) = true := by simp; omega
    clear h
    go_enter Tryz.func112, Tryz.ntmps112
    go_wp2
    go_ret2
    exact ⟨rfl, rfl⟩

theorem Bf.made (w : World) (n : Int) (h1 : 1 ≤ n) (h2 : n ≤ 32) :
    Bf ((w.alloc (.map #[] 0)).alloc (.cells #[.map (some w.heap.size), .slice none 0 0, .int .i64 n] 157)) (w.heap.size + 1) (Grow Nothing w ((w.alloc (.map #[] 0)).alloc (.cells #[.map (some w.heap.size), .slice none 0 0, .int .i64 n] 157))) [] n := by
  refine ⟨w.heap.size, none, 0, ?_, ?_, World.ownsRow_nil _ _ _ _, .inr ⟨by omega, by simp⟩, .inr ⟨by omega, by simp; omega⟩, by omega, by simp [Value.ownBlock], ?_, by simp, by simp; omega, h2⟩
  · have := heap_alloc_new (w.alloc (.map #[] 0)) (.cells #[.map (some w.heap.size), .slice none 0 0, .int .i64 n] 157)
    simpa using this
  · exact (MapI.made w).frame (by rw [blk_alloc (heap_alloc_new w (.map #[] 0))]; exact (heap_alloc_new w _).symm)
  · intro k hk
    rcases hk with hk | hk
    · exact hk.elim
    · exact hk.2

theorem new_good (n : Int) (w : World) (h1 : 1 ≤ n) (h2 : n ≤ 32) : Calls Tryz.prog 112 #[.int .i64 n] w fun e w' => ∃ p, e = .returned (.tuple #[.pointer (some ⟨p, 0, none⟩), .int .i64 0]) ∧ w.heap.size ≤ p ∧
    Bf w' p (Grow Nothing w w') [] n ∧ Chg w w' Nothing := by
  have b1 : decide (n < 1) = false := by simp; omega
  have b2 : decide (32 < n) = false := by simp; omega
  have R := Lib.hid (Bf.made w n h1 h2)
  clear h1 h2
  have hmm := @run_makeMap Tryz.prog
  go_enter Tryz.func112, Tryz.ntmps112
  go_wp2
  go_ret2
  exact ⟨_, rfl, by simp, R.out, ((Chg.refl _ _).alloc _).alloc _⟩

end Go.Proofs.YtgeapkalabijmaaGreat

/- The code's buffer: All and Clone. -/
namespace Go.Proofs.YtgeapkalabijmaaGreat
open Go Go.RowKit
set_option maxRecDepth 100000
set_option maxHeartbeats 1000000
set_option linter.unusedVariables false
set_option linter.unusedSimpArgs false

/-- Cells and numbers in a row. -/
def tchV (ts : List (Int × Nat)) : List Value := ts.flatMap fun t => [.int .i64 t.1, fl t.2]
theorem tchV_len (ts : List (Int × Nat)) : (tchV ts).length = ts.length * 2 := by
  induction ts with
  | nil => rfl
  | cons t ts ih => simp [tchV] at ih ⊢; omega
theorem tchV_snoc (ts : List (Int × Nat)) (t : Int × Nat) : tchV (ts ++ [t]) = tchV ts ++ [.int .i64 t.1, fl t.2] := by simp [tchV]
theorem tchV_at : ∀ (ts : List (Int × Nat)) (i : Nat) (x : Int × Nat), ts[i]? = some x → (tchV ts)[i * 2]? = some (.int .i64 x.1) ∧ (tchV ts)[i * 2 + 1]? = some (fl x.2)
  | [], i, x, h => by simp at h
  | t :: ts, 0, x, h => by simp at h; subst h; exact ⟨rfl, rfl⟩
  | t :: ts, i + 1, x, h => by
    have := tchV_at ts i x (by simpa using h)
    rw [show (i + 1) * 2 = i * 2 + 2 by omega]
    exact this

/-- 'make([]T, n)', whatever T's size. -/
theorem make_rows {P : Program} {w : World} {ops : Array Oper} {rest : List Oper} {o : Oper} {a : Act} {Q : Exit → Act → World → Prop} (hg : o.guard = none) (l c : Operand) (t e : TypeId) (hop : o.op = Op.makeSlice t l c)
    (z : Value) (size bytes : Nat) (ht : P.underlying t = some (.slice e)) (hinf : (P.info? e).map (fun i => (i.zero, i.size, i.bytes)) = some (some z, size, bytes)) 
    (kl kc : IntKind) (L C : Int) (n : Nat) (hl : a.eval l = .int kl L) (hc : a.eval c = .int kc C) (hL : L = (n : Int)) (hC : C = (n : Int)) (b2 : bytes * n ≤ 281474976710656) (b3 : n ≤ maxLen)
    (hK : ∀ w' xs, w'.ownsRow w.heap.size e size (.slice (some ⟨w.heap.size, 0, none⟩) n n) n xs → w.grownBy w' none → wpList P ops Q rest (a.put o.dst (.slice (some ⟨w.heap.size, 0, none⟩) n n)) w') : wpList P ops Q (o :: rest) a w := by
  obtain ⟨i, hi, hz0, hsize, hby⟩ := info_parts hinf
  exact wpList_make_full w hg l c t hop w.heap.size e i z size ht hi hz0 hsize kl kc L C n hl hc hL hC (by rw [hby]; exact b2) b3 (Nat.le_refl _) fun w' h1 h2 => hK w' _ h1 h2

/-- The first n pairs of a row are these. -/
def Filled (w wr : World) (g : Nat) (l : List (Int × Nat)) (n : Nat) : Prop :=
  ∃ xs, wr.ownsRow w.heap.size 152 2 (.slice (some ⟨g, 0, none⟩) l.length l.length) l.length xs ∧ (∀ j, j < n * 2 → xs[j]? = (tchV l)[j]?) ∧ Chg w wr Nothing
theorem Filled.store {w wr : World} {g n : Nat} {l : List (Int × Nat)} {c : Int} {y : Nat} (h : Filled w wr g l n) (hy : l[n]? = some (c, y)) :
    wr.frozen? ⟨g, n * 2, none⟩ = false ∧ wr.frozen? ⟨g, n * 2 + 1, none⟩ = false ∧ (∃ u, wr.cell? ⟨g, n * 2, none⟩ = some u) ∧ (∃ u, wr.cell? ⟨g, n * 2 + 1, none⟩ = some u) ∧ Filled w ((wr.setCell ⟨g, n * 2, none⟩ (.int .i64 c)).setCell ⟨g, n * 2 + 1, none⟩ (fl y)) g l (n + 1) := by
  obtain ⟨xs, h1, h2, h3⟩ := h
  have hlt := (List.getElem?_eq_some_iff.1 hy).1
  have hl : xs.length = l.length * 2 := h1.1
  obtain ⟨t1, t2⟩ := tchV_at l n _ hy
  have s1 := h1.stored (n * 2) (.int .i64 c)
  have s2 := s1.1.stored (n * 2 + 1) (fl y)
  have hgw : w.heap.size ≤ g := (h1.lt g rfl).1
  refine ⟨h1.frozenAt _, h1.frozenAt _, ⟨xs[n * 2]'(by omega), by rw [h1.cellAt _ (by omega)]; simp⟩, ⟨xs[n * 2 + 1]'(by omega), by rw [h1.cellAt _ (by omega)]; simp⟩, _, s2.1, ?_, (h3.grown s1.2 (fun k hk => by cases hk; exact .inl hgw)).grown s2.2 (fun k hk => by cases hk; exact .inl hgw)⟩
  intro j hj
  by_cases e2 : j = n * 2 + 1
  · subst e2
    rw [List.getElem?_set_self (by simp; omega), t2]
  · rw [List.getElem?_set_ne (fun e => e2 e.symm)]
    by_cases e1 : j = n * 2
    · subst e1
      rw [List.getElem?_set_self (by omega), t1]
    · rw [List.getElem?_set_ne (fun e => e1 e.symm)]
      exact h2 j (by omega)
theorem Filled.all {w wr : World} {g : Nat} {l : List (Int × Nat)} (h : Filled w wr g l l.length) : wr.ownsRow w.heap.size 152 2 (.slice (some ⟨g, 0, none⟩) l.length l.length) l.length (tchV l) ∧ Chg w wr Nothing := by
  obtain ⟨xs, h1, h2, h3⟩ := h
  have hl : xs.length = l.length * 2 := h1.1
  have : xs = tchV l := by
    refine List.ext_getElem? fun j => ?_
    by_cases hj : j < l.length * 2
    · exact h2 j hj
    · rw [List.getElem?_eq_none (by omega), List.getElem?_eq_none (by rw [tchV_len]; omega)]
  rw [← this]
  exact ⟨h1, h3⟩

theorem all_any (p : Nat) (F : Nat → Prop) (l : List (Int × Nat)) (most : Int) (w : World) (h : Bf w p F l most) :
    Calls Tryz.prog 123 #[.pointer (some ⟨p, 0, none⟩)] w fun e w' => ∃ a c, e = .returned (.slice a l.length c) ∧ w'.ownsRow w.heap.size 152 2 (.slice a l.length c) l.length (tchV l) ∧ Chg w w' Nothing := by
  obtain ⟨b, a, cc, c0, c1, c2, hm, hown⟩ := h.cells
  have hfit := h.fits
  have HFIT := Lib.hid hfit
  have hl : l.length ≤ 32 := by omega
  have HL := Lib.hid hl
  have HM := Lib.hid hm
  have HO := Lib.hid (Sees.of_owns hown)
  clear h hm hown hfit hl
  go_enter Tryz.func123, Tryz.ntmps123
  go_wp2_with (at_make; refine make_rows rfl _ _ 56 152 rfl (.agg #[.int .i64 0, fl 0]) 2 16 Tryz.underlying56 (by kernel_rfl) .i64 .i64 _ _ l.length rfl rfl rfl rfl (by have := HL.out; omega) (by have := HL.out; unfold maxLen; omega) ?c1)
  case c1 =>
    intro w1 xs hown1 hg1
    have hc1 : Chg w w1 Nothing := (Chg.refl _ _).grown hg1 (fun k hk => by cases hk)
    have d0 := hc1.cell c0 id
    have d1 := hc1.cell c1 id
    have d2 := hc1.cell c2 id
    have F1 := Lib.hid (show Filled w w1 w.heap.size l 0 from ⟨xs, hown1, fun j hj => by omega, hc1⟩)
    have C0 := Lib.hid c0
    clear hown1 hg1 hc1
    go_wp2_with fail
    go_loopg [17] l.length (fun k i wr => ∃ n : Nat, n + k = l.length ∧ i = .int .i64 n ∧ Filled w wr w.heap.size l n)
    case atStart => exact ⟨0, by simp, rfl, F1.out⟩
    case round =>
      clear d0 d1 d2 F1
      obtain ⟨n, hn, rfl, hfil⟩ := hrel
      by_cases hlt : n < l.length
      · have hd : decide (n < l.length) = true := by simpa using hlt
        obtain ⟨c, y, hy⟩ : ∃ c y, l[n]? = some (c, y) := ⟨_, _, List.getElem?_eq_getElem hlt⟩
        have hc : Chg w wr Nothing := by obtain ⟨xs, _, _, h⟩ := hfil; exact h
        obtain ⟨f1, f2, ⟨u1, u1c⟩, ⟨u2, u2c⟩, R⟩ := hfil.store hy
        have R := Lib.hid R
        rcases HO.out with h | ⟨bo, oo, rfl, g⟩
        · simp [cells1] at h; subst h; simp at hlt
        have cx := hc.cell (g n (.int .i64 c) (by simp [cells1, hy])) id
        have e0 := hc.cell c0 id
        have hkn : Kn l c n := Kn.of_nodup (t := (c, y)) HFIT.out.1 hy
        have hlook := (HM.out.frame (hc.block b HM.out.lt id)).look_kn (P := Tryz.prog) Tryz.underlying155 Tryz.underlying3 hkn.fls false (fls_at hy)
        clear hfil hc g hkn hy c0 c1 c2
        have hb32 := HL.out
        go_wp2_with fail
        go_roundg (gk - 1)
        case measure => omega
        case rel => exact ⟨n + 1, by omega, by go_num, R.out⟩
      · have hd : decide (n < l.length) = false := by simpa using hlt
        obtain rfl : n = l.length := by have : n ≤ l.length := by omega
                                        omega
        have R := Lib.hid hfil.all
        clear hfil
        go_wp2
        go_ret
        exact ⟨_, _, rfl, R.out⟩

theorem cells1_one (l : List (Int × Nat)) : ∀ u ∈ cells1 l, u.oneCell' = true := by
  intro u hu; obtain ⟨z, _, rfl⟩ := List.mem_map.1 hu; rfl
theorem cells1_len (l : List (Int × Nat)) : (cells1 l).length = l.length := by simp [cells1]

theorem Bf.copied {w w2 w3 : World} {l : List (Int × Nat)} {most : Int} {b : Nat} {a : Option Addr} {c : Nat} (hf : (l.map (·.1)).Nodup ∧ (l.length : Int) ≤ most ∧ most ≤ 32) (hm : MapI w2 b (fls l)) (hb : w.heap.size ≤ b) (c2 : Chg w w2 Nothing)
    (hown : w3.ownsRow w2.heap.size 3 1 (.slice a l.length c) l.length (cells1 l)) (c3 : Chg w2 w3 Nothing) :
    w.heap.size ≤ w3.heap.size ∧ Bf (w3.alloc (.cells #[.map (some b), .slice a l.length c, .int .i64 most] 157)) w3.heap.size (Grow Nothing w (w3.alloc (.cells #[.map (some b), .slice a l.length c, .int .i64 most] 157))) l most ∧
      Chg w (w3.alloc (.cells #[.map (some b), .slice a l.length c, .int .i64 most] 157)) Nothing := by
  have h2 := c2.size
  have h3 := c3.size
  have hbl := hm.lt
  refine ⟨by omega, ⟨b, a, c, heap_alloc_new w3 _, (hm.frame (c3.block b hbl id)).frame ?_, ownsRow_base (hown.alloc _) (Nat.zero_le _), .inr ⟨by omega, by simp⟩, .inr ⟨hb, by simp; omega⟩, by omega, ?_, ?_, hf⟩, (c2.trans c3 (fun _ _ h => h)).alloc _⟩
  · have : b < w3.heap.size := by omega
    obtain ⟨o, ho⟩ : ∃ o, w3.heap[b]? = some o := ⟨_, Array.getElem?_eq_getElem this⟩
    rw [ho]; exact blk_alloc ho _
  · intro k hk
    have := hown.lt k hk
    exact ⟨.inr ⟨by omega, by simp; omega⟩, by omega, by omega⟩
  · intro k hk
    rcases hk with hk | hk
    · exact hk.elim
    · exact hk.2

end Go.Proofs.YtgeapkalabijmaaGreat
/- The contracts of a stack's methods over []int. -/
namespace Go.Proofs.YtgeapkalabijmaaGreat.SI
open Go Go.RowKit
set_option maxRecDepth 100000
set_option maxHeartbeats 1000000
set_option linter.unusedVariables false
set_option linter.unusedSimpArgs false

theorem len_any (p : Nat) (F : Nat → Prop) (xs : List Value) (room : Int) (w : World) (h : Stk 161 3 w p F xs room) :
    Calls Tryz.prog 157 #[.pointer (some ⟨p, 0, none⟩)] w fun e w' => e = .returned (.int .i64 xs.length) ∧ w = w' := by
  obtain ⟨a, c, c0, c1, hr⟩ := h.cells
  clear h
  go_enter Tryz.func157, Tryz.ntmps157
  go_wp2
  go_ret
  exact ⟨rfl, rfl⟩

theorem pick_bad (p : Nat) (F : Nat → Prop) (xs : List Value) (room n : Int) (w : World) (h : Stk 161 3 w p F xs room) (hn : n < 0 ∨ (xs.length : Int) ≤ n) :
    Calls Tryz.prog 175 #[.pointer (some ⟨p, 0, none⟩), .int .i64 n] w fun e w' => e = .returned (.tuple #[.int .i64 0, .int .i64 41]) ∧ ∃ m, w' = w.drewN m := by
  obtain ⟨v, h1, h2, h3, h4, h5, h6, h7, a, c, rfl⟩ := h
  have c0 := blk_cell h1 0
  clear h1 h2 h3 h4 h5
  simp at c0
  by_cases h0 : n < 0
  · clear hn
    have hb : decide (n < 0) = true := by simpa using h0
    go_enter Tryz.func175, Tryz.ntmps175
    go_wp2
    go_ret2
    exact ⟨rfl, 0, rfl⟩
  · have hb : decide (n < 0) = false := by simpa using h0
    have hd : decide ((xs.length : Int) ≤ n) = true := by simp; omega
    go_enter Tryz.func175, Tryz.ntmps175
    go_wp2
    go_ret2
    exact ⟨rfl, 0, rfl⟩

theorem pick_good (p : Nat) (F : Nat → Prop) (xs : List Value) (room : Int) (k : Nat) (w : World) (h : Stk 161 3 w p F xs room) (x : Value) (hk : k < xs.length) (hx : xs[xs.length - 1 - k]? = some x) :
    Calls Tryz.prog 175 #[.pointer (some ⟨p, 0, none⟩), .int .i64 k] w fun e w' => e = .returned (.tuple #[x, .int .i64 0]) ∧ ∃ m, w' = w.drewN m := by
  obtain ⟨v, h1, h2, h3, h4, h5, h6, h7, a, c, rfl⟩ := h
  have c0 := blk_cell h1 0
  obtain ⟨g, cap, cur, he, _⟩ : ∃ g cap cur, Value.slice a xs.length c = .slice (some ⟨g, 0, none⟩) xs.length cap ∧ w.heap[g]? = some (.cells cur 3 (0, 0)) := by
    rcases h2.2 with ⟨_, h⟩ | ⟨g, cap, cur, he, _, hh, _⟩
    · omega
    · exact ⟨g, cap, cur, he, hh⟩
  injection he with he1 he2 he3
  subst he1 he3
  have cx := ownsRow_at h2 _ _ hx
  clear h1 h2 h3 h4 h5
  simp at c0
  have h0 : decide ((k : Int) < 0) = false := by simp
  have hd : decide ((xs.length : Int) ≤ k) = false := by simp; omega
  clear hx
  go_enter Tryz.func175, Tryz.ntmps175
  go_wp2
  go_quiet (fail)
  go_wp2
  go_ret2
  exact ⟨rfl, _, rfl⟩

theorem pop_bad (p : Nat) (F : Nat → Prop) (room : Int) (w : World) (h : Stk 161 3 w p F [] room) :
    Calls Tryz.prog 163 #[.pointer (some ⟨p, 0, none⟩)] w fun e w' => e = .returned (.tuple #[.int .i64 0, .int .i64 41]) ∧ ∃ m, w' = w.drewN m := by
  go_enter Tryz.func163, Tryz.ntmps163
  go_wp2_with (go_at_call 175; refine (pick_bad _ _ _ _ _ _ h (.inr (by simp))).mono ?_; rintro e w' ⟨rfl, m, rfl⟩)
  go_ret2
  exact ⟨rfl, m, rfl⟩

theorem pop_good (p : Nat) (F : Nat → Prop) (xs : List Value) (x : Value) (room : Int) (w : World) (h : Stk 161 3 w p F (xs ++ [x]) room) :
    Calls Tryz.prog 163 #[.pointer (some ⟨p, 0, none⟩)] w fun e w' => e = .returned (.tuple #[x, .int .i64 0]) ∧ Stk 161 3 w' p F xs room ∧ Chg w w' F := by
  have hp := pick_good p F (xs ++ [x]) room 0 w h x (by simp) (by simp)
  have H := Lib.hid h
  obtain ⟨g, c, c0, f0, hc, hl⟩ := h.top
  clear h
  have HP := Lib.hid hp
  clear hp
  have e1 : IntKind.i64.wrap (xs.length : Int) = xs.length := IntWalk.i64_in _ (by omega)
  have e2 : (xs.length : Int) ≤ c := by omega
  go_enter Tryz.func163, Tryz.ntmps163
  go_wp2_with (go_at_call 175; refine HP.out.mono ?_; rintro e w' ⟨rfl, m, rfl⟩)
  go_region
  go_wp2
  go_ret2
  exact ⟨rfl, (H.out.drewN _).popped c0, H.out.chg0' _ _⟩

theorem push_full (p : Nat) (F : Nat → Prop) (xs : List Value) (x : Value) (w : World) (h : Stk 161 3 w p F xs xs.length) :
    Calls Tryz.prog 162 #[.pointer (some ⟨p, 0, none⟩), x] w fun e w' => e = .returned (.int .i64 40) ∧ ∃ m, w' = w.drewN m := by
  obtain ⟨a, c, c0, c1, hr⟩ := h.cells
  clear h
  have hb : ((xs.length : Int) == (xs.length : Int)) = true := by simp
  have hb' : decide ((xs.length : Int) ≤ (xs.length : Int)) = true := by simp
  go_enter Tryz.func162, Tryz.ntmps162
  go_wp2
  go_quiet (fail)
  go_wp2
  go_ret
  exact ⟨rfl, _, rfl⟩

theorem push_good (p : Nat) (F : Nat → Prop) (xs : List Value) (room : Int) (x : Int) (w : World) (h : Stk 161 3 w p F xs room) (hl : (xs.length : Int) < room) :
    Calls Tryz.prog 162 #[.pointer (some ⟨p, 0, none⟩), .int .i64 x] w fun e w' => e = .returned (.int .i64 0) ∧
      Stk 161 3 w' p (Grow F w w') (xs ++ [.int .i64 x]) room ∧ Chg w w' F := by
  have H := Lib.hid h
  obtain ⟨a, c, c0, c1, hr⟩ := h.cells
  have f0 := h.free 0
  have hown := h.owns c0
  have hb : ((xs.length : Int) == room) = false := by simp; omega
  have hb' : decide (room ≤ (xs.length : Int)) = false := by simp; omega
  clear h
  go_enter Tryz.func162, Tryz.ntmps162
  go_wp2
  go_quiet (fail)
  go_wp2_with (at_builtin; refine append_one rfl _ _ 114 3 rfl (.int .i64 0) 1 8 Tryz.underlying114 (by kernel_rfl) rfl (by decide) _ xs.length xs rfl (World.ownsRow.alloc (w := w.drewN nq) hown _) w.heap.size 1 rfl [.int .i64 x] rfl ?c1 ?c2 ?c3 ?c4 ?c5)
  case c1 => intro j u hj; match j, hj with | 0, hj => simp at hj; subst hj; exact blk_cell (heap_alloc_new (w.drewN nq) _) 0
  case c2 => intro u hu; simp at hu; subst hu; rfl
  case c3 => unfold maxLen; omega
  case c4 => omega
  case c5 =>
    intro g cap w2 hown2 hg2 hgg
    have h1 : Chg w ((w.drewN nq).alloc (.cells #[.int .i64 x] 3)) Nothing := ((Chg.refl _ _).drewN nq).alloc _
    obtain ⟨d0, e0⟩ := H.out.blk c0 h1 hg2
    have R := Lib.hid (H.out.pushed hl c0 h1 hg2 hown2 (by simpa using hgg))
    clear h1 hown2 hg2 hgg hown c0 c1 f0
    go_wp2
    go_ret
    exact ⟨rfl, R.out⟩


attribute [local go_sem] max2_int min2_int max_two min_two

theorem new_any (r : Int) (w : World) :
    Calls Tryz.prog 114 #[.int .i64 r] w fun e w' => ∃ p, e = .returned (.pointer (some ⟨p, 0, none⟩)) ∧ w.heap.size ≤ p ∧ Stk 161 3 w' p (Grow Nothing w w') [] (roomOf r) ∧ Chg w w' Nothing := by
  have R := Lib.hid (roomOf_le r)
  obtain ⟨q, hq⟩ : ∃ q, q = roomOf r := ⟨_, rfl⟩
  have hq' : (if 65536 < (if r < 0 then 0 else r) then 65536 else (if r < 0 then 0 else r)) = q := hq.symm
  have HQ := Lib.hid hq
  clear hq
  go_enter Tryz.func114, Tryz.ntmps114
  go_wp2
  all_goals
    go_ret
    exact ⟨_, rfl, Nat.le_refl _, HQ.out ▸ stk_new R.out.1 R.out.2 w q HQ.out, (Chg.refl _ _).alloc _⟩

theorem push_any (p : Nat) (F : Nat → Prop) (zs : List Int) (room : Int) (x : Int) (w : World) (h : Stk 161 3 w p F (zs.map (Value.int .i64)) room) :
    Calls Tryz.prog 162 #[.pointer (some ⟨p, 0, none⟩), .int .i64 x] w fun e w' => e = .returned (.int .i64 (pushE zs room)) ∧
      Stk 161 3 w' p (Grow F w w') ((pushL zs room x).map (Value.int .i64)) room ∧ Chg w w' F := by
  by_cases hl : (zs.length : Int) < room
  · refine (push_good p F _ room x w h (by simpa using hl)).mono fun e w' ⟨he, hs, hc⟩ => ⟨?_, ?_, hc⟩
    · rw [he, pushE, if_pos hl]
    · rw [pushL, if_pos hl, List.map_append]; exact hs
  · have hr := h.fits
    obtain rfl : room = ((zs.map (Value.int .i64)).length : Nat) := by simp at hr ⊢; omega
    refine (push_full p F _ _ w h).mono fun e w' ⟨he, m, hw⟩ => ?_
    subst hw
    refine ⟨?_, ?_, Chg.drawn _ _ _⟩
    · rw [he, pushE, if_neg hl]
    · rw [pushL, if_neg hl]; exact (h.drewN m).grow

theorem pop_any (p : Nat) (F : Nat → Prop) (zs : List Int) (room : Int) (w : World) (h : Stk 161 3 w p F (zs.map (Value.int .i64)) room) :
    Calls Tryz.prog 163 #[.pointer (some ⟨p, 0, none⟩)] w fun e w' => e = .returned (.tuple #[(Value.int .i64) (popV 0 zs), .int .i64 (popE zs)]) ∧
      Stk 161 3 w' p F (zs.dropLast.map (Value.int .i64)) room ∧ Chg w w' F := by
  rcases List.eq_nil_or_concat zs with rfl | ⟨ys, y, rfl⟩
  · refine (pop_bad p F room w h).mono fun e w' ⟨he, m, hw⟩ => ?_
    subst hw
    exact ⟨he, h.drewN m, Chg.drawn _ _ _⟩
  · simp only [List.concat_eq_append] at h ⊢
    refine (pop_good p F (ys.map (Value.int .i64)) ((Value.int .i64) y) room w (by simpa using h)).mono fun e w' ⟨he, hs, hc⟩ => ⟨?_, ?_, hc⟩
    · rw [he]; simp [popE, popV]
    · simpa using hs

theorem pick_any (p : Nat) (F : Nat → Prop) (zs : List Int) (room n : Int) (w : World) (h : Stk 161 3 w p F (zs.map (Value.int .i64)) room) :
    Calls Tryz.prog 175 #[.pointer (some ⟨p, 0, none⟩), .int .i64 n] w fun e w' => e = .returned (.tuple #[(Value.int .i64) (pickV 0 zs n), .int .i64 (pickE zs n)]) ∧ ∃ m, w' = w.drewN m := by
  by_cases hn : 0 ≤ n ∧ n < zs.length
  · obtain ⟨k, rfl⟩ : ∃ k : Nat, n = k := ⟨n.toNat, by omega⟩
    have hk : k < zs.length := by omega
    refine (pick_good p F _ room k w h ((Value.int .i64) (zs.getD (zs.length - 1 - k) 0)) (by simpa using hk) ?_).mono fun e w' ⟨he, hw⟩ => ⟨?_, hw⟩
    · have : zs.length - 1 - k < zs.length := by omega
      simp [this]
    · rw [he, pickV, pickE, if_pos hn, if_pos hn, Int.toNat_natCast]
  · refine (pick_bad p F _ room n w h (by simp; omega)).mono fun e w' ⟨he, hw⟩ => ⟨?_, hw⟩
    rw [he, pickV, pickE, if_neg hn, if_neg hn]

end Go.Proofs.YtgeapkalabijmaaGreat.SI

/- The contracts of a stack's methods over []float64. -/
namespace Go.Proofs.YtgeapkalabijmaaGreat.SF
open Go Go.RowKit
set_option maxRecDepth 100000
set_option maxHeartbeats 1000000
set_option linter.unusedVariables false
set_option linter.unusedSimpArgs false

theorem len_any (p : Nat) (F : Nat → Prop) (xs : List Value) (room : Int) (w : World) (h : Stk 159 61 w p F xs room) :
    Calls Tryz.prog 156 #[.pointer (some ⟨p, 0, none⟩)] w fun e w' => e = .returned (.int .i64 xs.length) ∧ w = w' := by
  obtain ⟨a, c, c0, c1, hr⟩ := h.cells
  clear h
  go_enter Tryz.func156, Tryz.ntmps156
  go_wp2
  go_ret
  exact ⟨rfl, rfl⟩

theorem pick_bad (p : Nat) (F : Nat → Prop) (xs : List Value) (room n : Int) (w : World) (h : Stk 159 61 w p F xs room) (hn : n < 0 ∨ (xs.length : Int) ≤ n) :
    Calls Tryz.prog 172 #[.pointer (some ⟨p, 0, none⟩), .int .i64 n] w fun e w' => e = .returned (.tuple #[.float .f64 0, .int .i64 41]) ∧ ∃ m, w' = w.drewN m := by
  obtain ⟨v, h1, h2, h3, h4, h5, h6, h7, a, c, rfl⟩ := h
  have c0 := blk_cell h1 0
  clear h1 h2 h3 h4 h5
  simp at c0
  by_cases h0 : n < 0
  · clear hn
    have hb : decide (n < 0) = true := by simpa using h0
    go_enter Tryz.func172, Tryz.ntmps172
    go_wp2
    go_ret2
    exact ⟨rfl, 0, rfl⟩
  · have hb : decide (n < 0) = false := by simpa using h0
    have hd : decide ((xs.length : Int) ≤ n) = true := by simp; omega
    go_enter Tryz.func172, Tryz.ntmps172
    go_wp2
    go_ret2
    exact ⟨rfl, 0, rfl⟩

theorem pick_good (p : Nat) (F : Nat → Prop) (xs : List Value) (room : Int) (k : Nat) (w : World) (h : Stk 159 61 w p F xs room) (x : Value) (hk : k < xs.length) (hx : xs[xs.length - 1 - k]? = some x) :
    Calls Tryz.prog 172 #[.pointer (some ⟨p, 0, none⟩), .int .i64 k] w fun e w' => e = .returned (.tuple #[x, .int .i64 0]) ∧ ∃ m, w' = w.drewN m := by
  obtain ⟨v, h1, h2, h3, h4, h5, h6, h7, a, c, rfl⟩ := h
  have c0 := blk_cell h1 0
  obtain ⟨g, cap, cur, he, _⟩ : ∃ g cap cur, Value.slice a xs.length c = .slice (some ⟨g, 0, none⟩) xs.length cap ∧ w.heap[g]? = some (.cells cur 61 (0, 0)) := by
    rcases h2.2 with ⟨_, h⟩ | ⟨g, cap, cur, he, _, hh, _⟩
    · omega
    · exact ⟨g, cap, cur, he, hh⟩
  injection he with he1 he2 he3
  subst he1 he3
  have cx := ownsRow_at h2 _ _ hx
  clear h1 h2 h3 h4 h5
  simp at c0
  have h0 : decide ((k : Int) < 0) = false := by simp
  have hd : decide ((xs.length : Int) ≤ k) = false := by simp; omega
  clear hx
  go_enter Tryz.func172, Tryz.ntmps172
  go_wp2
  go_quiet (fail)
  go_wp2
  go_ret2
  exact ⟨rfl, _, rfl⟩

theorem pop_bad (p : Nat) (F : Nat → Prop) (room : Int) (w : World) (h : Stk 159 61 w p F [] room) :
    Calls Tryz.prog 174 #[.pointer (some ⟨p, 0, none⟩)] w fun e w' => e = .returned (.tuple #[.float .f64 0, .int .i64 41]) ∧ ∃ m, w' = w.drewN m := by
  go_enter Tryz.func174, Tryz.ntmps174
  go_wp2_with (go_at_call 172; refine (pick_bad _ _ _ _ _ _ h (.inr (by simp))).mono ?_; rintro e w' ⟨rfl, m, rfl⟩)
  go_ret2
  exact ⟨rfl, m, rfl⟩

theorem pop_good (p : Nat) (F : Nat → Prop) (xs : List Value) (x : Value) (room : Int) (w : World) (h : Stk 159 61 w p F (xs ++ [x]) room) :
    Calls Tryz.prog 174 #[.pointer (some ⟨p, 0, none⟩)] w fun e w' => e = .returned (.tuple #[x, .int .i64 0]) ∧ Stk 159 61 w' p F xs room ∧ Chg w w' F := by
  have hp := pick_good p F (xs ++ [x]) room 0 w h x (by simp) (by simp)
  have H := Lib.hid h
  obtain ⟨g, c, c0, f0, hc, hl⟩ := h.top
  clear h
  have HP := Lib.hid hp
  clear hp
  have e1 : IntKind.i64.wrap (xs.length : Int) = xs.length := IntWalk.i64_in _ (by omega)
  have e2 : (xs.length : Int) ≤ c := by omega
  go_enter Tryz.func174, Tryz.ntmps174
  go_wp2_with (go_at_call 172; refine HP.out.mono ?_; rintro e w' ⟨rfl, m, rfl⟩)
  go_region
  go_wp2
  go_ret2
  exact ⟨rfl, (H.out.drewN _).popped c0, H.out.chg0' _ _⟩

theorem push_full (p : Nat) (F : Nat → Prop) (xs : List Value) (x : Value) (w : World) (h : Stk 159 61 w p F xs xs.length) :
    Calls Tryz.prog 165 #[.pointer (some ⟨p, 0, none⟩), x] w fun e w' => e = .returned (.int .i64 40) ∧ ∃ m, w' = w.drewN m := by
  obtain ⟨a, c, c0, c1, hr⟩ := h.cells
  clear h
  have hb : ((xs.length : Int) == (xs.length : Int)) = true := by simp
  have hb' : decide ((xs.length : Int) ≤ (xs.length : Int)) = true := by simp
  go_enter Tryz.func165, Tryz.ntmps165
  go_wp2
  go_quiet (fail)
  go_wp2
  go_ret
  exact ⟨rfl, _, rfl⟩

theorem push_good (p : Nat) (F : Nat → Prop) (xs : List Value) (room : Int) (x : Nat) (w : World) (h : Stk 159 61 w p F xs room) (hl : (xs.length : Int) < room) :
    Calls Tryz.prog 165 #[.pointer (some ⟨p, 0, none⟩), .float .f64 x] w fun e w' => e = .returned (.int .i64 0) ∧
      Stk 159 61 w' p (Grow F w w') (xs ++ [.float .f64 x]) room ∧ Chg w w' F := by
  have H := Lib.hid h
  obtain ⟨a, c, c0, c1, hr⟩ := h.cells
  have f0 := h.free 0
  have hown := h.owns c0
  have hb : ((xs.length : Int) == room) = false := by simp; omega
  have hb' : decide (room ≤ (xs.length : Int)) = false := by simp; omega
  clear h
  go_enter Tryz.func165, Tryz.ntmps165
  go_wp2
  go_quiet (fail)
  go_wp2_with (at_builtin; refine append_one rfl _ _ 55 61 rfl (.float .f64 0) 1 8 Tryz.underlying55 (by kernel_rfl) rfl (by decide) _ xs.length xs rfl (World.ownsRow.alloc (w := w.drewN nq) hown _) w.heap.size 1 rfl [.float .f64 x] rfl ?c1 ?c2 ?c3 ?c4 ?c5)
  case c1 => intro j u hj; match j, hj with | 0, hj => simp at hj; subst hj; exact blk_cell (heap_alloc_new (w.drewN nq) _) 0
  case c2 => intro u hu; simp at hu; subst hu; rfl
  case c3 => unfold maxLen; omega
  case c4 => omega
  case c5 =>
    intro g cap w2 hown2 hg2 hgg
    have h1 : Chg w ((w.drewN nq).alloc (.cells #[.float .f64 x] 61)) Nothing := ((Chg.refl _ _).drewN nq).alloc _
    obtain ⟨d0, e0⟩ := H.out.blk c0 h1 hg2
    have R := Lib.hid (H.out.pushed hl c0 h1 hg2 hown2 (by simpa using hgg))
    clear h1 hown2 hg2 hgg hown c0 c1 f0
    go_wp2
    go_ret
    exact ⟨rfl, R.out⟩


attribute [local go_sem] max2_int min2_int max_two min_two

theorem new_any (r : Int) (w : World) :
    Calls Tryz.prog 113 #[.int .i64 r] w fun e w' => ∃ p, e = .returned (.pointer (some ⟨p, 0, none⟩)) ∧ w.heap.size ≤ p ∧ Stk 159 61 w' p (Grow Nothing w w') [] (roomOf r) ∧ Chg w w' Nothing := by
  have R := Lib.hid (roomOf_le r)
  obtain ⟨q, hq⟩ : ∃ q, q = roomOf r := ⟨_, rfl⟩
  have hq' : (if 65536 < (if r < 0 then 0 else r) then 65536 else (if r < 0 then 0 else r)) = q := hq.symm
  have HQ := Lib.hid hq
  clear hq
  go_enter Tryz.func113, Tryz.ntmps113
  go_wp2
  all_goals
    go_ret
    exact ⟨_, rfl, Nat.le_refl _, HQ.out ▸ stk_new R.out.1 R.out.2 w q HQ.out, (Chg.refl _ _).alloc _⟩

theorem push_any (p : Nat) (F : Nat → Prop) (zs : List Nat) (room : Int) (x : Nat) (w : World) (h : Stk 159 61 w p F (zs.map (Value.float .f64)) room) :
    Calls Tryz.prog 165 #[.pointer (some ⟨p, 0, none⟩), .float .f64 x] w fun e w' => e = .returned (.int .i64 (pushE zs room)) ∧
      Stk 159 61 w' p (Grow F w w') ((pushL zs room x).map (Value.float .f64)) room ∧ Chg w w' F := by
  by_cases hl : (zs.length : Int) < room
  · refine (push_good p F _ room x w h (by simpa using hl)).mono fun e w' ⟨he, hs, hc⟩ => ⟨?_, ?_, hc⟩
    · rw [he, pushE, if_pos hl]
    · rw [pushL, if_pos hl, List.map_append]; exact hs
  · have hr := h.fits
    obtain rfl : room = ((zs.map (Value.float .f64)).length : Nat) := by simp at hr ⊢; omega
    refine (push_full p F _ _ w h).mono fun e w' ⟨he, m, hw⟩ => ?_
    subst hw
    refine ⟨?_, ?_, Chg.drawn _ _ _⟩
    · rw [he, pushE, if_neg hl]
    · rw [pushL, if_neg hl]; exact (h.drewN m).grow

theorem pop_any (p : Nat) (F : Nat → Prop) (zs : List Nat) (room : Int) (w : World) (h : Stk 159 61 w p F (zs.map (Value.float .f64)) room) :
    Calls Tryz.prog 174 #[.pointer (some ⟨p, 0, none⟩)] w fun e w' => e = .returned (.tuple #[(Value.float .f64) (popV 0 zs), .int .i64 (popE zs)]) ∧
      Stk 159 61 w' p F (zs.dropLast.map (Value.float .f64)) room ∧ Chg w w' F := by
  rcases List.eq_nil_or_concat zs with rfl | ⟨ys, y, rfl⟩
  · refine (pop_bad p F room w h).mono fun e w' ⟨he, m, hw⟩ => ?_
    subst hw
    exact ⟨he, h.drewN m, Chg.drawn _ _ _⟩
  · simp only [List.concat_eq_append] at h ⊢
    refine (pop_good p F (ys.map (Value.float .f64)) ((Value.float .f64) y) room w (by simpa using h)).mono fun e w' ⟨he, hs, hc⟩ => ⟨?_, ?_, hc⟩
    · rw [he]; simp [popE, popV]
    · simpa using hs

theorem pick_any (p : Nat) (F : Nat → Prop) (zs : List Nat) (room n : Int) (w : World) (h : Stk 159 61 w p F (zs.map (Value.float .f64)) room) :
    Calls Tryz.prog 172 #[.pointer (some ⟨p, 0, none⟩), .int .i64 n] w fun e w' => e = .returned (.tuple #[(Value.float .f64) (pickV 0 zs n), .int .i64 (pickE zs n)]) ∧ ∃ m, w' = w.drewN m := by
  by_cases hn : 0 ≤ n ∧ n < zs.length
  · obtain ⟨k, rfl⟩ : ∃ k : Nat, n = k := ⟨n.toNat, by omega⟩
    have hk : k < zs.length := by omega
    refine (pick_good p F _ room k w h ((Value.float .f64) (zs.getD (zs.length - 1 - k) 0)) (by simpa using hk) ?_).mono fun e w' ⟨he, hw⟩ => ⟨?_, hw⟩
    · have : zs.length - 1 - k < zs.length := by omega
      simp [this]
    · rw [he, pickV, pickE, if_pos hn, if_pos hn, Int.toNat_natCast]
  · refine (pick_bad p F _ room n w h (by simp; omega)).mono fun e w' ⟨he, hw⟩ => ⟨?_, hw⟩
    rw [he, pickV, pickE, if_neg hn, if_neg hn]

end Go.Proofs.YtgeapkalabijmaaGreat.SF

/- A state of cells behind a pointer, and the contracts of its methods. -/
namespace Go.Proofs.YtgeapkalabijmaaGreat
open Go Go.RowKit
set_option maxRecDepth 100000
set_option maxHeartbeats 1000000
set_option linter.unusedVariables false
set_option linter.unusedSimpArgs false

/-- A struct of one slice at block p. -/
def St (T E : TypeId) (w : World) (p : Nat) (F : Nat → Prop) (xs : List Value) : Prop :=
  ∃ a c, w.heap[p]? = some (.cells #[.slice a xs.length c] T (0, 0)) ∧ w.ownsRow 0 E 1 (.slice a xs.length c) xs.length xs ∧ F p ∧ (∀ k, (Value.slice a xs.length c).ownBlock = some k → F k ∧ k ≠ p) ∧ (∀ k, F k → k < w.heap.size)

theorem fls_one (l : List Nat) : ∀ u ∈ l.map fl, u.oneCell' = true := by
  intro u hu; obtain ⟨z, _, rfl⟩ := List.mem_map.1 hu; rfl

section
variable {T E : TypeId} {w w' : World} {p : Nat} {F S : Nat → Prop} {xs : List Value}



theorem St.lt (h : St T E w p F xs) : ∀ k, F k → k < w.heap.size := by obtain ⟨a, c, h1, h2, h3, h4, h5⟩ := h; exact h5
theorem St.has (h : St T E w p F xs) : F p := by obtain ⟨a, c, h1, h2, h3, h4, h5⟩ := h; exact h3
theorem St.frame (h : St T E w p F xs) (hs : w.heap.size ≤ w'.heap.size) (hb : ∀ k, F k → w'.heap[k]? = w.heap[k]?) : St T E w' p F xs := by
  obtain ⟨a, c, h1, h2, h3, h4, h5⟩ := h
  exact ⟨a, c, (hb p h3).trans h1, ownsRow_heap h2 (fun k hk => hb k (h4 k hk).1), h3, h4, fun k hk => Nat.lt_of_lt_of_le (h5 k hk) hs⟩
theorem St.chg (h : St T E w p F xs) (hc : Chg w w' S) (hd : ∀ k, F k → ¬ S k) : St T E w' p F xs := h.frame hc.size fun k hk => hc.block k (h.lt k hk) (hd k hk)
theorem St.drewN (h : St T E w p F xs) (n : Nat) : St T E (w.drewN n) p F xs := h.frame (Nat.le_refl _) (fun _ _ => rfl)
theorem St.wider {F' : Nat → Prop} (h : St T E w p F xs) (hF : ∀ k, F k → F' k) (hlt : ∀ k, F' k → k < w.heap.size) : St T E w p F' xs := by
  obtain ⟨a, c, h1, h2, h3, h4, h5⟩ := h
  exact ⟨a, c, h1, h2, hF _ h3, fun k hk => ⟨hF _ (h4 k hk).1, (h4 k hk).2⟩, hlt⟩
theorem St.cells (h : St T E w p F xs) : ∃ a c, w.cell? ⟨p, 0, none⟩ = some (.slice a xs.length c) ∧ w.ownsRow 0 E 1 (.slice a xs.length c) xs.length xs := by
  obtain ⟨a, c, h1, h2, _⟩ := h
  exact ⟨a, c, blk_cell h1 0, h2⟩
theorem St.free (h : St T E w p F xs) (o : Nat) : w.frozen? ⟨p, o, none⟩ = false := by
  obtain ⟨a, c, h1, h2⟩ := h
  exact blk_free h1 o
/-- Where there is an element the slice shows its head. -/
theorem St.at (h : St T E w p F xs) {j : Nat} {x : Value} (hj : xs[j]? = some x) : ∃ g c, w.cell? ⟨p, 0, none⟩ = some (.slice (some ⟨g, 0, none⟩) xs.length c) ∧ w.cell? ⟨g, j, none⟩ = some x ∧ w.frozen? ⟨g, j, none⟩ = false ∧ g ≠ p ∧ F g := by
  obtain ⟨a, c, h1, h2, h3, h4, h5⟩ := h
  have hlt := (List.getElem?_eq_some_iff.1 hj).1
  obtain ⟨g, cc, he⟩ := (ownsRow_shape h2).2 (by omega)
  injection he with he _ hk
  subst he hk
  refine ⟨g, c, blk_cell h1 0, ?_, h2.frozenAt j, (h4 g rfl).2, (h4 g rfl).1⟩
  rw [h2.cellAt j (by omega), hj]
/-- A store into it. -/
theorem St.set (h : St T E w p F xs) {g j c : Nat} (c0 : w.cell? ⟨p, 0, none⟩ = some (.slice (some ⟨g, 0, none⟩) xs.length c)) (hj : j < xs.length) (u : Value) :
    St T E (w.setCell ⟨g, j, none⟩ u) p F (xs.set j u) ∧ Chg w (w.setCell ⟨g, j, none⟩ u) F := by
  obtain ⟨a, c', h1, h2, h3, h4, h5⟩ := h
  have := (blk_cell h1 0).symm.trans c0
  simp at this
  obtain ⟨rfl, rfl⟩ := this
  have hb := h4 g rfl
  refine ⟨⟨some ⟨g, 0, none⟩, c', ?_, ?_, h3, ?_, fun k hk => by simpa [World.setCell] using h5 k hk⟩, (Chg.refl _ _).setCell (.inr hb.1) _⟩
  · rw [List.length_set]; exact blk_set_other h1 (fun e => hb.2 e.symm) _
  · rw [List.length_set]; exact (h2.stored j u).1
  · rw [List.length_set]; exact h4
/-- Its row was written as a whole. -/
theorem St.rowed {ys : List Value} {a : Option Addr} {n c : Nat} (h : St T E w p F xs) (c0 : w.cell? ⟨p, 0, none⟩ = some (.slice a n c)) (hy : ys.length = n) (hown : w'.ownsRow 0 E 1 (.slice a n c) n ys) (hg : w.grownBy w' (Value.slice a n c).ownBlock) :
    St T E w' p F ys ∧ Chg w w' F := by
  obtain ⟨a', c', h1, h2, h3, h4, h5⟩ := h
  have := (blk_cell h1 0).symm.trans c0
  simp at this
  obtain ⟨rfl, rfl, rfl⟩ := this
  rw [← hy] at h1 hown hg h4
  have hp : p < w.heap.size := h5 p h3
  refine ⟨⟨a', c', ?_, hown, h3, ?_, fun k hk => Nat.lt_of_lt_of_le (h5 k hk) hg.size⟩, (Chg.refl _ _).grown hg (fun k hk => .inr (h4 k hk).1)⟩
  · rw [hg.block p hp (fun e => (h4 p e.symm).2 rfl), h1]
  · intro k hk
    exact h4 k hk
theorem St.pushed {w1 w2 : World} {v : Value} {g cap : Nat} {x : Value} (h : St T E w p F xs) (c0 : w.cell? ⟨p, 0, none⟩ = some v) (h1 : Chg w w1 Nothing) (hg : w1.grownBy w2 v.ownBlock)
    (hown : w2.ownsRow 0 E 1 (.slice (some ⟨g, 0, none⟩) (xs.length + 1) cap) (xs.length + 1) (xs ++ [x])) (hgg : v.ownBlock = some g ∨ w1.heap.size ≤ g) :
    St T E (w2.setCell ⟨p, 0, none⟩ (.slice (some ⟨g, 0, none⟩) (xs.length + 1) cap)) p (Grow F w (w2.setCell ⟨p, 0, none⟩ (.slice (some ⟨g, 0, none⟩) (xs.length + 1) cap))) (xs ++ [x]) ∧
      Chg w (w2.setCell ⟨p, 0, none⟩ (.slice (some ⟨g, 0, none⟩) (xs.length + 1) cap)) F ∧ w2.cell? ⟨p, 0, none⟩ = some v ∧ w2.frozen? ⟨p, 0, none⟩ = false := by
  obtain ⟨a, c, k1, k2, k3, k4, k5⟩ := h
  obtain rfl : v = .slice a xs.length c := by have := (blk_cell k1 0).symm.trans c0; simpa using this.symm
  have hp : p < w.heap.size := k5 p k3
  have hs2 : (w2.setCell ⟨p, 0, none⟩ (.slice (some ⟨g, 0, none⟩) (xs.length + 1) cap)).heap.size = w2.heap.size := by simp [World.setCell]
  have hsz : w.heap.size ≤ w2.heap.size := Nat.le_trans h1.size hg.size
  have hpb : w2.heap[p]? = some (.cells #[.slice a xs.length c] T (0, 0)) := by
    rw [hg.block p (Nat.lt_of_lt_of_le hp h1.size) (by intro e; exact (k4 p e.symm).2 rfl), h1.block p hp (fun h => h), k1]
  have hgp : g ≠ p := by rcases hgg with hgg | hgg; exact (k4 g hgg).2; have := h1.size; omega
  have hg2 := (hown.lt g rfl).2
  have hl : (xs ++ [x]).length = xs.length + 1 := by simp
  refine ⟨⟨some ⟨g, 0, none⟩, cap, ?_, ?_, .inl k3, ?_, ?_⟩, ?_, by rw [blk_cell hpb]; rfl, blk_free hpb 0⟩
  · rw [hl]; simpa using blk_set hpb 0 (.slice (some ⟨g, 0, none⟩) (xs.length + 1) cap)
  · rw [hl]
    exact ownsRow_heap hown (fun k hk => by simp [Value.ownBlock] at hk; subst hk; exact Below.heap_setCell _ _ _ _ hgp)
  · intro k hk
    simp [Value.ownBlock] at hk
    subst hk
    refine ⟨?_, hgp⟩
    rcases hgg with hgg | hgg
    · exact .inl (k4 g hgg).1
    · exact .inr ⟨Nat.le_trans h1.size hgg, by rw [hs2]; exact hg2⟩
  · intro k hk
    rw [hs2]
    rcases hk with hk | hk
    · exact Nat.lt_of_lt_of_le (k5 k hk) hsz
    · rw [hs2] at hk; exact hk.2
  · refine Chg.setCell (Chg.grown (h1.mono (fun k _ hk => hk.elim)) hg ?_) (.inr k3) _
    intro k hk
    exact .inr (k4 k hk).1
/-- A new one. -/
theorem St.made {a : Option Addr} {c : Nat} (hown : w'.ownsRow w.heap.size E 1 (.slice a xs.length c) xs.length xs) (hchg : Chg w w' Nothing) :
    w.heap.size ≤ w'.heap.size ∧ St T E (w'.alloc (.cells #[.slice a xs.length c] T)) w'.heap.size (Grow Nothing w (w'.alloc (.cells #[.slice a xs.length c] T))) xs ∧ Chg w (w'.alloc (.cells #[.slice a xs.length c] T)) Nothing := by
  have hsz := hchg.size
  refine ⟨hsz, ⟨a, c, heap_alloc_new w' _, ownsRow_base (hown.alloc _) (Nat.zero_le _), .inr ⟨hsz, by simp⟩, ?_, ?_⟩, hchg.alloc _⟩
  · intro k hk
    have := hown.lt k hk
    exact ⟨.inr ⟨this.1, by simp; omega⟩, by omega⟩
  · intro k hk
    rcases hk with hk | hk
    · exact hk.elim
    · exact hk.2
end

/-- The first n are fixed. -/
def mix (n : Nat) (fs : List Nat) : List Nat := (fs.take n).map fixB ++ fs.drop n
theorem mix_len (n : Nat) (fs : List Nat) : (mix n fs).length = fs.length := by simp [mix]; omega
theorem mix_zero (fs : List Nat) : mix 0 fs = fs := by simp [mix]
theorem mix_all (fs : List Nat) : mix fs.length fs = fs.map fixB := by simp [mix]
theorem mix_at {n : Nat} {fs : List Nat} (h : n < fs.length) : (mix n fs)[n]? = some fs[n] := by
  unfold mix
  rw [List.getElem?_append_right (by simp; omega)]
  simp [List.length_take, Nat.min_eq_left (Nat.le_of_lt h), h]
theorem mix_set {n : Nat} {fs : List Nat} (h : n < fs.length) : (mix n fs).set n (fixB fs[n]) = mix (n + 1) fs := by
  unfold mix
  have hl : ((fs.take n).map fixB).length = n := by simp; omega
  rw [List.set_append_right _ _ (by rw [hl]; exact Nat.le_refl _), hl, Nat.sub_self, List.drop_eq_getElem_cons h, List.set_cons_zero, List.take_succ_eq_append_getElem h, List.map_append]
  simp

/-- Is there such a cell? -/
def hasB (c : Int) (n : Nat) : Bool := decide (0 ≤ c ∧ c < n)

/-- The same numbers, one by one. -/
def sameL (fs gs : List Nat) : Bool := fs.map fixB == gs.map fixB
theorem sameL_comm (fs gs : List Nat) : sameL fs gs = sameL gs fs := by unfold sameL; rw [Bool.eq_iff_iff, beq_iff_eq, beq_iff_eq]; exact eq_comm
theorem sameL_len {fs gs : List Nat} (h : fs.length ≠ gs.length) : sameL fs gs = false := by
  unfold sameL
  rw [beq_eq_false_iff_ne]
  intro e
  exact h (by simpa using congrArg List.length e)
/-- The first n are the same. -/
def AgreeTo (fs gs : List Nat) (n : Nat) : Prop := ∀ i, i < n → fs[i]?.map fixB = gs[i]?.map fixB
theorem AgreeTo.succ {fs gs : List Nat} {n : Nat} (h : AgreeTo fs gs n) (h1 : n < fs.length) (h2 : n < gs.length) (he : fixB fs[n] = fixB gs[n]) : AgreeTo fs gs (n + 1) := by
  intro i hi
  by_cases e : i = n
  · subst e; rw [List.getElem?_eq_getElem h1, List.getElem?_eq_getElem h2]; simp [he]
  · exact h i (by omega)
theorem AgreeTo.all {fs gs : List Nat} (h : AgreeTo fs gs fs.length) (hl : fs.length = gs.length) : sameL fs gs = true := by
  unfold sameL
  rw [beq_iff_eq]
  refine List.ext_getElem? fun i => ?_
  rw [List.getElem?_map, List.getElem?_map]
  by_cases e : i < fs.length
  · exact h i e
  · rw [List.getElem?_eq_none (by omega), List.getElem?_eq_none (by omega)]
theorem sameL_ne {fs gs : List Nat} {n : Nat} (h1 : n < fs.length) (h2 : n < gs.length) (he : fixB fs[n] ≠ fixB gs[n]) : sameL fs gs = false := by
  unfold sameL
  rw [beq_eq_false_iff_ne]
  intro e
  have := congrArg (fun l => l[n]?) e
  simp [h1, h2] at this
  exact he this

/-- Cells and numbers in memory. -/
def Tch (w : World) (a : Option Addr) (ts : List (Int × Nat)) : Prop := ∀ i x, ts[i]? = some x → ∃ b o, a = some ⟨b, o, none⟩ ∧ w.cell? ⟨b, o + i * 2, none⟩ = some (.int .i64 x.1) ∧ w.cell? ⟨b, o + i * 2 + 1, none⟩ = some (fl x.2)
theorem Tch.chg {w w' : World} {a : Option Addr} {ts : List (Int × Nat)} {S : Nat → Prop} (h : Tch w a ts) (hc : Chg w w' S) (hS : ∀ b o, a = some ⟨b, o, none⟩ → ¬ S b) : Tch w' a ts := by
  intro i x hx
  obtain ⟨b, o, ha, h1, h2⟩ := h i x hx
  exact ⟨b, o, ha, hc.cell h1 (hS b o ha), hc.cell h2 (hS b o ha)⟩

/-- What Apply makes of the numbers. -/
def setL (fs : List Nat) (c : Int) (x : Nat) : List Nat := if hasB c fs.length then fs.set c.toNat (fixB x) else fs
def setE (fs : List Nat) (c : Int) : Int := if hasB c fs.length then 0 else 60
def getV (fs : List Nat) (c : Int) : Nat := if hasB c fs.length then fs.getD c.toNat 0 else 0
def okL (n : Nat) (ts : List (Int × Nat)) : Bool := ts.all fun t => hasB t.1 n
def putL (fs : List Nat) (ts : List (Int × Nat)) : List Nat := ts.foldl (fun fs t => setL fs t.1 t.2) fs
def applyL (fs : List Nat) (ts : List (Int × Nat)) : List Nat := if okL fs.length ts then putL fs ts else fs
def applyE (fs : List Nat) (ts : List (Int × Nat)) : Int := if okL fs.length ts then 0 else 60
theorem setL_len (fs : List Nat) (c : Int) (x : Nat) : (setL fs c x).length = fs.length := by unfold setL; split <;> simp
theorem putL_len (ts : List (Int × Nat)) : ∀ (fs : List Nat), (putL fs ts).length = fs.length := by
  induction ts with
  | nil => intro fs; rfl
  | cons t ts ih => intro fs; exact (ih _).trans (setL_len fs t.1 t.2)
theorem applyL_len (fs : List Nat) (ts : List (Int × Nat)) : (applyL fs ts).length = fs.length := by unfold applyL; split; exact putL_len _ _; rfl
theorem putL_snoc (fs : List Nat) (ts : List (Int × Nat)) (t : Int × Nat) : putL fs (ts ++ [t]) = setL (putL fs ts) t.1 t.2 := by simp [putL]
theorem hasB_iff {c : Int} {n : Nat} : hasB c n = true ↔ 0 ≤ c ∧ c < n := by simp [hasB]

theorem snew_bad (n : Int) (w : World) (h : n < 1 ∨ 256 < n) : Calls Tryz.prog 26 #[.int .i64 n] w fun e w' => e = .returned (.tuple #[.pointer none, .int .i64 1]) ∧ w = w' := by
  by_cases h1 : n < 1
  · have b1 : decide (n < 1) = true := by simpa using h1
    clear h
    go_enter Tryz.func26, Tryz.ntmps26
    go_wp2
    go_ret2
    exact ⟨rfl, rfl⟩
  · have b1 : decide (n < 1) = false := by simpa using h1
    have b2 : decide (256 < n) = true := by simp; omega
    clear h h1
    go_enter Tryz.func26, Tryz.ntmps26
    go_wp2
    go_ret2
    exact ⟨rfl, rfl⟩

theorem snew_good (n : Nat) (w : World) (h1 : 1 ≤ n) (h2 : n ≤ 256) : Calls Tryz.prog 26 #[.int .i64 n] w fun e w' => ∃ p, e = .returned (.tuple #[.pointer (some ⟨p, 0, none⟩), .int .i64 0]) ∧ w.heap.size ≤ p ∧
    St 93 61 w' p (Grow Nothing w w') (List.replicate n (fl 0)) ∧ Chg w w' Nothing := by
  have b1 : decide ((n : Int) < 1) = false := by simp; omega
  have b2 : decide ((256 : Int) < n) = false := by simp; omega
  go_enter Tryz.func26, Tryz.ntmps26
  go_wp2_with (at_make; refine make_row rfl _ _ 55 61 rfl (fl 0) 8 Tryz.underlying55 (by kernel_rfl) rfl .i64 .i64 _ _ n rfl rfl rfl rfl (by omega) (by unfold maxLen; omega) ?c1)
  case c1 =>
    intro w1 hown hg
    have R := Lib.hid (St.made (T := 93) (w := w) (w' := w1) (xs := List.replicate n (fl 0)) (by rw [List.length_replicate]; exact hown) ((Chg.refl w Nothing).grown hg (by simp)))
    clear hown hg
    simp only [List.length_replicate] at R
    go_wp2
    go_ret2
    exact ⟨_, rfl, R.out⟩
end Go.Proofs.YtgeapkalabijmaaGreat

/- The contracts of a state's methods. -/
namespace Go.Proofs.YtgeapkalabijmaaGreat.T6
open Go Go.RowKit
set_option maxRecDepth 100000
set_option maxHeartbeats 1000000
set_option linter.unusedVariables false
set_option linter.unusedSimpArgs false

theorem has_any (p : Nat) (F : Nat → Prop) (xs : List Value) (cell : Int) (w : World) (h : St 93 61 w p F xs) (hl : xs.length ≤ 256) :
    Calls Tryz.prog 121 #[.pointer (some ⟨p, 0, none⟩), .int .i64 cell] w fun e w' => e = .returned (.bool (hasB cell xs.length)) ∧ w = w' := by
  obtain ⟨a, c, c0, _⟩ := h.cells
  clear h
  have HB := Lib.hid (show hasB cell xs.length = decide (0 ≤ cell ∧ cell < xs.length) from rfl)
  by_cases h1 : 0 ≤ cell
  · have b1 : decide (0 ≤ cell) = true := by simpa using h1
    by_cases h2 : cell < xs.length
    · have b2 : decide (cell < xs.length) = true := by simpa using h2
      have B := Lib.hid (show hasB cell xs.length = true by rw [HB.out]; simp; omega)
      clear HB h1 h2
      go_enter Tryz.func121, Tryz.ntmps121
      go_wp2
      go_ret
      rw [B.out]
      exact ⟨rfl, rfl⟩
    · have b2 : decide (cell < xs.length) = false := by simpa using h2
      have B := Lib.hid (show hasB cell xs.length = false by rw [HB.out]; simp; omega)
      clear HB h1 h2
      go_enter Tryz.func121, Tryz.ntmps121
      go_wp2
      go_ret
      rw [B.out]
      exact ⟨rfl, rfl⟩
  · have b1 : decide (0 ≤ cell) = false := by simpa using h1
    have B := Lib.hid (show hasB cell xs.length = false by rw [HB.out]; simp; omega)
    clear HB h1
    go_enter Tryz.func121, Tryz.ntmps121
    go_wp2
    go_ret
    rw [B.out]
    exact ⟨rfl, rfl⟩

theorem get_bad (p : Nat) (F : Nat → Prop) (xs : List Value) (cell : Int) (w : World) (h : St 93 61 w p F xs) (hl : xs.length ≤ 256) (hb : hasB cell xs.length = false) :
    Calls Tryz.prog 62 #[.pointer (some ⟨p, 0, none⟩), .int .i64 cell] w fun e w' => e = .returned (.tuple #[fl 0, .int .i64 60]) ∧ w = w' := by
  have H := Lib.hid h
  clear h
  go_enter Tryz.func62, Tryz.ntmps62
  go_wp2_with fail
  refine (has_any _ _ _ _ _ H.out hl).mono ?_
  rintro e w' ⟨rfl, rfl⟩
  go_wp2_with fail
  go_ret2
  exact ⟨rfl, rfl⟩

theorem get_good (p : Nat) (F : Nat → Prop) (xs : List Value) (j : Nat) (x : Value) (w : World) (h : St 93 61 w p F xs) (hl : xs.length ≤ 256) (hx : xs[j]? = some x) :
    Calls Tryz.prog 62 #[.pointer (some ⟨p, 0, none⟩), .int .i64 j] w fun e w' => e = .returned (.tuple #[x, .int .i64 0]) ∧ w = w' := by
  have hlt := (List.getElem?_eq_some_iff.1 hx).1
  obtain ⟨g, c, c0, cx, fx, _, _⟩ := h.at hx
  have hb : hasB j xs.length = true := by unfold hasB; simp; omega
  have H := Lib.hid h
  clear h hx
  go_enter Tryz.func62, Tryz.ntmps62
  go_wp2_with fail
  refine (has_any _ _ _ _ _ H.out hl).mono ?_
  rintro e w' ⟨rfl, rfl⟩
  go_wp2_with fail
  go_ret2
  exact ⟨rfl, rfl⟩

theorem set_bad (p : Nat) (F : Nat → Prop) (xs : List Value) (cell : Int) (x : Nat) (w : World) (h : St 93 61 w p F xs) (hl : xs.length ≤ 256) (hb : hasB cell xs.length = false) :
    Calls Tryz.prog 124 #[.pointer (some ⟨p, 0, none⟩), .int .i64 cell, fl x] w fun e w' => e = .returned (.int .i64 60) ∧ w = w' := by
  have H := Lib.hid h
  clear h
  go_enter Tryz.func124, Tryz.ntmps124
  go_wp2_with fail
  refine (has_any _ _ _ _ _ H.out hl).mono ?_
  rintro e w' ⟨rfl, rfl⟩
  go_wp2_with fail
  go_ret
  exact ⟨rfl, rfl⟩

theorem set_good (p : Nat) (F : Nat → Prop) (xs : List Value) (j : Nat) (x : Nat) (w : World) (h : St 93 61 w p F xs) (hl : xs.length ≤ 256) (hj : j < xs.length) :
    Calls Tryz.prog 124 #[.pointer (some ⟨p, 0, none⟩), .int .i64 j, fl x] w fun e w' => e = .returned (.int .i64 0) ∧ St 93 61 w' p F (xs.set j (fl (fixB x))) ∧ Chg w w' F := by
  obtain ⟨u, hu⟩ : ∃ u, xs[j]? = some u := ⟨_, List.getElem?_eq_getElem hj⟩
  obtain ⟨g, c, c0, cx, fx, _, _⟩ := h.at hu
  have hb : hasB j xs.length = true := by unfold hasB; simp; omega
  have H := Lib.hid h
  have C0 := Lib.hid c0
  have R := fun (m : Nat) => Lib.hid (St.set (h.drewN m) (show (w.drewN m).cell? ⟨p, 0, none⟩ = _ from C0.out) hj (fl (fixB x)))
  have RR := Lib.hid R
  clear h R
  go_enter Tryz.func124, Tryz.ntmps124
  go_wp2_with fail
  refine (has_any _ _ _ _ _ H.out hl).mono ?_
  rintro e w' ⟨rfl, rfl⟩
  go_wp2_with fail
  go_region_with (go_at_call 115; refine (fix_any _ _).mono ?_; rintro e w' ⟨rfl, rfl⟩)
  all_goals
    go_wp2
    go_ret
    exact ⟨rfl, (RR.out 1).out.1, ((Chg.refl w F).drewN 1).trans (RR.out 1).out.2 (fun _ _ h => h)⟩

theorem get_any (p : Nat) (F : Nat → Prop) (fs : List Nat) (cell : Int) (w : World) (h : St 93 61 w p F (fs.map fl)) (hl : fs.length ≤ 256) :
    Calls Tryz.prog 62 #[.pointer (some ⟨p, 0, none⟩), .int .i64 cell] w fun e w' => e = .returned (.tuple #[fl (getV fs cell), .int .i64 (setE fs cell)]) ∧ w = w' := by
  by_cases hb : hasB cell fs.length = true
  · obtain ⟨h0, h1⟩ := hasB_iff.1 hb
    obtain ⟨j, rfl⟩ : ∃ j : Nat, cell = j := ⟨cell.toNat, by omega⟩
    have hj : j < fs.length := by omega
    refine (get_good p F _ j (fl fs[j]) w h (by simpa using hl) (by simp [hj])).mono fun e w' ⟨he, hw⟩ => ⟨?_, hw⟩
    rw [he, getV, setE, if_pos hb, if_pos hb]
    simp [hj]
  · have hb' : hasB cell fs.length = false := by simpa using hb
    refine (get_bad p F _ cell w h (by simpa using hl) (by simpa using hb')).mono fun e w' ⟨he, hw⟩ => ⟨?_, hw⟩
    rw [he, getV, setE, if_neg hb, if_neg hb]

theorem set_any (p : Nat) (F : Nat → Prop) (fs : List Nat) (cell : Int) (x : Nat) (w : World) (h : St 93 61 w p F (fs.map fl)) (hl : fs.length ≤ 256) :
    Calls Tryz.prog 124 #[.pointer (some ⟨p, 0, none⟩), .int .i64 cell, fl x] w fun e w' => e = .returned (.int .i64 (setE fs cell)) ∧ St 93 61 w' p F ((setL fs cell x).map fl) ∧ Chg w w' F := by
  by_cases hb : hasB cell fs.length = true
  · obtain ⟨h0, h1⟩ := hasB_iff.1 hb
    obtain ⟨j, rfl⟩ : ∃ j : Nat, cell = j := ⟨cell.toNat, by omega⟩
    refine (set_good p F _ j x w h (by simpa using hl) (by simp; omega)).mono fun e w' ⟨he, hs, hc⟩ => ⟨?_, ?_, hc⟩
    · rw [he, setE, if_pos hb]
    · rw [setL, if_pos hb, List.map_set]; exact hs
  · have hb' : hasB cell fs.length = false := by simpa using hb
    refine (set_bad p F _ cell x w h (by simpa using hl) (by simpa using hb')).mono fun e w' ⟨he, hw⟩ => ?_
    subst hw
    refine ⟨by rw [he, setE, if_neg hb], by rw [setL, if_neg hb]; exact h, Chg.refl _ _⟩

theorem len_any (p : Nat) (F : Nat → Prop) (xs : List Value) (w : World) (h : St 93 61 w p F xs) :
    Calls Tryz.prog 111 #[.pointer (some ⟨p, 0, none⟩)] w fun e w' => e = .returned (.int .i64 xs.length) ∧ w = w' := by
  obtain ⟨a, c, c0, _⟩ := h.cells
  clear h
  go_enter Tryz.func111, Tryz.ntmps111
  go_wp2
  go_ret
  exact ⟨rfl, rfl⟩

theorem apply_any (p : Nat) (F : Nat → Prop) (fs : List Nat) (a : Option Addr) (c : Nat) (ts : List (Int × Nat)) (w : World) (h : St 93 61 w p F (fs.map fl)) (hl : fs.length ≤ 256) (ht : Tch w a ts) (hF : ∀ b o, a = some ⟨b, o, none⟩ → ¬ F b) (htl : ts.length ≤ 140737488355328) :
    Calls Tryz.prog 68 #[.pointer (some ⟨p, 0, none⟩), .slice a ts.length c] w fun e w' => e = .returned (.int .i64 (applyE fs ts)) ∧ St 93 61 w' p F ((applyL fs ts).map fl) ∧ Chg w w' F := by
  have H := Lib.hid h
  have HT := Lib.hid ht
  have HF := Lib.hid hF
  have HL := Lib.hid hl
  clear h ht hF hl
  go_enter Tryz.func68, Tryz.ntmps68
  go_wp2_with fail
  go_loopg [11] ts.length (fun k i wr => ∃ n : Nat, n + k = ts.length ∧ i = .int .i64 (n : Nat) ∧ (∀ j t, j < n → ts[j]? = some t → hasB t.1 fs.length = true) ∧ Chg w wr Nothing)
  case atStart => exact ⟨0, by simp, rfl, fun j _ hj => absurd hj (Nat.not_lt_zero j), Chg.refl _ _⟩
  case round =>
    obtain ⟨n, hn, rfl, hok, hc⟩ := hrel
    have HO := Lib.hid hok
    have HC := Lib.hid hc
    clear hok hc
    by_cases hlt : n < ts.length
    · have hd : decide (n < ts.length) = true := by simpa using hlt
      obtain ⟨ci, x, hx⟩ : ∃ ci x, ts[n] = (ci, x) := ⟨_, _, rfl⟩
      obtain ⟨b, o, rfl, k1, k2⟩ := HT.out n _ (List.getElem?_eq_getElem hlt)
      rw [hx] at k1 k2
      have k1 := HC.out.cell k1 id
      have k2 := HC.out.cell k2 id
      have HX := Lib.hid (show ts[n]? = some (ci, x) by rw [List.getElem?_eq_getElem hlt, hx])
      clear hx
      by_cases hb : hasB ci fs.length = true
      · have NO := Lib.hid (show ∀ j t, j < n + 1 → ts[j]? = some t → hasB t.1 fs.length = true from fun j t hj hjt => by
          by_cases e : j = n
          · subst e; rw [HX.out] at hjt; cases hjt; exact hb
          · exact HO.out j t (by omega) hjt)
        go_wp2_with fail
        refine (has_any p F _ ci _ ((H.out.chg HC.out (fun _ _ h => h)).chg (S := Nothing) ((Chg.refl _ _).alloc _) (fun _ _ h => h)) (by simpa using HL.out)).mono ?_
        rintro e w' ⟨rfl, rfl⟩
        rw [List.length_map]
        have NC := Lib.hid HC.out.alloc
        go_wp2_with fail
        go_roundg (gk - 1)
        case measure => omega
        case rel => exact ⟨n + 1, by omega, by go_num, NO.out, NC.out _⟩
      · have hb' : hasB ci fs.length = false := by simpa using hb
        have NE := Lib.hid (show okL fs.length ts = false by
          unfold okL
          rw [List.all_eq_false]
          exact ⟨(ci, x), List.mem_of_getElem? HX.out, by simpa using hb'⟩)
        clear hb
        go_wp2_with fail
        refine (has_any p F _ ci _ ((H.out.chg HC.out (fun _ _ h => h)).chg (S := Nothing) ((Chg.refl _ _).alloc _) (fun _ _ h => h)) (by simpa using HL.out)).mono ?_
        rintro e w' ⟨rfl, rfl⟩
        rw [List.length_map]
        have NC := Lib.hid HC.out.alloc
        go_wp2_with fail
        go_ret
        refine ⟨?_, ?_, (NC.out _).mono (fun _ _ h => h.elim)⟩
        · rw [applyE, NE.out]; rfl
        · rw [applyL, NE.out]; exact H.out.chg (NC.out _) (fun _ _ h => h)
    · have hd : decide (n < ts.length) = false := by simpa using hlt
      obtain rfl : n = ts.length := by omega
      have OK := Lib.hid (show okL fs.length ts = true by
        unfold okL
        rw [List.all_eq_true]
        intro t ht
        obtain ⟨j, hj, hjt⟩ := List.mem_iff_getElem.1 ht
        exact HO.out j t hj (by rw [List.getElem?_eq_getElem hj, hjt]))
      have K := Lib.hid (show St 93 61 wr p F ((putL fs (ts.take 0)).map fl) ∧ Chg w wr F from ⟨H.out.chg HC.out (fun _ _ h => h), HC.out.mono (fun _ _ h => h.elim)⟩)
      clear HO HC
      go_wp2_with fail
      go_loopg [23] ts.length (fun k i wq => ∃ n : Nat, n + k = ts.length ∧ i = .int .i64 (n : Nat) ∧ St 93 61 wq p F ((putL fs (ts.take n)).map fl) ∧ Chg w wq F)
      case atStart => exact ⟨0, by simp, rfl, K.out⟩
      case round =>
        clear K
        obtain ⟨n, hn, rfl, st, hc⟩ := hrel
        have ST := Lib.hid st
        have HC := Lib.hid hc
        clear st hc
        by_cases hlt : n < ts.length
        · have hd : decide (n < ts.length) = true := by simpa using hlt
          obtain ⟨ci, x, hx⟩ : ∃ ci x, ts[n] = (ci, x) := ⟨_, _, rfl⟩
          obtain ⟨b, o, rfl, k1, k2⟩ := HT.out n _ (List.getElem?_eq_getElem hlt)
          rw [hx] at k1 k2
          have k1 := HC.out.cell k1 (HF.out b o rfl)
          have k2 := HC.out.cell k2 (HF.out b o rfl)
          have TK := Lib.hid (show setL (putL fs (ts.take n)) ci x = putL fs (ts.take (n + 1)) by rw [List.take_succ_eq_append_getElem hlt, putL_snoc, hx])
          clear hx
          go_wp2_with fail
          refine (set_any p F _ ci x _ (ST.out.chg (S := Nothing) ((Chg.refl _ _).alloc _) (fun _ _ h => h)) (by rw [putL_len]; exact HL.out)).mono ?_
          rintro e w' ⟨rfl, hs, hc⟩
          have NS := Lib.hid (show St 93 61 w' p F ((putL fs (ts.take (n + 1))).map fl) from by rwa [TK.out] at hs)
          have NC := Lib.hid ((HC.out.alloc _).trans hc (fun _ _ h => h))
          clear hs hc k1 k2
          go_wp2_with fail
          go_roundg (gk - 1)
          case measure => omega
          case rel => exact ⟨n + 1, by omega, by go_num, NS.out, NC.out⟩
        · have hd : decide (n < ts.length) = false := by simpa using hlt
          obtain rfl : n = ts.length := by omega
          go_wp2_with fail
          go_ret
          refine ⟨?_, ?_, HC.out⟩
          · rw [applyE, OK.out]; rfl
          · have := ST.out
            rw [List.take_length] at this
            rw [applyL, OK.out]; exact this

end Go.Proofs.YtgeapkalabijmaaGreat.T6
