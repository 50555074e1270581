/- What a transaction has written: the code's buffer behind a pointer, and the contracts of its methods. -/
import Derived.Test.YtpigcmedkljonacNum
import Derived.Test.YtpigcmedkljonacMap
import Derived.Deep.AppendLies
namespace Go.Proofs.Ytpigcmedkljonac
open Go Go.RowKit
set_option linter.unusedVariables false
set_option linter.unusedSimpArgs false

abbrev fl : Nat → Value := Value.float .f64
def fls (l : List (Int × Nat)) : List (Int × Value) := l.map fun t => (t.1, fl t.2)
def cells1 (l : List (Int × Nat)) : List Value := l.map fun t => .int .i64 t.1
theorem fls_at {l : List (Int × Nat)} {i : Nat} {t : Int × Nat} (h : l[i]? = some t) : (fls l)[i]? = some (t.1, fl t.2) := by simp [fls, h]
theorem Kn.fls {l : List (Int × Nat)} {k : Int} {i : Nat} (h : Kn l k i) : Kn (fls l) k i := Kn.of_pos (by rw [Go.Proofs.Ytpigcmedkljonac.fls, pos_map]; exact h.pos)
theorem Un.fls {l : List (Int × Nat)} {k : Int} (h : Un l k) : Un (fls l) k := Un.of_pos (by rw [Go.Proofs.Ytpigcmedkljonac.fls, pos_map]; exact h.pos)
theorem ownsRow_heap {w w' : World} {base : Nat} {e : TypeId} {size : Nat} {v : Value} {n : Nat} {xs : List Value} (h : w.ownsRow base e size v n xs) (hb : ∀ k, v.ownBlock = some k → w'.heap[k]? = w.heap[k]?) : w'.ownsRow base e size v n xs := by
  refine ⟨h.1, ?_⟩
  rcases h.2 with h | ⟨g, cap, cur, rfl, hg, hh, hr⟩
  · exact .inl h
  · exact .inr ⟨g, cap, cur, rfl, hg, (hb g rfl).trans hh, hr⟩

/-- A buffer at block p, whose blocks lie in F. -/
def Bf (w : World) (p : Nat) (F : Nat → Prop) (l : List (Int × Nat)) (most : Int) : Prop :=
  ∃ b a c, w.heap[p]? = some (.cells #[.map (some b), .slice a l.length c, .int .i64 most] 54 (0, 0)) ∧ MapI w b (fls l) ∧ w.ownsRow 0 3 1 (.slice a l.length c) l.length (cells1 l) ∧
    F p ∧ F b ∧ p ≠ b ∧ (∀ k, (Value.slice a l.length c).ownBlock = some k → F k ∧ k ≠ p ∧ k ≠ b) ∧ (∀ k, F k → k < w.heap.size) ∧ (l.map (·.1)).Nodup ∧ (l.length : Int) ≤ most ∧ most ≤ 32

section
variable {w w' w1 : World} {p : Nat} {F S : Nat → Prop} {l : List (Int × Nat)} {most c : Int} {i x : Nat}

theorem Bf.frame (h : Bf w p F l most) (hs : w.heap.size ≤ w'.heap.size) (hb : ∀ k, F k → w'.heap[k]? = w.heap[k]?) : Bf w' p F l most := by
  obtain ⟨b, a, c, h1, h2, h3, h4, h5, h6, h7, h8, h9⟩ := h
  exact ⟨b, a, c, (hb p h4).trans h1, h2.frame (hb b h5), ownsRow_heap h3 (fun k hk => hb k (h7 k hk).1), h4, h5, h6, h7, fun k hk => Nat.lt_of_lt_of_le (h8 k hk) hs, h9⟩
theorem Bf.lt (h : Bf w p F l most) : ∀ k, F k → k < w.heap.size := by obtain ⟨b, a, c, h1, h2, h3, h4, h5, h6, h7, h8, h9⟩ := h; exact h8
theorem Bf.has (h : Bf w p F l most) : F p := by obtain ⟨b, a, c, h1, h2, h3, h4, h5, h6, h7, h8, h9⟩ := h; exact h4
theorem Bf.fits (h : Bf w p F l most) : (l.map (·.1)).Nodup ∧ (l.length : Int) ≤ most ∧ most ≤ 32 := by obtain ⟨b, a, c, h1, h2, h3, h4, h5, h6, h7, h8, h9⟩ := h; exact h9
theorem Bf.chg (h : Bf w p F l most) (hc : Chg w w' S) (hd : ∀ k, F k → ¬ S k) : Bf w' p F l most := h.frame hc.size fun k hk => hc.block k (h.lt k hk) (hd k hk)
theorem Bf.drewN (h : Bf w p F l most) (n : Nat) : Bf (w.drewN n) p F l most := h.frame (Nat.le_refl _) (fun _ _ => rfl)
theorem Bf.wider {F' : Nat → Prop} (h : Bf w p F l most) (hF : ∀ k, F k → F' k) (hlt : ∀ k, F' k → k < w.heap.size) : Bf w p F' l most := by
  obtain ⟨b, a, c, h1, h2, h3, h4, h5, h6, h7, h8, h9⟩ := h
  exact ⟨b, a, c, h1, h2, h3, hF _ h4, hF _ h5, h6, fun k hk => ⟨hF _ (h7 k hk).1, (h7 k hk).2⟩, hlt, h9⟩
theorem Bf.cells (h : Bf w p F l most) : ∃ b a c, w.cell? ⟨p, 0, none⟩ = some (.map (some b)) ∧ w.cell? ⟨p, 1, none⟩ = some (.slice a l.length c) ∧ w.cell? ⟨p, 2, none⟩ = some (.int .i64 most) ∧ MapI w b (fls l) ∧ w.ownsRow 0 3 1 (.slice a l.length c) l.length (cells1 l) := by
  obtain ⟨b, a, c, h1, h2, h3, _⟩ := h
  exact ⟨b, a, c, blk_cell h1 0, blk_cell h1 1, blk_cell h1 2, h2, h3⟩
theorem Bf.free (h : Bf w p F l most) (o : Nat) : w.frozen? ⟨p, o, none⟩ = false := by
  obtain ⟨b, a, c, h1, _⟩ := h
  exact blk_free h1 o
/-- Its map alone was written, at a key that stood. -/
theorem Bf.stored {b : Nat} (h : Bf w p F l most) (c0 : w.cell? ⟨p, 0, none⟩ = some (.map (some b))) (hn : Kn l c i) (hm : MapI w' b ((fls l).set i (c, fl x))) (hc : Chg w w' (fun j => j = b)) : Bf w' p F (l.set i (c, x)) most ∧ Chg w w' F := by
  obtain ⟨b', a, cc, h1, h2, h3, h4, h5, h6, h7, h8, h9, h10⟩ := h
  obtain rfl : b' = b := by have := (blk_cell h1 0).symm.trans c0; simpa using this
  obtain ⟨⟨y, hy⟩, _⟩ := id hn
  have e1 : (l.set i (c, x)).map (·.1) = l.map (·.1) := by
    rw [List.map_set]
    refine List.ext_getElem? fun j => ?_
    by_cases hj : i = j
    · subst hj
      have := (List.getElem?_eq_some_iff.1 hy).1
      have h2 := (List.getElem?_eq_some_iff.1 hy).2
      simp [this, h2]
    · rw [List.getElem?_set_ne hj]
  have e2 : cells1 (l.set i (c, x)) = cells1 l := by
    have : ∀ m : List (Int × Nat), cells1 m = (m.map (·.1)).map (Value.int .i64) := fun m => by simp [cells1]
    rw [this, this, e1]
  have e3 : fls (l.set i (c, x)) = (fls l).set i (c, fl x) := by simp [fls, List.map_set]
  have hp : p < w.heap.size := h8 p h4
  refine ⟨⟨b', a, cc, ?_, by rw [e3]; exact hm, ?_, h4, h5, h6, ?_, fun k hk => Nat.lt_of_lt_of_le (h8 k hk) hc.size, by rw [e1]; exact h9, by rw [List.length_set]; exact h10⟩, hc.mono fun k _ hk => by rw [hk]; exact h5⟩
  · rw [List.length_set, hc.block p hp h6, h1]
  · rw [List.length_set, e2]
    exact ownsRow_heap h3 (fun k hk => hc.block k (h8 k (h7 k hk).1) (h7 k hk).2.2)
  · rw [List.length_set]; exact h7
/-- The row of its keys has grown, its map gets a new key. -/
theorem Bf.before {w2 : World} {v : Value} {b : Nat} (h : Bf w p F l most) (c0 : w.cell? ⟨p, 0, none⟩ = some (.map (some b))) (c1 : w.cell? ⟨p, 1, none⟩ = some v) (h1 : Chg w w1 Nothing) (hg : w1.grownBy w2 v.ownBlock) (u : Value) :
    w2.cell? ⟨p, 0, none⟩ = some (.map (some b)) ∧ w2.cell? ⟨p, 1, none⟩ = some v ∧ w2.frozen? ⟨p, 1, none⟩ = false ∧ MapI ((w2.setCell ⟨p, 1, none⟩ u).drew) b (fls l) ∧ (w2.setCell ⟨p, 1, none⟩ u).cell? ⟨p, 0, none⟩ = some (.map (some b)) := by
  obtain ⟨b', a, cc, k1, k2, k3, k4, k5, k6, k7, k8, k9, k10⟩ := h
  obtain rfl : b' = b := by have := (blk_cell k1 0).symm.trans c0; simpa using this
  obtain rfl : Value.slice a l.length cc = v := by have := (blk_cell k1 1).symm.trans c1; simpa using this
  have hp : p < w.heap.size := k8 p k4
  have hpb : w2.heap[p]? = some (.cells #[.map (some b'), .slice a l.length cc, .int .i64 most] 54 (0, 0)) := by
    rw [hg.block p (Nat.lt_of_lt_of_le hp h1.size) (fun e => (k7 p e.symm).2.1 rfl), h1.block p hp id, k1]
  have hmb : w2.heap[b']? = w.heap[b']? := by
    have hb := k8 b' k5
    rw [hg.block b' (Nat.lt_of_lt_of_le hb h1.size) (fun e => (k7 b' e.symm).2.2 rfl), h1.block b' hb id]
  refine ⟨by rw [blk_cell hpb]; rfl, by rw [blk_cell hpb]; rfl, blk_free hpb 1, (k2.frame hmb).frame (blk_set_other rfl (fun e => k6 e.symm) u), ?_⟩
  have := blk_set hpb 1 u
  rw [blk_cell this]
  rfl
theorem Bf.pushed {w2 w4 : World} {v : Value} {b g cap : Nat} (h : Bf w p F l most) (hn : Un l c) (hl : (l.length : Int) < most) (c0 : w.cell? ⟨p, 0, none⟩ = some (.map (some b))) (c1 : w.cell? ⟨p, 1, none⟩ = some v) (h1 : Chg w w1 Nothing) (hg : w1.grownBy w2 v.ownBlock)
    (hown : w2.ownsRow 0 3 1 (.slice (some ⟨g, 0, none⟩) (l.length + 1) cap) (l.length + 1) (cells1 l ++ [.int .i64 c])) (hgg : v.ownBlock = some g ∨ w1.heap.size ≤ g)
    (hm : MapI w4 b (fls l ++ [(c, fl x)])) (h4 : Chg (w2.setCell ⟨p, 1, none⟩ (.slice (some ⟨g, 0, none⟩) (l.length + 1) cap)) w4 (fun j => j = b)) : Bf w4 p (Grow F w w4) (l ++ [(c, x)]) most ∧ Chg w w4 F := by
  obtain ⟨b', a, cc, k1, k2, k3, k4, k5, k6, k7, k8, k9, k10, k11⟩ := h
  obtain rfl : b' = b := by have := (blk_cell k1 0).symm.trans c0; simpa using this
  obtain rfl : Value.slice a l.length cc = v := by have := (blk_cell k1 1).symm.trans c1; simpa using this
  have hp : p < w.heap.size := k8 p k4
  have hb : b' < w.heap.size := k8 b' k5
  have hpb : w2.heap[p]? = some (.cells #[.map (some b'), .slice a l.length cc, .int .i64 most] 54 (0, 0)) := by
    rw [hg.block p (Nat.lt_of_lt_of_le hp h1.size) (fun e => (k7 p e.symm).2.1 rfl), h1.block p hp id, k1]
  have hs3 : (w2.setCell ⟨p, 1, none⟩ (.slice (some ⟨g, 0, none⟩) (l.length + 1) cap)).heap.size = w2.heap.size := by simp [World.setCell]
  have hs2 : w.heap.size ≤ w2.heap.size := Nat.le_trans h1.size hg.size
  have hs4 : w2.heap.size ≤ w4.heap.size := by have := h4.size; omega
  have hgp : g ≠ p := by rcases hgg with hgg | hgg; exact (k7 g hgg).2.1; have := h1.size; omega
  have hgb : g ≠ b' := by rcases hgg with hgg | hgg; exact (k7 g hgg).2.2; have := h1.size; omega
  have hg2 := (hown.lt g rfl).2
  have hl1 : (l ++ [(c, x)]).length = l.length + 1 := by simp
  refine ⟨⟨b', some ⟨g, 0, none⟩, cap, ?_, by rw [show fls (l ++ [(c, x)]) = fls l ++ [(c, fl x)] by simp [fls]]; exact hm, ?_, .inl k4, .inl k5, k6, ?_, ?_, ?_, by rw [hl1]; omega, k11⟩, ?_⟩
  · rw [hl1, h4.block p (by omega) k6]
    simpa using blk_set hpb 1 (.slice (some ⟨g, 0, none⟩) (l.length + 1) cap)
  · rw [hl1, show cells1 (l ++ [(c, x)]) = cells1 l ++ [.int .i64 c] by simp [cells1]]
    refine ownsRow_heap hown (fun k hk => ?_)
    simp [Value.ownBlock] at hk
    subst hk
    rw [h4.block g (by omega) hgb]
    exact Below.heap_setCell _ _ _ _ hgp
  · intro k hk
    simp [Value.ownBlock] at hk
    subst hk
    refine ⟨?_, hgp, hgb⟩
    rcases hgg with hgg | hgg
    · exact .inl (k7 g hgg).1
    · exact .inr ⟨Nat.le_trans h1.size hgg, by omega⟩
  · intro k hk
    rcases hk with hk | hk
    · have := k8 k hk; omega
    · exact hk.2
  · rw [List.map_append, List.nodup_append]
    refine ⟨k9, by simp, ?_⟩
    intro a ha b hb e
    simp at hb
    obtain ⟨t, ht, rfl⟩ := List.mem_map.1 ha
    exact hn t ht (by rw [e, hb])
  · have hc3 : Chg w (w2.setCell ⟨p, 1, none⟩ (.slice (some ⟨g, 0, none⟩) (l.length + 1) cap)) F := Chg.setCell (Chg.grown (h1.mono (fun k _ hk => hk.elim)) hg (fun k hk => .inr (k7 k hk).1)) (.inr k4) _
    exact hc3.trans h4 (fun k _ hk => by rw [hk]; exact k5)
end

theorem put_known (p : Nat) (F : Nat → Prop) (l : List (Int × Nat)) (most c : Int) (x i : Nat) (w : World) (h : Bf w p F l most) (hn : Kn l c i) :
    Calls Try.prog 11 #[.pointer (some ⟨p, 0, none⟩), .int .i64 c, fl x] w fun e w' => e = .returned (.tuple #[.bool false, .int .i64 0]) ∧ Bf w' p F (l.set i (c, fixB x)) most ∧ Chg w w' F := by
  obtain ⟨b, a, cc, c0, c1, c2, hm, hown⟩ := h.cells
  obtain ⟨⟨y, hy⟩, _⟩ := id hn
  have hlook := hm.look_kn (P := Try.prog) Try.underlying51 Try.underlying3 hn.fls true (fls_at hy)
  obtain ⟨w2, hput, hm2, hc2⟩ := MapI.put_kn (w := w.drew) (P := Try.prog) (hm.frame rfl) Try.underlying51 Try.underlying3 hn.fls (fl (fixB x))
  have R := Lib.hid (h.stored c0 hn hm2 (⟨hc2.os, hc2.tape, hc2.output, hc2.size, hc2.block⟩ : Chg w w2 _))
  clear hm hown h hn hy hm2 hc2 c1 c2
  go_enter Try.func11, Try.ntmps11
  go_wp2_with fail
  go_region_law (first | (go_simp; go_at_call 23; refine (fix_any _ _).mono ?_; rintro e w' ⟨rfl, rfl⟩))
  all_goals
    go_wp2_with fail
    go_ret2
    exact ⟨rfl, R.out⟩

theorem put_full (p : Nat) (F : Nat → Prop) (l : List (Int × Nat)) (most c : Int) (x : Nat) (w : World) (h : Bf w p F l most) (hn : Un l c) (hf : (l.length : Int) = most) :
    Calls Try.prog 11 #[.pointer (some ⟨p, 0, none⟩), .int .i64 c, fl x] w fun e w' => e = .returned (.tuple #[.bool false, .int .i64 70]) ∧ ∃ m, w' = w.drewN m := by
  obtain ⟨b, a, cc, c0, c1, c2, hm, hown⟩ := h.cells
  have hlook := hm.look_un (P := Try.prog) Try.underlying51 Try.underlying3 hn.fls true (z := fl 0) (by rfl)
  have hq : ((l.length : Int) == most) = true := by simpa using hf
  clear hm hown h hn hf
  go_enter Try.func11, Try.ntmps11
  go_wp2_with fail
  go_quiet (fail)
  go_wp2_with fail
  go_ret2
  exact ⟨rfl, _, rfl⟩

theorem put_new (p : Nat) (F : Nat → Prop) (l : List (Int × Nat)) (most c : Int) (x : Nat) (w : World) (h : Bf w p F l most) (hn : Un l c) (hf : (l.length : Int) < most) :
    Calls Try.prog 11 #[.pointer (some ⟨p, 0, none⟩), .int .i64 c, fl x] w fun e w' => e = .returned (.tuple #[.bool true, .int .i64 0]) ∧ Bf w' p (Grow F w w') (l ++ [(c, fixB x)]) most ∧ Chg w w' F := by
  obtain ⟨b, a, cc, c0, c1, c2, hm, hown⟩ := h.cells
  have hlook := hm.look_un (P := Try.prog) Try.underlying51 Try.underlying3 hn.fls true (z := fl 0) (by rfl)
  have hq : ((l.length : Int) == most) = false := by simp; omega
  have H := Lib.hid h
  have HN := Lib.hid hn
  have HF := Lib.hid hf
  have HO := Lib.hid hown
  have HL := Lib.hid (show l.length ≤ 32 from by have := h.fits; omega)
  have C0 := Lib.hid c0
  have C1 := Lib.hid c1
  clear hm hown h hn hf
  go_enter Try.func11, Try.ntmps11
  go_wp2_with fail
  go_quiet (fail)
  generalize hzs : cells1 l = zs at HO
  have HZ := Lib.hid hzs
  clear hzs
  go_wp2_with (at_builtin; refine append_one rfl _ _ 52 3 rfl (.int .i64 0) 1 8 Try.underlying52 (by kernel_rfl) rfl (by decide) _ l.length zs rfl (HO.out.drew.alloc _) w.heap.size 1 rfl [.int .i64 c] rfl ?c1 ?c2 ?c3 ?c4 ?c5)
  case c1 => intro j u hj; match j, hj with | 0, hj => simp at hj; subst hj; exact blk_cell (heap_alloc_new (w.drewN nq) _) 0
  case c2 => first | rfl | (intro u hu; simp at hu; subst hu; rfl)
  case c3 => have := HL.out; unfold maxLen; omega
  case c4 => have := HL.out; omega
  case c5 =>
    intro g cap w2 hown2 hg2 hgg
    have hc1 : Chg w ((w.drewN nq).alloc (.cells #[.int .i64 c] 3)) Nothing := ((Chg.refl _ _).drewN _).alloc _
    obtain ⟨x0, x1, x2, x3, x4⟩ := H.out.before C0.out C1.out hc1 hg2 (.slice (some ⟨g, 0, none⟩) (l.length + 1) cap)
    obtain ⟨w4, hput, hm4, hc4⟩ := MapI.put_un (P := Try.prog) x3 Try.underlying51 Try.underlying3 HN.out.fls (fl (fixB x))
    have R := Lib.hid (H.out.pushed (w2 := w2) (g := g) (cap := cap) HN.out HF.out C0.out C1.out hc1 hg2 (by rw [HZ.out]; exact hown2) (hgg.imp id (fun h => by simpa using h)) hm4 (⟨hc4.os, hc4.tape, hc4.output, hc4.size, hc4.block⟩ : Chg (w2.setCell ⟨p, 1, none⟩ (.slice (some ⟨g, 0, none⟩) (l.length + 1) cap)) w4 (fun j => j = b)))
    clear hown2 hg2 hgg hc1 x3 hm4 hc4 c0 c1 c2 hlook
    go_wp2_with fail
    go_region_law (first | (go_simp; go_at_call 23; refine (fix_any _ _).mono ?_; rintro e w' ⟨rfl, rfl⟩))
    all_goals
      go_wp2_with fail
      go_ret2
      exact ⟨rfl, R.out⟩

theorem get_known (p : Nat) (F : Nat → Prop) (l : List (Int × Nat)) (most c : Int) (i y : Nat) (w : World) (h : Bf w p F l most) (hn : Kn l c i) (hy : l[i]? = some (c, y)) :
    Calls Try.prog 13 #[.pointer (some ⟨p, 0, none⟩), .int .i64 c] w fun e w' => e = .returned (.tuple #[fl y, .bool true]) ∧ w = w' := by
  obtain ⟨b, a, cc, c0, c1, c2, hm, hown⟩ := h.cells
  have hlook := hm.look_kn (P := Try.prog) Try.underlying51 Try.underlying3 hn.fls true (fls_at hy)
  clear hm hown h hn hy
  go_enter Try.func13, Try.ntmps13
  go_wp2_with fail
  go_ret2
  exact ⟨rfl, rfl⟩

theorem get_un (p : Nat) (F : Nat → Prop) (l : List (Int × Nat)) (most c : Int) (w : World) (h : Bf w p F l most) (hn : Un l c) :
    Calls Try.prog 13 #[.pointer (some ⟨p, 0, none⟩), .int .i64 c] w fun e w' => e = .returned (.tuple #[fl 0, .bool false]) ∧ w = w' := by
  obtain ⟨b, a, cc, c0, c1, c2, hm, hown⟩ := h.cells
  have hlook := hm.look_un (P := Try.prog) Try.underlying51 Try.underlying3 hn.fls true (z := fl 0) (by rfl)
  clear hm hown h hn
  go_enter Try.func13, Try.ntmps13
  go_wp2_with fail
  go_ret2
  exact ⟨rfl, rfl⟩

theorem len_any (p : Nat) (F : Nat → Prop) (l : List (Int × Nat)) (most : Int) (w : World) (h : Bf w p F l most) :
    Calls Try.prog 8 #[.pointer (some ⟨p, 0, none⟩)] w fun e w' => e = .returned (.int .i64 l.length) ∧ w = w' := by
  obtain ⟨b, a, cc, c0, c1, c2, hm, hown⟩ := h.cells
  clear h hm hown
  go_enter Try.func8, Try.ntmps8
  go_wp2
  go_ret
  exact ⟨rfl, rfl⟩

theorem Bf.cleared {w w1 : World} {p : Nat} {F : Nat → Prop} {l : List (Int × Nat)} {most : Int} {b : Nat} (h : Bf w p F l most) (c0 : w.cell? ⟨p, 0, none⟩ = some (.map (some b))) (hm : MapI w1 b []) (hc : Chg w w1 (fun j => j = b)) :
    w1.cell? ⟨p, 1, none⟩ = w.cell? ⟨p, 1, none⟩ ∧ w1.frozen? ⟨p, 1, none⟩ = false ∧ Bf (w1.setCell ⟨p, 1, none⟩ (.slice none 0 0)) p F [] most ∧ Chg w (w1.setCell ⟨p, 1, none⟩ (.slice none 0 0)) F := by
  obtain ⟨b', a, cc, k1, k2, k3, k4, k5, k6, k7, k8, k9, k10, k11⟩ := h
  obtain rfl : b' = b := by have := (blk_cell k1 0).symm.trans c0; simpa using this
  have hpb := (hc.block p (k8 p k4) k6).trans k1
  refine ⟨by rw [blk_cell hpb, blk_cell k1], blk_free hpb 1, ⟨b', none, 0, by simpa using blk_set hpb 1 (.slice none 0 0), hm.frame (blk_set_other rfl (fun e => k6 e.symm) _), World.ownsRow_nil _ _ _ _, k4, k5, k6, by simp [Value.ownBlock], fun k hk => by have := k8 k hk; have := hc.size; simp [World.setCell]; omega, by simp, by simp; omega, k11⟩, ?_⟩
  exact (hc.mono (fun k _ hk => by rw [hk]; exact k5)).setCell (.inr k4) _

theorem clear_any (p : Nat) (F : Nat → Prop) (l : List (Int × Nat)) (most : Int) (w : World) (h : Bf w p F l most) :
    Calls Try.prog 29 #[.pointer (some ⟨p, 0, none⟩)] w fun e w' => e = .returned (.tuple #[]) ∧ Bf w' p F [] most ∧ Chg w w' F := by
  obtain ⟨b, a, cc, c0, c1, c2, hm, hown⟩ := h.cells
  obtain ⟨w1, hclr, hm1, hc1⟩ := hm.clear (P := Try.prog) Try.underlying51 0
  obtain ⟨x1, x2, R⟩ := h.cleared c0 hm1 hc1
  have R := Lib.hid R
  rw [c1] at x1
  clear h hm hown hm1 hc1
  go_enter Try.func29, Try.ntmps29
  go_wp2
  go_end0
  exact ⟨rfl, R.out⟩

theorem new_bad (n : Int) (w : World) (h : n < 1 ∨ 32 < n) : Calls Try.prog 7 #[.int .i64 n] w fun e w' => e = .returned (.tuple #[.pointer none, .int .i64 1]) ∧ w = w' := by
  by_cases h1 : n < 1
  · have b1 : decide (n < 1) = true := by simpa using h1
    clear h
    go_enter Try.func7, Try.ntmps7
    go_wp2
    go_ret2
    exact ⟨rfl, rfl⟩
  · have b1 : decide (n < 1) = false := by simpa using h1
    have b2 : decide (32 < n) = true := by simp; omega
    clear h
    go_enter Try.func7, Try.ntmps7
    go_wp2
    go_ret2
    exact ⟨rfl, rfl⟩

theorem Bf.made (w : World) (n : Int) (h1 : 1 ≤ n) (h2 : n ≤ 32) :
    Bf ((w.alloc (.map #[] 0)).alloc (.cells #[.map (some w.heap.size), .slice none 0 0, .int .i64 n] 54)) (w.heap.size + 1) (Grow Nothing w ((w.alloc (.map #[] 0)).alloc (.cells #[.map (some w.heap.size), .slice none 0 0, .int .i64 n] 54))) [] n := by
  refine ⟨w.heap.size, none, 0, ?_, ?_, World.ownsRow_nil _ _ _ _, .inr ⟨by omega, by simp⟩, .inr ⟨by omega, by simp; omega⟩, by omega, by simp [Value.ownBlock], ?_, by simp, by simp; omega, h2⟩
  · have := heap_alloc_new (w.alloc (.map #[] 0)) (.cells #[.map (some w.heap.size), .slice none 0 0, .int .i64 n] 54)
    simpa using this
  · exact (MapI.made w).frame (by rw [blk_alloc (heap_alloc_new w (.map #[] 0))]; exact (heap_alloc_new w _).symm)
  · intro k hk
    rcases hk with hk | hk
    · exact hk.elim
    · exact hk.2

theorem new_good (n : Int) (w : World) (h1 : 1 ≤ n) (h2 : n ≤ 32) : Calls Try.prog 7 #[.int .i64 n] w fun e w' => ∃ p, e = .returned (.tuple #[.pointer (some ⟨p, 0, none⟩), .int .i64 0]) ∧ w.heap.size ≤ p ∧
    Bf w' p (Grow Nothing w w') [] n ∧ Chg w w' Nothing := by
  have b1 : decide (n < 1) = false := by simp; omega
  have b2 : decide (32 < n) = false := by simp; omega
  have R := Lib.hid (Bf.made w n h1 h2)
  clear h1 h2
  have hmm := @run_makeMap Try.prog
  go_enter Try.func7, Try.ntmps7
  go_wp2
  go_ret2
  exact ⟨_, rfl, by simp, R.out, ((Chg.refl _ _).alloc _).alloc _⟩

end Go.Proofs.Ytpigcmedkljonac
