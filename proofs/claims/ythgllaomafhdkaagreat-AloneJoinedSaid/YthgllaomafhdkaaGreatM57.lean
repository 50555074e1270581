/- The document's machine: write. -/
import Derived.Test.YthgllaomafhdkaaGreatM56
namespace Go.Proofs.YthgllaomafhdkaaGreat
open Go Go.RowKit
set_option maxRecDepth 100000
set_option maxHeartbeats 1000000
set_option linter.unusedVariables false
set_option linter.unusedSimpArgs false

theorem tchS : ∀ {l : List (Int × Nat)} {i : Nat} {c : Int} {y x : Nat}, l[i]? = some (c, y) → tchV (l.set i (c, x)) = (tchV l).set (i * 2 + 1) (fl x)
  | [], i, c, y, x, h => by simp at h
  | t :: l, 0, c, y, x, h => by simp at h; subst h; rfl
  | t :: l, i + 1, c, y, x, h => by
    have := tchS (x := x) (show l[i]? = some (c, y) by simpa using h)
    rw [List.set_cons_succ, show (i + 1) * 2 + 1 = (i * 2 + 1) + 2 by omega]
    show [Value.int .i64 t.1, fl t.2] ++ tchV (l.set i (c, x)) = ([Value.int .i64 t.1, fl t.2] ++ tchV l).set (i * 2 + 1 + 2) (fl x)
    rw [this]
    rfl
/-- How far a number has been laid. -/
def LaidTo (c : Int) (x n : Nat) (l l' : List (Int × Nat)) : Prop := l'.length = l.length ∧ ∀ j t, l[j]? = some t → l'[j]? = some (if j < n ∧ t.1 = c then (c, x) else t)
theorem LaidTo.refl (c : Int) (x : Nat) (l : List (Int × Nat)) : LaidTo c x 0 l l := ⟨rfl, fun j t h => by rw [if_neg (by omega)]; exact h⟩
theorem LaidTo.skip {c : Int} {x n : Nat} {l l' : List (Int × Nat)} {ci : Int} {y : Nat} (h : LaidTo c x n l l') (hx : l[n]? = some (ci, y)) (hne : ci ≠ c) : LaidTo c x (n + 1) l l' := by
  refine ⟨h.1, fun j t hj => ?_⟩
  rw [h.2 j t hj]
  by_cases e : j = n
  · subst e
    rw [hx] at hj
    injection hj with hj
    subst hj
    rw [if_neg (by omega), if_neg (fun h => hne h.2)]
  · by_cases e2 : j < n ∧ t.1 = c
    · rw [if_pos e2, if_pos ⟨by omega, e2.2⟩]
    · rw [if_neg e2, if_neg (fun h => e2 ⟨by omega, h.2⟩)]
theorem LaidTo.lay {c : Int} {x n : Nat} {l l' : List (Int × Nat)} {y : Nat} (h : LaidTo c x n l l') (hx : l[n]? = some (c, y)) : LaidTo c x (n + 1) l (l'.set n (c, x)) := by
  refine ⟨by rw [List.length_set]; exact h.1, fun j t hj => ?_⟩
  have hl := (List.getElem?_eq_some_iff.1 hj).1
  by_cases e : j = n
  · subst e
    rw [hx] at hj
    injection hj with hj
    subst hj
    rw [List.getElem?_set_self (by rw [h.1]; exact hl), if_pos ⟨by omega, rfl⟩]
  · rw [List.getElem?_set_ne (Ne.symm e), h.2 j t hj]
    by_cases e2 : j < n ∧ t.1 = c
    · rw [if_pos e2, if_pos ⟨by omega, e2.2⟩]
    · rw [if_neg e2, if_neg (fun h => e2 ⟨by omega, h.2⟩)]
theorem LaidTo.done {c : Int} {x : Nat} {l l' : List (Int × Nat)} {i : Nat} (h : LaidTo c x l.length l l') (hk : Kn l c i) (hnd : (l.map (·.1)).Nodup) : l' = putN l c x := by
  rw [putN_kn hk]
  refine List.ext_getElem? fun j => ?_
  by_cases hj : j < l.length
  · have h1 := h.2 j _ (List.getElem?_eq_getElem hj)
    rw [h1]
    by_cases e : j = i
    · subst e
      obtain ⟨⟨y, hy⟩, _⟩ := hk
      have : l[j] = (c, y) := by rw [List.getElem?_eq_getElem hj] at hy; injection hy
      rw [List.getElem?_set_self hj, if_pos ⟨hj, by rw [this]⟩]
    · rw [List.getElem?_set_ne (Ne.symm e), List.getElem?_eq_getElem hj, if_neg]
      intro ⟨_, hc⟩
      obtain ⟨⟨y, hy⟩, _⟩ := hk
      have hi := (List.getElem?_eq_some_iff.1 hy).1
      have e1 : (l.map (·.1))[i]? = some c := by rw [List.getElem?_map, hy]; rfl
      have e2 : (l.map (·.1))[j]? = some c := by rw [List.getElem?_map, List.getElem?_eq_getElem hj]; show some (l[j]).1 = _; rw [hc]
      have e3 := List.pairwise_iff_getElem.1 hnd
      have g1 := (List.getElem?_eq_some_iff.1 e1).2
      have g2 := (List.getElem?_eq_some_iff.1 e2).2
      rcases Nat.lt_or_ge i j with hij | hij
      · exact e3 i j (by rw [List.length_map]; exact hi) (by rw [List.length_map]; exact hj) hij (g1.trans g2.symm)
      · exact e3 j i (by rw [List.length_map]; exact hj) (by rw [List.length_map]; exact hi) (by omega) (g2.trans g1.symm)
  · rw [List.getElem?_eq_none (by rw [h.1]; omega), List.getElem?_eq_none (by rw [List.length_set]; omega)]
/-- Its buffer is another row. -/
theorem RmAt.rebuf {w w4 w6 : World} {q lb cl g L c' : Nat} {R : Nat → Prop} {s : Mc} {vc vA vS vC vT vR vB : Value} {l' : List (Int × Nat)} (h : RmAt w q lb R s vc vA vS vC vT vR vB cl) (hc : Chg w w4 Nothing)
    (hc6 : Chg (w4.setCell ⟨q, 19, none⟩ (.slice (some ⟨g, 0, none⟩) L c')) w6 (fun k => k = g)) (hown : w6.ownsRow w.heap.size 77 2 (.slice (some ⟨g, 0, none⟩) L c') L (tchV l')) (hl : l'.length = L) : Rs w w6 q lb R { s with buf := l' } := by
  have hq := h.qlt
  have hg := hown.lt g rfl
  have hz : (w4.setCell ⟨q, 19, none⟩ (.slice (some ⟨g, 0, none⟩) L c')).heap.size = w4.heap.size := by simp [World.setCell]
  have hz4 := hc.size
  have hz6 := hc6.size
  have hold : ∀ k, k < w.heap.size → k ≠ q → w6.heap[k]? = w.heap[k]? := fun k hk hkq => by
    rw [hc6.block k (by rw [hz]; omega) (by omega), Below.heap_setCell _ _ _ _ hkq, hc.block k hk id]
  have hr := h.rows.move (w' := w6) (R' := fun b => R b ∨ b = g) (fun b hb => ⟨.inl hb, hold b (h.own b hb).1 (h.own b hb).2.1⟩)
  have hb : w6.heap[q]? = some (.cells (rcells { s with buf := l' } vc vA vS vC (.slice (some ⟨lb, 0, none⟩) 8 cl) vT vR (.slice (some ⟨g, 0, none⟩) L c')) 111 (0, 0)) := by
    rw [hc6.block q (by rw [hz]; omega) (by omega)]
    exact blk_set ((hc.block q hq.1 id).trans h.blk) 19 _
  have hm : RmAt w6 q lb (fun b => R b ∨ b = g) { s with buf := l' } vc vA vS vC vT vR (.slice (some ⟨g, 0, none⟩) L c') cl :=
    ⟨hb, ownsRow_heap h.loc (fun k hk => by simp [Value.ownBlock] at hk; subst hk; exact hold lb hq.2 (Ne.symm h.ne)), h.ne, fun k hk => by
      rcases hk with hk | rfl
      · have := h.own k hk; exact ⟨by omega, this.2⟩
      · exact ⟨hg.2, by omega, by omega⟩, hr.code, hr.arg, hr.num, hr.cal, hr.out, hr.reads, by
      show RRow w6 _ _ l'.length 2 (tchV l')
      rw [hl]
      exact RRow.owned hown (fun b hb => by simp [Value.ownBlock] at hb; exact .inr hb.symm)⟩
  refine Rs.of ⟨_, _, _, _, _, _, _, _, h⟩ ⟨_, _, _, _, _, _, _, _, hm⟩ ?_ (fun k hk => hk.imp id (fun e => by omega))
  exact ((hc.mono (fun _ _ h => h.elim)).setCell (.inr (.inl rfl)) _).trans hc6 (fun k hk e => by omega)
section
variable (q lb : Nat) (R : Nat → Prop) (s : Mc) (w : World)
theorem rwrite_tag (h : Rm w q lb R s) (ht : s.tag ≠ 2) :
    Calls Tryz.prog 109 #[.pointer (some ⟨q, 0, none⟩)] w fun e w' => e = .returned (askV askEnd) ∧ Rs w w' q lb R (s.fails 81) := by
  obtain ⟨hq, hlb, hne, hown⟩ := h.qlt
  have hq1 : ¬ q = w.heap.size := by omega
  obtain ⟨-, -, -, -, -, c4, -⟩ := h.cellAt
  have b1 : (s.tag == 2) = false := beq_eq_false_iff_ne.2 ht
  have H := Lib.hid h
  clear h ht hown
  go_enter Tryz.func109, Tryz.ntmps109
  go_wp2_with fail
  with_reducible refine (rfails_any q lb R s 81 _ (H.out.quiet ((Chg.refl w Nothing).alloc _))).mono ?_
  rintro e w3 ⟨he, hS⟩
  obtain rfl : e = .returned (.agg #[.int .i64 4, .int .i64 0, .float .f64 0, .bool false]) := he
  have HC0 := Lib.hid (Chg.refl (w.alloc (.cells ask0 35)) Nothing)
  obtain ⟨qd, hE⟩ := rask_end H.out HC0.out hS
  have RE := Lib.hid hE
  have q0 : (w3).cell? ⟨w.heap.size, 0, none⟩ = some (.int .i64 0) := blk_cell qd 0
  have q1 : (w3).cell? ⟨w.heap.size, 1, none⟩ = some (.int .i64 0) := blk_cell qd 1
  have q2 : (w3).cell? ⟨w.heap.size, 2, none⟩ = some (.float .f64 0) := blk_cell qd 2
  have q3 : (w3).cell? ⟨w.heap.size, 3, none⟩ = some (.bool false) := blk_cell qd 3
  have g0 : (w3).frozen? ⟨w.heap.size, 0, none⟩ = false := blk_free qd 0
  have g1 : (w3).frozen? ⟨w.heap.size, 1, none⟩ = false := blk_free qd 1
  have g2 : (w3).frozen? ⟨w.heap.size, 2, none⟩ = false := blk_free qd 2
  have g3 : (w3).frozen? ⟨w.heap.size, 3, none⟩ = false := blk_free qd 3
  have QE := Lib.hid qd
  clear hS hE qd HC0
  go_wp2_with fail
  exact bodyPost_ret (v := askV askEnd) (rwrite_results (a := askEnd) rfl (four_set QE.out)) rfl ⟨rfl, RE.out _ _ _ _⟩
theorem rwrite_bad (h : Rm w q lb R s) (hl : s.s.length ≤ 64) (hn : 2 ≤ s.s.length) (ht : s.tag = 2) (hE : idxE (topN s.s 0) s.cells ≠ 0) :
    Calls Tryz.prog 109 #[.pointer (some ⟨q, 0, none⟩)] w fun e w' => e = .returned (askV askEnd) ∧ Rs w w' q lb R (s.fails 50) := by
  obtain ⟨hq, hlb, hne, hown⟩ := h.qlt
  have hq1 : ¬ q = w.heap.size := by omega
  obtain ⟨-, -, -, c0, c3, c4, -⟩ := h.cellAt
  rw [ht] at c4
  have H := Lib.hid h
  have HL := Lib.hid hl
  have HN := Lib.hid (show 1 ≤ s.s.length by omega)
  have HN2 := Lib.hid hn
  have HE := Lib.hid hE
  clear h hl hn hE hown ht
  go_enter Tryz.func109, Tryz.ntmps109
  go_wp2_with fail
  go_quiet (first | (go_at_call 104; exact Calls.quiet_of (rtop0 q lb R s _ (H.out.quiet (((Chg.refl w Nothing).alloc _).drewN _)) HN.out HL.out)) | (go_at_call 136; exact Calls.quiet_of (rindex_bad HE.out _)))
  go_wp2_with fail
  with_reducible refine (rfails_any q lb R s 50 _ (H.out.quiet (((Chg.refl w Nothing).alloc _).drewN _))).mono ?_
  rintro e w3 ⟨he, hS⟩
  obtain rfl : e = .returned (.agg #[.int .i64 4, .int .i64 0, .float .f64 0, .bool false]) := he
  have HC0 := Lib.hid ((Chg.refl (w.alloc (.cells ask0 35)) Nothing).drewN nq)
  obtain ⟨qd, hE⟩ := rask_end H.out HC0.out hS
  have RE := Lib.hid hE
  have q0 : (w3).cell? ⟨w.heap.size, 0, none⟩ = some (.int .i64 0) := blk_cell qd 0
  have q1 : (w3).cell? ⟨w.heap.size, 1, none⟩ = some (.int .i64 0) := blk_cell qd 1
  have q2 : (w3).cell? ⟨w.heap.size, 2, none⟩ = some (.float .f64 0) := blk_cell qd 2
  have q3 : (w3).cell? ⟨w.heap.size, 3, none⟩ = some (.bool false) := blk_cell qd 3
  have g0 : (w3).frozen? ⟨w.heap.size, 0, none⟩ = false := blk_free qd 0
  have g1 : (w3).frozen? ⟨w.heap.size, 1, none⟩ = false := blk_free qd 1
  have g2 : (w3).frozen? ⟨w.heap.size, 2, none⟩ = false := blk_free qd 2
  have g3 : (w3).frozen? ⟨w.heap.size, 3, none⟩ = false := blk_free qd 3
  have QE := Lib.hid qd
  clear hS hE qd HC0
  go_wp2_with fail
  exact bodyPost_ret (v := askV askEnd) (rwrite_results (a := askEnd) rfl (four_set QE.out)) rfl ⟨rfl, RE.out _ _ _ _⟩
theorem Rm.bufAt {w : World} {q lb : Nat} {R : Nat → Prop} {s : Mc} (h : Rm w q lb R s) : ∃ a c, w.cell? ⟨q, 19, none⟩ = some (.slice a s.buf.length c) := by
  obtain ⟨vc, vA, vS, vC, vT, vR, vB, cl, h⟩ := h
  obtain ⟨a, c, rfl, _⟩ := h.buf
  exact ⟨a, c, blk_cell h.blk 19⟩
theorem rwrite_full (h : Rm w q lb R s) (hl : s.s.length ≤ 64) (hn : 2 ≤ s.s.length) (ht : s.tag = 2) (hbl : s.buf.length ≤ 4096) (hE : idxE (topN s.s 0) s.cells = 0) (c : Int) (hc : idxI (topN s.s 0) s.cells = c) (hg : getN s.buf c = none) (hf : (s.buf.length : Int) = s.writes) :
    Calls Tryz.prog 109 #[.pointer (some ⟨q, 0, none⟩)] w fun e w' => e = .returned (askV askEnd) ∧ Rs w w' q lb R (s.fails 70) := by
  obtain ⟨hq, hlb, hne, hown⟩ := h.qlt
  have hq1 : ¬ q = w.heap.size := by omega
  obtain ⟨-, -, -, c0, c3, c4, -⟩ := h.cellAt
  rw [ht] at c4
  have H := Lib.hid h
  have HL := Lib.hid hl
  have HN := Lib.hid (show 1 ≤ s.s.length by omega)
  have HN2 := Lib.hid hn
  have HE := Lib.hid hE
  have HBL := Lib.hid hbl
  have HCI := Lib.hid hc
  have HG := Lib.hid hg
  have b1 : ((s.buf.length : Int) == s.writes) = true := by rw [hf]; simp
  have B1 := Lib.hid b1
  clear h hl hn hE hown ht hbl hc hg hf b1
  go_enter Tryz.func109, Tryz.ntmps109
  go_wp2_with fail
  go_quiet (first | (go_at_call 104; exact Calls.quiet_of (rtop0 q lb R s _ (H.out.quiet (((Chg.refl w Nothing).alloc _).drewN _)) HN.out HL.out)) | (go_at_call 136; exact Calls.quiet_of (rindex_ok HE.out HCI.out _)))
  go_wp2_with fail
  with_reducible refine (rtop1 q lb R s _ (H.out.quiet (((Chg.refl w Nothing).alloc _).drewN _)) HN2.out HL.out).mono ?_
  rintro e w1 ⟨rfl, m, rfl⟩
  go_wp2_with fail
  with_reducible refine (rwrote_none HG.out _ (H.out.quiet (((Chg.refl w Nothing).alloc _).drewN _)) HBL.out).mono ?_
  rintro e w1 ⟨rfl, hc1⟩
  have C1 := Lib.hid (show Chg (w.alloc (.cells ask0 35)) w1 Nothing from ((Chg.refl _ Nothing).drewN (nq + m)).trans hc1 (fun _ _ h => h))
  have CW := Lib.hid (show Chg w w1 Nothing from (((Chg.refl w Nothing).alloc _)).trans C1.out (fun _ _ h => h))
  obtain ⟨-, -, -, -, y3, -⟩ := (H.out.quiet CW.out).cellAt
  obtain ⟨aB, cB, y19⟩ := (H.out.quiet CW.out).bufAt
  have b1 := B1.out
  clear hc1 c0 c3 c4
  go_wp2_with fail
  go_quiet (fail)
  go_wp2_with fail
  with_reducible refine (rfails_any q lb R s 70 _ (H.out.quiet (CW.out.drewN _))).mono ?_
  rintro e w3 ⟨he, hS⟩
  obtain rfl : e = .returned (.agg #[.int .i64 4, .int .i64 0, .float .f64 0, .bool false]) := he
  have HC0 := Lib.hid (C1.out.drewN nq)
  obtain ⟨qd, hE⟩ := rask_end H.out HC0.out hS
  have RE := Lib.hid hE
  have q0 : (w3).cell? ⟨w.heap.size, 0, none⟩ = some (.int .i64 0) := blk_cell qd 0
  have q1 : (w3).cell? ⟨w.heap.size, 1, none⟩ = some (.int .i64 0) := blk_cell qd 1
  have q2 : (w3).cell? ⟨w.heap.size, 2, none⟩ = some (.float .f64 0) := blk_cell qd 2
  have q3 : (w3).cell? ⟨w.heap.size, 3, none⟩ = some (.bool false) := blk_cell qd 3
  have g0 : (w3).frozen? ⟨w.heap.size, 0, none⟩ = false := blk_free qd 0
  have g1 : (w3).frozen? ⟨w.heap.size, 1, none⟩ = false := blk_free qd 1
  have g2 : (w3).frozen? ⟨w.heap.size, 2, none⟩ = false := blk_free qd 2
  have g3 : (w3).frozen? ⟨w.heap.size, 3, none⟩ = false := blk_free qd 3
  have QE := Lib.hid qd
  clear hS hE qd HC0
  go_wp2_with fail
  exact bodyPost_ret (v := askV askEnd) (rwrite_results (a := askEnd) rfl (four_set QE.out)) rfl ⟨rfl, RE.out _ _ _ _⟩
theorem rwrite_new (h : Rm w q lb R s) (hl : s.s.length ≤ 64) (hn : 2 ≤ s.s.length) (ht : s.tag = 2) (hbl : s.buf.length ≤ 4096) (hE : idxE (topN s.s 0) s.cells = 0) (c : Int) (hc : idxI (topN s.s 0) s.cells = c) (x : Nat) (hx : topN s.s 1 = x) (hg : getN s.buf c = none) (hf : (s.buf.length : Int) ≠ s.writes) :
    Calls Tryz.prog 109 #[.pointer (some ⟨q, 0, none⟩)] w fun e w' => e = .returned (askV ⟨3, c, x, true⟩) ∧ Rs w w' q lb R { s with s := s.s.dropLast.dropLast, buf := s.buf ++ [(c, x)] } := by
  obtain ⟨i1, i11, i12, i13, i14⟩ := info_parts (show (Tryz.prog.info? 77).map (fun i => (i.zero, i.size, i.bytes)) = some (some (.agg #[.int .i64 0, fl 0]), 2, 16) by kernel_rfl)
  have H1 := Lib.hid (And.intro i11 (And.intro i12 (And.intro i13 i14)))
  clear i11 i12 i13 i14
  obtain ⟨hq, hlb, hne, hown⟩ := h.qlt
  have hq1 : ¬ q = w.heap.size := by omega
  obtain ⟨-, -, -, c0, c3, c4, -⟩ := h.cellAt
  rw [ht] at c4
  have H := Lib.hid h
  have HL := Lib.hid hl
  have HN := Lib.hid (show 1 ≤ s.s.length by omega)
  have HN2 := Lib.hid hn
  have HE := Lib.hid hE
  have HBL := Lib.hid hbl
  have HCI := Lib.hid hc
  have HG := Lib.hid hg
  have HX := Lib.hid hx
  have B1 := Lib.hid (show ((s.buf.length : Int) == s.writes) = false from beq_eq_false_iff_ne.2 hf)
  clear h hl hn hE hown ht hbl hc hg hf hx
  go_enter Tryz.func109, Tryz.ntmps109
  go_wp2_with fail
  go_quiet (first | (go_at_call 104; exact Calls.quiet_of (rtop0 q lb R s _ (H.out.quiet (((Chg.refl w Nothing).alloc _).drewN _)) HN.out HL.out)) | (go_at_call 136; exact Calls.quiet_of (rindex_ok HE.out HCI.out _)))
  go_wp2_with fail
  with_reducible refine (rtop1 q lb R s _ (H.out.quiet (((Chg.refl w Nothing).alloc _).drewN _)) HN2.out HL.out).mono ?_
  rintro e w1 ⟨rfl, m, rfl⟩
  rw [HX.out]
  go_wp2_with fail
  with_reducible refine (rwrote_none HG.out _ (H.out.quiet (((Chg.refl w Nothing).alloc _).drewN _)) HBL.out).mono ?_
  rintro e w1 ⟨rfl, hc1⟩
  have C1 := Lib.hid (show Chg (w.alloc (.cells ask0 35)) w1 Nothing from ((Chg.refl _ Nothing).drewN (nq + m)).trans hc1 (fun _ _ h => h))
  have CW := Lib.hid (show Chg w w1 Nothing from (((Chg.refl w Nothing).alloc _)).trans C1.out (fun _ _ h => h))
  obtain ⟨-, -, -, -, y3, -⟩ := (H.out.quiet CW.out).cellAt
  obtain ⟨aB, cB, y19⟩ := (H.out.quiet CW.out).bufAt
  have b1 := B1.out
  clear hc1 c0 c3 c4
  go_wp2_with fail
  go_quiet (fail)
  go_wp2_with fail
  with_reducible refine (rdrop2 q lb R s _ (H.out.quiet (CW.out.drewN _)) HN2.out HL.out).mono ?_
  rintro e w2 ⟨rfl, hS1⟩
  have HC0 := Lib.hid (C1.out.drewN nq)
  have C2 := Lib.hid (CW.out.drewN nq)
  have S1 := Lib.hid hS1
  clear hS1 C1 CW y3 y19 b1
  go_wp2_with fail
  obtain ⟨vc, vA, vS, vC, vT, vR, vB, cl, hR⟩ := S1.out.rm
  have hqw : q < w2.heap.size := hR.qlt.1
  obtain ⟨aB, cB, rfl, hcap, -, -⟩ := hR.buf
  have kj : w2.cell? ⟨q, 19, none⟩ = some (.slice aB s.buf.length cB) := blk_cell hR.blk 19
  have KJ := Lib.hid kj
  have HR := Lib.hid hR
  have RO := Lib.hid ((hR.quiet ((((Chg.refl w2 Nothing).alloc (.cells #[.int .i64 c, fl x] 77)).drew) : Chg w2 (w2.alloc (.cells #[.int .i64 c, fl x] 77)).drew Nothing)).buf.whole)
  have HN := Lib.hid (show ∀ (jj : Nat) (u : Value), [.int .i64 c, fl x][jj]? = some u → ((w2.alloc (.cells #[.int .i64 c, fl x] 77)).drew).cell? ((⟨w2.heap.size, 0, none⟩ : Addr).add jj) = some u from World.news_of_block (cs := #[.int .i64 c, fl x]) (t := 77) (fr := (0, 0)) (w := (w2.alloc (.cells #[.int .i64 c, fl x] 77)).drew) (heap_alloc_new w2 _))
  have hqz : ¬ q = w2.heap.size := by omega
  have hml2 : s.buf.length ≤ cB := hcap
  clear hcap
  have hml : ((s.buf.length : Nat) : Int) ≤ (cB : Int) := by omega
  clear hR kj
  refine beginL (fun w' => w'.cell? ⟨q, 19, none⟩ = some (.slice aB s.buf.length cB)) 23 (by kernel_rfl) ((((Chg.refl w2 Nothing).drew)).cell KJ.out id) (fun hHeld => ?_)
  refine takeL 0 2 (v := ?_) rfl (by kernel_rfl) (fun _ _ _ h => h) (by rfl) (by assumption) ?_ ?_
  rotate_left
  · (intro w hSw; (try dsimp only at hSw); go_simp; try with_reducible rfl)
  try simp only [Act.put, List.setIfInBounds_toArray, List.set_cons_zero, List.set_cons_succ]
  refine takeL 1 2 (v := ?_) rfl (by kernel_rfl) (fun _ _ _ h => h) (by rfl) (by assumption) ?_ ?_
  rotate_left
  · (intro w hSw; (try dsimp only at hSw); go_simp; try with_reducible rfl)
  try simp only [Act.put, List.setIfInBounds_toArray, List.set_cons_zero, List.set_cons_succ]
  refine takeL 2 2 (v := ?_) rfl (by kernel_rfl) (fun _ _ _ h => h) (by rfl) (by assumption) ?_ ?_
  rotate_left
  · (intro w hSw; (try dsimp only at hSw); go_simp; try with_reducible rfl)
  try simp only [Act.put, List.setIfInBounds_toArray, List.set_cons_zero, List.set_cons_succ]
  refine takeL 3 2 (v := ?_) rfl (by kernel_rfl) (fun _ _ _ h => h) (by rfl) (by assumption) ?_ ?_
  rotate_left
  · (intro w hSw; (try dsimp only at hSw); go_simp; try with_reducible rfl)
  try simp only [Act.put, List.setIfInBounds_toArray, List.set_cons_zero, List.set_cons_succ]
  refine takeL 4 2 (v := ?_) rfl (by kernel_rfl) (fun _ _ _ h => h) (by rfl) (by assumption) ?_ ?_
  rotate_left
  · (intro w hSw; (try dsimp only at hSw); go_simp; try with_reducible rfl)
  try simp only [Act.put, List.setIfInBounds_toArray, List.set_cons_zero, List.set_cons_succ]
  refine takeL 5 2 (v := ?_) rfl (by kernel_rfl) (fun _ _ _ h => h) (by rfl) (by assumption) ?_ ?_
  rotate_left
  · (intro w hSw; (try dsimp only at hSw); go_simp; try with_reducible rfl)
  try simp only [Act.put, List.setIfInBounds_toArray, List.set_cons_zero, List.set_cons_succ]
  refine takeL 6 2 (v := ?_) rfl (by kernel_rfl) (fun _ _ _ h => h) (by rfl) (by assumption) ?_ ?_
  rotate_left
  · (intro w hSw; (try dsimp only at hSw); go_simp; try with_reducible rfl)
  try simp only [Act.put, List.setIfInBounds_toArray, List.set_cons_zero, List.set_cons_succ]
  refine takeL 7 2 (v := ?_) rfl (by kernel_rfl) (fun _ _ _ h => h) (by rfl) (by assumption) ?_ ?_
  rotate_left
  · (intro w hSw; (try dsimp only at hSw); go_simp; try with_reducible rfl)
  try simp only [Act.put, List.setIfInBounds_toArray, List.set_cons_zero, List.set_cons_succ]
  refine takeL 8 2 (v := ?_) rfl (by kernel_rfl) (fun _ _ _ h => h) (by rfl) (by assumption) ?_ ?_
  rotate_left
  · (intro w hSw; (try dsimp only at hSw); go_simp; try with_reducible rfl)
  try simp only [Act.put, List.setIfInBounds_toArray, List.set_cons_zero, List.set_cons_succ]
  refine takeL 9 2 (v := ?_) rfl (by kernel_rfl) (fun _ _ _ h => h) (by rfl) (by assumption) ?_ ?_
  rotate_left
  · (intro w hSw; (try dsimp only at hSw); go_simp; try with_reducible rfl)
  try simp only [Act.put, List.setIfInBounds_toArray, List.set_cons_zero, List.set_cons_succ]
  refine takeL 10 2 (v := ?_) rfl (by kernel_rfl) (fun _ _ _ h => h) (by rfl) (by assumption) ?_ ?_
  rotate_left
  · (intro w hSw; (try dsimp only at hSw); go_simp; try with_reducible rfl)
  try simp only [Act.put, List.setIfInBounds_toArray, List.set_cons_zero, List.set_cons_succ]
  refine takeL 11 2 (v := ?_) rfl (by kernel_rfl) (fun _ _ _ h => h) (by rfl) (by assumption) ?_ ?_
  rotate_left
  · (intro w hSw; (try dsimp only at hSw); go_simp; try with_reducible rfl)
  try simp only [Act.put, List.setIfInBounds_toArray, List.set_cons_zero, List.set_cons_succ]
  refine takeL 12 2 (v := ?_) rfl (by kernel_rfl) (fun _ _ _ h => h) (by rfl) (by assumption) ?_ ?_
  rotate_left
  · (intro w hSw; (try dsimp only at hSw); go_simp; try with_reducible rfl)
  try simp only [Act.put, List.setIfInBounds_toArray, List.set_cons_zero, List.set_cons_succ]
  refine takeL 13 2 (v := ?_) rfl (by kernel_rfl) (fun _ _ _ h => h) (by rfl) (by assumption) ?_ ?_
  rotate_left
  · (intro w hSw; (try dsimp only at hSw); go_simp; try with_reducible rfl)
  try simp only [Act.put, List.setIfInBounds_toArray, List.set_cons_zero, List.set_cons_succ]
  refine takeL 14 2 (v := ?_) rfl (by kernel_rfl) (fun _ _ _ h => h) (by rfl) (by assumption) ?_ ?_
  rotate_left
  · (intro w hSw; (try dsimp only at hSw); go_simp; try with_reducible rfl)
  try simp only [Act.put, List.setIfInBounds_toArray, List.set_cons_zero, List.set_cons_succ]
  refine takeL 15 2 (v := ?_) rfl (by kernel_rfl) (fun _ _ _ h => h) (by rfl) (by assumption) ?_ ?_
  rotate_left
  · (intro w hSw; (try dsimp only at hSw); go_simp; try with_reducible rfl)
  try simp only [Act.put, List.setIfInBounds_toArray, List.set_cons_zero, List.set_cons_succ]
  refine takeL 16 2 (v := ?_) rfl (by kernel_rfl) (fun _ _ _ h => h) (by rfl) (by assumption) ?_ ?_
  rotate_left
  · (intro w hSw; (try dsimp only at hSw); go_simp; try with_reducible rfl)
  try simp only [Act.put, List.setIfInBounds_toArray, List.set_cons_zero, List.set_cons_succ]
  refine takeL 17 2 (v := ?_) rfl (by kernel_rfl) (fun _ _ _ h => h) (by rfl) (by assumption) ?_ ?_
  rotate_left
  · (intro w hSw; (try dsimp only at hSw); go_simp; try with_reducible rfl)
  try simp only [Act.put, List.setIfInBounds_toArray, List.set_cons_zero, List.set_cons_succ]
  refine takeL 18 2 (v := ?_) rfl (by kernel_rfl) (fun _ _ _ h => h) (by rfl) (by assumption) ?_ ?_
  rotate_left
  · (intro w hSw; (try dsimp only at hSw); go_simp; try with_reducible rfl)
  try simp only [Act.put, List.setIfInBounds_toArray, List.set_cons_zero, List.set_cons_succ]
  refine oneL 19 rfl (by kernel_rfl) (by rfl) (fun K hK => ?_)
  go_simp
  refine hK.out _ _ (((((Chg.refl w2 Nothing).alloc _).drew)).cell KJ.out id) (fun hHeld => ?_)
  clear hK K
  try simp only [Act.put, List.setIfInBounds_toArray, List.set_cons_zero, List.set_cons_succ]
  refine oneL 20 rfl (by kernel_rfl) (by rfl) (fun K hK => ?_)
  refine step_append_grows (by rfl) _ _ _ (by rfl) 77 i1 (.agg #[.int .i64 0, fl 0]) 2 16 Tryz.underlying45 H1.out.1 H1.out.2.1 H1.out.2.2.1 H1.out.2.2.2 rfl (by omega) aB (s.buf.length) (s.buf.length) (tchV s.buf) (by rfl) RO.out.1 RO.out.2.1 RO.out.2.2 ⟨w2.heap.size, 0, none⟩ 1 1 [.int .i64 c, fl x] (by rfl) (by rfl) HN.out (by simp [Value.oneCell', fl]) (by omega) (by have := HBL.out; unfold maxLen; omega) (by have := HBL.out; omega) ?_
  intro v' w4 hown hgrow
  obtain ⟨⟨a', c', rfl⟩, -⟩ := ownsRow_shape hown
  have hcw : Chg w2 w4 Nothing := (((Chg.refl w2 Nothing).alloc (.cells #[.int .i64 c, fl x] 77)).drew).grown hgrow (by simp)
  have yj := hcw.cell KJ.out id
  have gj := blk_free ((hcw.block q hqw id).trans HR.out.blk) 19
  refine hK.out _ _ yj (fun hHeld => ?_)
  clear hK K
  try simp only [Act.put, List.setIfInBounds_toArray, List.set_cons_zero, List.set_cons_succ]
  refine takeL 21 2 (v := ?_) rfl (by kernel_rfl) (fun _ _ _ h => h) (by rfl) (by assumption) ?_ ?_
  rotate_left
  · (intro w hSw; (try dsimp only at hSw); go_simp; try with_reducible rfl)
  try simp only [Act.put, List.setIfInBounds_toArray, List.set_cons_zero, List.set_cons_succ]
  refine takeL 22 2 (v := ?_) rfl (by kernel_rfl) (fun _ _ _ h => h) (by rfl) (by assumption) ?_ ?_
  rotate_left
  · (intro w hSw; (try dsimp only at hSw); go_simp; try with_reducible rfl)
  try simp only [Act.put, List.setIfInBounds_toArray, List.set_cons_zero, List.set_cons_succ]
  refine lastL rfl (by kernel_rfl) (by kernel_rfl) (fun K hK => ?_)
  go_simp
  refine hK.out _ _ ?_
  clear hK K
  have hS4 := HR.out.bufed hcw (c, x) (ownsRow_base hown (by show _ ≤ (World.alloc _ _).heap.size; rw [World.size_alloc]; exact Nat.le_succ _))
  have hS := Rs.then (H.out.quiet C2.out) S1.out hS4
  clear hS4 hcw hown hgrow yj gj
  obtain ⟨qd, hE⟩ := rask_end H.out HC0.out hS
  have RE := Lib.hid hE
  have q0 : (w4.setCell ⟨q, 19, none⟩ (.slice a' (s.buf.length + 1) c')).cell? ⟨w.heap.size, 0, none⟩ = some (.int .i64 0) := blk_cell qd 0
  have q1 : (w4.setCell ⟨q, 19, none⟩ (.slice a' (s.buf.length + 1) c')).cell? ⟨w.heap.size, 1, none⟩ = some (.int .i64 0) := blk_cell qd 1
  have q2 : (w4.setCell ⟨q, 19, none⟩ (.slice a' (s.buf.length + 1) c')).cell? ⟨w.heap.size, 2, none⟩ = some (.float .f64 0) := blk_cell qd 2
  have q3 : (w4.setCell ⟨q, 19, none⟩ (.slice a' (s.buf.length + 1) c')).cell? ⟨w.heap.size, 3, none⟩ = some (.bool false) := blk_cell qd 3
  have g0 : (w4.setCell ⟨q, 19, none⟩ (.slice a' (s.buf.length + 1) c')).frozen? ⟨w.heap.size, 0, none⟩ = false := blk_free qd 0
  have g1 : (w4.setCell ⟨q, 19, none⟩ (.slice a' (s.buf.length + 1) c')).frozen? ⟨w.heap.size, 1, none⟩ = false := blk_free qd 1
  have g2 : (w4.setCell ⟨q, 19, none⟩ (.slice a' (s.buf.length + 1) c')).frozen? ⟨w.heap.size, 2, none⟩ = false := blk_free qd 2
  have g3 : (w4.setCell ⟨q, 19, none⟩ (.slice a' (s.buf.length + 1) c')).frozen? ⟨w.heap.size, 3, none⟩ = false := blk_free qd 3
  have QE := Lib.hid qd
  clear hS hE qd HC0
  go_wp2_with fail
  exact bodyPost_ret (v := askV ⟨3, c, x, true⟩) (rwrite_results (a := ⟨3, c, x, true⟩) rfl (four_set QE.out)) rfl ⟨rfl, RE.out _ _ _ _⟩
theorem rwrite_old (h : Rm w q lb R s) (hl : s.s.length ≤ 64) (hn : 2 ≤ s.s.length) (ht : s.tag = 2) (hbl : s.buf.length ≤ 4096) (hE : idxE (topN s.s 0) s.cells = 0) (c : Int) (hc : idxI (topN s.s 0) s.cells = c) (x y : Nat) (hx : topN s.s 1 = x) (hg : getN s.buf c = some y) (hnd : (s.buf.map (·.1)).Nodup) :
    Calls Tryz.prog 109 #[.pointer (some ⟨q, 0, none⟩)] w fun e w' => e = .returned (askV ⟨3, c, x, false⟩) ∧ Rs w w' q lb R { s with s := s.s.dropLast.dropLast, buf := putN s.buf c x } := by
  obtain ⟨hq, hlb, hne, hown⟩ := h.qlt
  have hq1 : ¬ q = w.heap.size := by omega
  obtain ⟨-, -, -, c0, c3, c4, -⟩ := h.cellAt
  rw [ht] at c4
  have H := Lib.hid h
  have HL := Lib.hid hl
  have HN := Lib.hid (show 1 ≤ s.s.length by omega)
  have HN2 := Lib.hid hn
  have HE := Lib.hid hE
  have HBL := Lib.hid hbl
  have HCI := Lib.hid hc
  have HG := Lib.hid hg
  have HX := Lib.hid hx
  have ND := Lib.hid hnd
  clear h hl hn hE hown ht hbl hc hg hx hnd
  go_enter Tryz.func109, Tryz.ntmps109
  go_wp2_with fail
  go_quiet (first | (go_at_call 104; exact Calls.quiet_of (rtop0 q lb R s _ (H.out.quiet (((Chg.refl w Nothing).alloc _).drewN _)) HN.out HL.out)) | (go_at_call 136; exact Calls.quiet_of (rindex_ok HE.out HCI.out _)))
  go_wp2_with fail
  with_reducible refine (rtop1 q lb R s _ (H.out.quiet (((Chg.refl w Nothing).alloc _).drewN _)) HN2.out HL.out).mono ?_
  rintro e w1 ⟨rfl, m, rfl⟩
  rw [HX.out]
  go_wp2_with fail
  with_reducible refine (rwrote_some HG.out _ (H.out.quiet (((Chg.refl w Nothing).alloc _).drewN _)) HBL.out).mono ?_
  rintro e w1 ⟨rfl, hc1⟩
  have C1 := Lib.hid (show Chg (w.alloc (.cells ask0 35)) w1 Nothing from ((Chg.refl _ Nothing).drewN (nq + m)).trans hc1 (fun _ _ h => h))
  have CW := Lib.hid (show Chg w w1 Nothing from (((Chg.refl w Nothing).alloc _)).trans C1.out (fun _ _ h => h))
  obtain ⟨-, -, -, -, y3, -⟩ := (H.out.quiet CW.out).cellAt
  obtain ⟨aB, cB, y19⟩ := (H.out.quiet CW.out).bufAt
  clear hc1 c0 c3 c4
  go_wp2_with fail
  go_quiet (fail)
  go_wp2_with fail
  with_reducible refine (rdrop2 q lb R s _ (H.out.quiet (CW.out.drewN _)) HN2.out HL.out).mono ?_
  rintro e w2 ⟨rfl, hS1⟩
  have HC0 := Lib.hid (C1.out.drewN nq)
  have C2 := Lib.hid (CW.out.drewN nq)
  have S1 := Lib.hid hS1
  clear hS1 C1 CW y3 y19
  obtain ⟨vc, vA, vS, vC, vT, vR, vB, cl, hR⟩ := S1.out.rm
  have hqw : q < w2.heap.size := hR.qlt.1
  obtain ⟨aB, cB, rfl, hcap, hlen, hrow⟩ := hR.buf
  obtain ⟨i0, hkn, hi0⟩ := getN_some HG.out
  rcases hrow with ⟨h0, _⟩ | ⟨b, o, rfl, hb, hcl⟩
  · have : s.buf.length = 0 := h0
    have := (List.getElem?_eq_some_iff.1 hi0).1
    omega
  have k19 : w2.cell? ⟨q, 19, none⟩ = some (.slice (some ⟨b, o, none⟩) s.buf.length cB) := blk_cell hR.blk 19
  have f19 := blk_free hR.blk 19
  have HR := Lib.hid hR
  have KN := Lib.hid hkn
  have HCL := Lib.hid (show ∀ j u, (tchV s.buf)[j]? = some u → w2.cell? (Addr.add ⟨b, o, none⟩ j) = some u from fun j u hu => by rw [Addr.add_lit]; exact hcl j u hu)
  clear hR hkn hi0 hcl hb hcap hlen
  go_wp2_with (at_builtin; refine append_any rfl _ _ 45 77 rfl (.agg #[.int .i64 0, fl 0]) 2 16 Tryz.underlying45 (by kernel_rfl) rfl (by decide) _ 0 [] rfl (World.ownsRow_nil _ _ _ _) ⟨b, o, none⟩ s.buf.length cB rfl (tchV s.buf) (tchV_len _) ?c1 (tch_one _) ?c3 ?c4 ?c5)
  case c1 => exact fun j u hu => HCL.out j u hu
  case c3 => have := HBL.out; unfold maxLen; omega
  case c4 => have := HBL.out; omega
  case c5 =>
    intro v w4 hown2 hg2 hgg
    obtain ⟨a', c', rfl⟩ := (ownsRow_shape hown2).1
    (try simp only [Nat.zero_add, List.nil_append] at hown2)
    have hown3 := ownsRow_rebase (base' := w2.heap.size) hown2 (fun g hg => by rcases hgg g hg with h | h; simp [Value.ownBlock] at h; omega)
    have hc4 : Chg w2 w4 Nothing := (Chg.refl w2 Nothing).grown hg2 (by intro k hk; simp [Value.ownBlock] at hk)
    obtain ⟨g, cc, hv⟩ := (ownsRow_shape hown3).2 (by have := (List.getElem?_eq_some_iff.1 KN.out.1.choose_spec).1; omega)
    injection hv with hv _ hv2
    subst hv hv2
    have hgb := hown3.lt g rfl
    have C4 := Lib.hid hc4
    have O3 := Lib.hid hown3
    have y19 := hc4.cell k19 id
    have g19 := blk_free ((hc4.block q hqw id).trans HR.out.blk) 19
    have hqg : q ≠ g := by omega
    obtain ⟨W5, hW5⟩ : ∃ W5, W5 = w4.setCell ⟨q, 19, none⟩ (.slice (some ⟨g, 0, none⟩) s.buf.length c') := ⟨_, rfl⟩
    have k5 : W5.cell? ⟨q, 19, none⟩ = some (.slice (some ⟨g, 0, none⟩) s.buf.length c') := by rw [hW5]; exact blk_cell (blk_set ((hc4.block q hqw id).trans HR.out.blk) 19 _) 19
    have O5 := Lib.hid (show W5.ownsRow w2.heap.size 77 2 (.slice (some ⟨g, 0, none⟩) s.buf.length c') s.buf.length (tchV s.buf) from by rw [hW5]; exact ownsRow_heap O3.out (fun k hk => by simp [Value.ownBlock] at hk; subst hk; exact Below.heap_setCell _ _ _ _ (Ne.symm hqg)))
    have K5 := Lib.hid k5
    have HW5 := Lib.hid hW5
    clear hown2 hg2 hgg hown3 hc4 hW5 k19 f19
    go_wp2_with fail
    rw [← HW5.out]
    have hbl := HBL.out
    go_wp2_with fail
    go_loopg [100] s.buf.length (fun k i wr => ∃ n l', n + k = s.buf.length ∧ i = .int .i64 ((n : Nat) : Int) ∧ LaidTo c x n s.buf l' ∧ wr.ownsRow w2.heap.size 77 2 (.slice (some ⟨g, 0, none⟩) s.buf.length c') s.buf.length (tchV l') ∧ Chg W5 wr (fun k => k = g))
    case atStart => exact ⟨0, _, by simp, rfl, LaidTo.refl _ _ _, O5.out, Chg.refl _ _⟩
    case round =>
      obtain ⟨n, l', hn, rfl, hlt', hrow, hc⟩ := hrel
      have LT := Lib.hid hlt'
      have RW := Lib.hid hrow
      have HC := Lib.hid hc
      have k6 := hc.cell K5.out hqg
      clear hlt' hrow hc k5
      by_cases hlt : n < s.buf.length
      · have hd : decide (n < s.buf.length) = true := by simpa using hlt
        obtain ⟨ci, yi, hx⟩ : ∃ ci yi, s.buf[n]? = some (ci, yi) := ⟨_, _, List.getElem?_eq_getElem hlt⟩
        have hx' : l'[n]? = some (ci, yi) := by have := LT.out.2 n _ hx; rwa [if_neg (by omega)] at this
        obtain ⟨h1, h2⟩ := tchV_at l' n _ hx'
        have x1 := RW.out.cells (g := g) rfl _ _ h1
        have x2 := RW.out.cells (g := g) rfl _ _ h2
        rw [Addr.add_lit, Nat.zero_add] at x1 x2
        have x3 : wr.frozen? ⟨g, n * 2 + 1, none⟩ = false := RW.out.frozenAt _
        dsimp only at x1 x2
        have HX := Lib.hid hx
        have HX2 := Lib.hid hx'
        clear h1 h2 hx hx'
        by_cases e : ci = c
        · subst e
          have hq : (ci == ci) = true := by simp
          have NL := Lib.hid (LT.out.lay HX.out)
          have NO := Lib.hid (show (wr.setCell ⟨g, n * 2 + 1, none⟩ (fl x)).ownsRow w2.heap.size 77 2 (.slice (some ⟨g, 0, none⟩) s.buf.length c') s.buf.length (tchV (l'.set n (ci, x))) from by rw [tchS HX2.out]; exact (RW.out.stored _ _).1)
          have NC := Lib.hid (HC.out.setCell (a := ⟨g, n * 2 + 1, none⟩) (.inr rfl) (fl x))
          go_wp2_with fail
          go_roundg (gk - 1)
          case measure => omega
          case rel => exact ⟨n + 1, _, by omega, by go_num, NL.out, NO.out, NC.out⟩
        · have hq : (ci == c) = false := beq_eq_false_iff_ne.2 e
          have NL := Lib.hid (LT.out.skip HX.out e)
          clear e
          go_wp2_with fail
          go_roundg (gk - 1)
          case measure => omega
          case rel => exact ⟨n + 1, _, by omega, by go_num, NL.out, RW.out, HC.out⟩
      · have hd : decide (n < s.buf.length) = false := by simpa using hlt
        obtain rfl : n = s.buf.length := by omega
        have e1 : l' = putN s.buf c x := LT.out.done KN.out ND.out
        subst e1
        have h6 := HR.out.rebuf C4.out (by rw [← HW5.out]; exact HC.out) RW.out LT.out.1
        have hS := Rs.then (H.out.quiet C2.out) S1.out h6
        clear hn hlt h6 k6
        obtain ⟨qd, hE⟩ := rask_end H.out HC0.out hS
        have RE := Lib.hid hE
        have q0 : (wr).cell? ⟨w.heap.size, 0, none⟩ = some (.int .i64 0) := blk_cell qd 0
        have q1 : (wr).cell? ⟨w.heap.size, 1, none⟩ = some (.int .i64 0) := blk_cell qd 1
        have q2 : (wr).cell? ⟨w.heap.size, 2, none⟩ = some (.float .f64 0) := blk_cell qd 2
        have q3 : (wr).cell? ⟨w.heap.size, 3, none⟩ = some (.bool false) := blk_cell qd 3
        have g0 : (wr).frozen? ⟨w.heap.size, 0, none⟩ = false := blk_free qd 0
        have g1 : (wr).frozen? ⟨w.heap.size, 1, none⟩ = false := blk_free qd 1
        have g2 : (wr).frozen? ⟨w.heap.size, 2, none⟩ = false := blk_free qd 2
        have g3 : (wr).frozen? ⟨w.heap.size, 3, none⟩ = false := blk_free qd 3
        have QE := Lib.hid qd
        clear hS hE qd HC0
        go_wp2_with fail
        exact bodyPost_ret (v := askV ⟨3, c, x, false⟩) (rwrite_results (a := ⟨3, c, x, false⟩) rfl (four_set QE.out)) rfl ⟨rfl, RE.out _ _ _ _⟩
end
end Go.Proofs.YthgllaomafhdkaaGreat
