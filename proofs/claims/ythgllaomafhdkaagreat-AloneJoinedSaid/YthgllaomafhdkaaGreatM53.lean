/- The document's machine: an instruction, the other arms. -/
import Derived.Test.YthgllaomafhdkaaGreatM52
namespace Go.Proofs.YthgllaomafhdkaaGreat
open Go Go.RowKit
set_option maxRecDepth 100000
set_option maxHeartbeats 1000000
set_option linter.unusedVariables false
set_option linter.unusedSimpArgs false

section
variable {w w1 : World} {q lb : Nat} {R : Nat → Prop} {s s0 s' : Mc}
theorem Rm.local_ (h : Rm w q lb R s) {j : Nat} (hj : j < 8) (v : Nat) : Rs w (w.setCell ⟨lb, j, none⟩ (fl v)) q lb R { s with locals := locSet s.locals j v } := by
  have h0 := h
  obtain ⟨vc, vA, vS, vC, vT, vR, vB, cl, hR⟩ := h
  exact Rs.of h0 ⟨_, _, _, _, _, _, _, _, hR.local_ hj v⟩ ((Chg.refl w _).setCell (.inr (.inr rfl)) _) (fun k hk => .inl hk)
theorem Rs.local_ (h0 : Rm w q lb R s0) (h : Rs w w1 q lb R s) {j : Nat} (hj : j < 8) (v : Nat) : Rs w (w1.setCell ⟨lb, j, none⟩ (fl v)) q lb R { s with locals := locSet s.locals j v } := Rs.then h0 h (h.rm.local_ hj v)
theorem Rm.plain (h : Rm w q lb R s) {j : Nat} {v : Value} (hcells : ∀ vc vA vS vC vL vT vR vB, (rcells s vc vA vS vC vL vT vR vB).setIfInBounds j v = rcells s' vc vA vS vC vL vT vR vB)
    (hs : s'.locals = s.locals ∧ s'.code = s.code ∧ s'.args = s.args ∧ s'.s = s.s ∧ s'.calls = s.calls ∧ s'.out = s.out ∧ s'.reads = s.reads ∧ s'.buf = s.buf) : Rs w (w.setCell ⟨q, j, none⟩ v) q lb R s' := by
  have h0 := h
  obtain ⟨vc, vA, vS, vC, vT, vR, vB, cl, hR⟩ := h
  exact Rs.of h0 ⟨_, _, _, _, _, _, _, _, hR.plain (hcells _ _ _ _ _ _ _ _) hs⟩ ((Chg.refl w _).setCell (.inr (.inl rfl)) _) (fun k hk => .inl hk)
theorem Rs.plain (h0 : Rm w q lb R s0) (h : Rs w w1 q lb R s) {j : Nat} {v : Value} (hcells : ∀ vc vA vS vC vL vT vR vB, (rcells s vc vA vS vC vL vT vR vB).setIfInBounds j v = rcells s' vc vA vS vC vL vT vR vB)
    (hs : s'.locals = s.locals ∧ s'.code = s.code ∧ s'.args = s.args ∧ s'.s = s.s ∧ s'.calls = s.calls ∧ s'.out = s.out ∧ s'.reads = s.reads ∧ s'.buf = s.buf) : Rs w (w1.setCell ⟨q, j, none⟩ v) q lb R s' := Rs.then h0 h (h.rm.plain hcells hs)
theorem Rs.goto_ (h0 : Rm w q lb R s0) (h : Rs w w1 q lb R s) (j : Nat) : Rs w (w1.setCell ⟨q, 11, none⟩ (.int .i64 (j : Int))) q lb R { s with at_ := j } := h.plain h0 (fun _ _ _ _ _ _ _ _ => rfl) ⟨rfl, rfl, rfl, rfl, rfl, rfl, rfl, rfl⟩
/-- Fields' cells. -/
theorem Rm.cellAt (h : Rm w q lb R s) : w.cell? ⟨q, 11, none⟩ = some (.int .i64 (s.at_ : Int)) ∧ w.cell? ⟨q, 12, none⟩ = some (.int .i64 (s.used : Int)) ∧ w.cell? ⟨q, 13, none⟩ = some (.int .i64 (if s.waits then s.cell else -1)) ∧ w.cell? ⟨q, 0, none⟩ = some (.int .i64 s.cells) ∧ w.cell? ⟨q, 3, none⟩ = some (.int .i64 s.writes) ∧ w.cell? ⟨q, 4, none⟩ = some (.int .i64 s.tag) ∧ w.cell? ⟨q, 14, none⟩ = some (.int .i64 s.how.1) := by
  obtain ⟨vc, vA, vS, vC, vT, vR, vB, cl, hR⟩ := h
  exact ⟨blk_cell hR.blk 11, blk_cell hR.blk 12, blk_cell hR.blk 13, blk_cell hR.blk 0, blk_cell hR.blk 3, blk_cell hR.blk 4, blk_cell hR.blk 14⟩
theorem Rm.free (h : Rm w q lb R s) (o : Nat) : w.frozen? ⟨q, o, none⟩ = false := by
  obtain ⟨vc, vA, vS, vC, vT, vR, vB, cl, hR⟩ := h
  exact blk_free hR.blk o
theorem RmAt.outed {vc vA vS vC vT vR vB : Value} {cl : Nat} (h : RmAt w q lb R s vc vA vS vC vT vR vB cl) (hc : Chg w w1 Nothing) (y : Nat) {a : Option Addr} {c : Nat} (hown : w1.ownsRow w.heap.size 33 1 (.slice a (s.out.length + 1) c) (s.out.length + 1) (s.out.map fl ++ [fl y])) :
    Rs w (w1.setCell ⟨q, 17, none⟩ (.slice a (s.out.length + 1) c)) q lb R { s with out := s.out ++ [y] } := by
  have hr := h.rowsC hc (R' := fun b => R b ∨ (Value.slice a (s.out.length + 1) c).ownBlock = some b) (fun _ h => .inl h)
  have e1 : (s.out ++ [y]).length = s.out.length + 1 := by simp
  have e2 : (s.out ++ [y]).map fl = s.out.map fl ++ [fl y] := by rw [List.map_append]; rfl
  have hm := h.store (s' := { s with out := s.out ++ [y] }) (j := 17) (v := .slice a (s.out.length + 1) c) (R' := fun b => R b ∨ (Value.slice a (s.out.length + 1) c).ownBlock = some b) hc rfl rfl
    ⟨hr.code, hr.arg, hr.num, hr.cal, by rw [e1, e2]; exact RRow.owned hown (fun b hb => .inr hb), hr.reads, hr.buf⟩ (fun b hb => hb.imp id (fun h => hown.lt b h))
  exact Rs.of ⟨_, _, _, _, _, _, _, _, h⟩ ⟨_, _, _, _, _, _, _, _, hm⟩ ((hc.mono (fun _ _ h => h.elim)).setCell (.inr (.inl rfl)) _) (fun b hb => hb.imp id (fun h => (hown.lt b h).1))
theorem RmAt.readed {vc vA vS vC vT vR vB : Value} {cl : Nat} (h : RmAt w q lb R s vc vA vS vC vT vR vB cl) (hc : Chg w w1 Nothing) (y : Int × Nat) {a : Option Addr} {c : Nat} (hown : w1.ownsRow w.heap.size 77 2 (.slice a (s.reads.length + 1) c) (s.reads.length + 1) (tchV s.reads ++ [.int .i64 y.1, fl y.2])) :
    Rs w (w1.setCell ⟨q, 18, none⟩ (.slice a (s.reads.length + 1) c)) q lb R { s with reads := s.reads ++ [y] } := by
  have hr := h.rowsC hc (R' := fun b => R b ∨ (Value.slice a (s.reads.length + 1) c).ownBlock = some b) (fun _ h => .inl h)
  have e1 : (s.reads ++ [y]).length = s.reads.length + 1 := by simp
  have e2 : tchV (s.reads ++ [y]) = tchV s.reads ++ [.int .i64 y.1, fl y.2] := by unfold tchV; rw [List.flatMap_append]; rfl
  have hm := h.store (s' := { s with reads := s.reads ++ [y] }) (j := 18) (v := .slice a (s.reads.length + 1) c) (R' := fun b => R b ∨ (Value.slice a (s.reads.length + 1) c).ownBlock = some b) hc rfl rfl
    ⟨hr.code, hr.arg, hr.num, hr.cal, hr.out, by rw [e1, e2]; exact RRow.owned hown (fun b hb => .inr hb), hr.buf⟩ (fun b hb => hb.imp id (fun h => hown.lt b h))
  exact Rs.of ⟨_, _, _, _, _, _, _, _, h⟩ ⟨_, _, _, _, _, _, _, _, hm⟩ ((hc.mono (fun _ _ h => h.elim)).setCell (.inr (.inl rfl)) _) (fun b hb => hb.imp id (fun h => (hown.lt b h).1))
theorem RmAt.bufed {vc vA vS vC vT vR vB : Value} {cl : Nat} (h : RmAt w q lb R s vc vA vS vC vT vR vB cl) (hc : Chg w w1 Nothing) (y : Int × Nat) {a : Option Addr} {c : Nat} (hown : w1.ownsRow w.heap.size 77 2 (.slice a (s.buf.length + 1) c) (s.buf.length + 1) (tchV s.buf ++ [.int .i64 y.1, fl y.2])) :
    Rs w (w1.setCell ⟨q, 19, none⟩ (.slice a (s.buf.length + 1) c)) q lb R { s with buf := s.buf ++ [y] } := by
  have hr := h.rowsC hc (R' := fun b => R b ∨ (Value.slice a (s.buf.length + 1) c).ownBlock = some b) (fun _ h => .inl h)
  have e1 : (s.buf ++ [y]).length = s.buf.length + 1 := by simp
  have e2 : tchV (s.buf ++ [y]) = tchV s.buf ++ [.int .i64 y.1, fl y.2] := by unfold tchV; rw [List.flatMap_append]; rfl
  have hm := h.store (s' := { s with buf := s.buf ++ [y] }) (j := 19) (v := .slice a (s.buf.length + 1) c) (R' := fun b => R b ∨ (Value.slice a (s.buf.length + 1) c).ownBlock = some b) hc rfl rfl
    ⟨hr.code, hr.arg, hr.num, hr.cal, hr.out, hr.reads, by rw [e1, e2]; exact RRow.owned hown (fun b hb => .inr hb)⟩ (fun b hb => hb.imp id (fun h => hown.lt b h))
  exact Rs.of ⟨_, _, _, _, _, _, _, _, h⟩ ⟨_, _, _, _, _, _, _, _, hm⟩ ((hc.mono (fun _ _ h => h.elim)).setCell (.inr (.inl rfl)) _) (fun b hb => hb.imp id (fun h => (hown.lt b h).1))
theorem RmAt.called {vc vA vS vC vT vR vB : Value} {cl : Nat} (h : RmAt w q lb R s vc vA vS vC vT vR vB cl) (hc : Chg w w1 Nothing) (y : Int) {a : Option Addr} {c : Nat} (hown : w1.ownsRow w.heap.size 3 1 (.slice a (s.calls.length + 1) c) (s.calls.length + 1) (s.calls.map (Value.int .i64) ++ [.int .i64 y])) :
    Rs w (w1.setCell ⟨q, 9, none⟩ (.slice a (s.calls.length + 1) c)) q lb R { s with calls := s.calls ++ [y] } := by
  have hr := h.rowsC hc (R' := fun b => R b ∨ (Value.slice a (s.calls.length + 1) c).ownBlock = some b) (fun _ h => .inl h)
  have e1 : (s.calls ++ [y]).length = s.calls.length + 1 := by simp
  have e2 : (s.calls ++ [y]).map (Value.int .i64) = s.calls.map (Value.int .i64) ++ [.int .i64 y] := by rw [List.map_append]; rfl
  have hm := h.store (s' := { s with calls := s.calls ++ [y] }) (j := 9) (v := .slice a (s.calls.length + 1) c) (R' := fun b => R b ∨ (Value.slice a (s.calls.length + 1) c).ownBlock = some b) hc rfl rfl
    ⟨hr.code, hr.arg, hr.num, by rw [e1, e2]; exact RRow.owned hown (fun b hb => .inr hb), hr.out, hr.reads, hr.buf⟩ (fun b hb => hb.imp id (fun h => hown.lt b h))
  exact Rs.of ⟨_, _, _, _, _, _, _, _, h⟩ ⟨_, _, _, _, _, _, _, _, hm⟩ ((hc.mono (fun _ _ h => h.elim)).setCell (.inr (.inl rfl)) _) (fun b hb => hb.imp id (fun h => (hown.lt b h).1))
end
section
variable (q lb : Nat) (R : Nat → Prop) (s : Mc) (n : Int) (x : Nat) (w : World)
set_option maxHeartbeats 2000000 in
theorem rdo_8 (h : Rm w q lb R s) (hl : s.s.length ≤ 64) (j : Nat) (hs : 1 ≤ s.s.length) (hj : j < 8) :
    Calls Tryz.prog 76 #[.pointer (some ⟨q, 0, none⟩), insA 8 (j : Int) x] w fun e w' => e = .returned (askV askNone) ∧ Rs w w' q lb R { s with s := s.s.dropLast, locals := locSet s.locals j (topN s.s 0) } := by
  obtain ⟨hq, hlb, hne, hown⟩ := h.qlt
  have hq1 : ¬ q = w.heap.size := by omega
  have hq2 : ¬ q = w.heap.size + 1 := by omega
  have H := Lib.hid h
  have HL := Lib.hid hl
  have HS := Lib.hid hs
  obtain ⟨vc, vA, vS, vC, vT, vR, vB, cl, hR⟩ := h
  have k10 : w.cell? ⟨q, 10, none⟩ = some (.slice (some ⟨lb, 0, none⟩) 8 cl) := blk_cell hR.blk 10
  have kx : w.cell? ⟨lb, j, none⟩ = some (fl (s.locals j)) := by
    have := hR.loc.cells (g := lb) rfl j (fl (s.locals j)) (by rw [List.getElem?_map, eight_at _ _ hj]; rfl)
    rwa [Addr.add_lit, Nat.zero_add] at this
  have fx : w.frozen? ⟨lb, j, none⟩ = false := hR.loc.frozenAt j
  have hji : (j : Int) < 8 := by omega
  have HJ := Lib.hid hj
  have hn1 : ¬ lb = w.heap.size := by omega
  have hn2 : ¬ lb = w.heap.size + 1 := by omega
  clear hl hR hj hs hown
  go_enter Tryz.func76, Tryz.ntmps76
  go_wp2_with fail
  go_region_law (first | (go_simp; go_at_call 104; with_reducible refine (rtop0 q lb R s _ (H.out.quiet ((((Chg.refl w Nothing).alloc _).alloc _).drew)) HS.out HL.out).mono ?_; rintro e w1 ⟨rfl, m, rfl⟩))
  all_goals
    have H0 := H.out.quiet (((Chg.refl w Nothing).alloc (.cells #[.int .i64 8, .int .i64 (j : Int), fl x] 92)).alloc (.cells ask0 35))
    have hS1 := Rs.local_ H0 (Rs.refl H0 ((Chg.refl _ Nothing).drewN (1 + m))) HJ.out (topN s.s 0)
    have S1 := Lib.hid hS1
    have HH0 := Lib.hid H0
    clear H0 hS1 kx fx
    go_wp2_with fail
    refine (rdrop1 q lb _ _ _ S1.out.rm HS.out HL.out).mono ?_
    rintro e w3 ⟨rfl, hS2⟩
    have hS := Rs.then HH0.out S1.out hS2
    have HC0 := Lib.hid (Chg.refl ((w.alloc (.cells #[.int .i64 8, .int .i64 (j : Int), fl x] 92)).alloc (.cells ask0 35)) Nothing)
    clear hS2 S1
    obtain ⟨qd, hE⟩ := rdo_end H.out HC0.out hS
    have RE := Lib.hid hE
    have q0 : w3.cell? ⟨w.heap.size + 1, 0, none⟩ = some (.int .i64 0) := blk_cell qd 0
    have q1 : w3.cell? ⟨w.heap.size + 1, 1, none⟩ = some (.int .i64 0) := blk_cell qd 1
    have q2 : w3.cell? ⟨w.heap.size + 1, 2, none⟩ = some (.float .f64 0) := blk_cell qd 2
    have q3 : w3.cell? ⟨w.heap.size + 1, 3, none⟩ = some (.bool false) := blk_cell qd 3
    have g0 : w3.frozen? ⟨w.heap.size + 1, 0, none⟩ = false := blk_free qd 0
    have g1 : w3.frozen? ⟨w.heap.size + 1, 1, none⟩ = false := blk_free qd 1
    have g2 : w3.frozen? ⟨w.heap.size + 1, 2, none⟩ = false := blk_free qd 2
    have g3 : w3.frozen? ⟨w.heap.size + 1, 3, none⟩ = false := blk_free qd 3
    have QE := Lib.hid qd
    clear hS hE qd HC0
    go_wp2_with fail
    exact bodyPost_ret (v := askV askNone) (rdo_results (a := askNone) rfl (four_set QE.out)) rfl ⟨rfl, RE.out _ _ _ _⟩
set_option maxHeartbeats 2000000 in
theorem rdo_9 (h : Rm w q lb R s) (hl : s.s.length ≤ 64) (hs : 1 ≤ s.s.length) (hnum : ∀ y ∈ s.s, Num y) :
    Calls Tryz.prog 76 #[.pointer (some ⟨q, 0, none⟩), insA 9 n x] w fun e w' => e = .returned (askV askNone) ∧ Rs w w' q lb R { s with s := s.s.dropLast ++ [oneV n (topN s.s 0)] } := by
  obtain ⟨hq, hlb, hne, hown⟩ := h.qlt
  have hq1 : ¬ q = w.heap.size := by omega
  have hq2 : ¬ q = w.heap.size + 1 := by omega
  have H := Lib.hid h
  have HL := Lib.hid hl
  have HX := Lib.hid (topN_num hnum 0).2
  clear hnum
  have HS := Lib.hid hs
  clear h hl hs
  go_enter Tryz.func76, Tryz.ntmps76
  go_wp2_with fail
  go_region_law (first | (go_simp; go_at_call 104; with_reducible refine (rtop0 q lb R s _ (H.out.quiet ((((Chg.refl w Nothing).alloc _).alloc _).drew)) HS.out HL.out).mono ?_; rintro e w1 ⟨rfl, m, rfl⟩) | (go_simp; go_at_call 105; with_reducible refine (rone_any n (topN s.s 0) _ HX.out).mono ?_; rintro e w2 ⟨rfl, hc2⟩))
  all_goals
    have C2 := Lib.hid (show Chg ((w.alloc (.cells #[.int .i64 9, .int .i64 n, fl x] 92)).alloc (.cells ask0 35)) w2 Nothing from ((Chg.refl _ Nothing).drewN (1 + m)).trans hc2 (fun _ _ h => h))
    clear hc2
    go_wp2_with fail
    with_reducible refine (rlay1 q lb R s _ (oneV n (topN s.s 0)) _ _ (H.out.quiet (((((Chg.refl w Nothing).alloc _).alloc _).trans C2.out (fun _ _ h => h)).alloc _)) HS.out HL.out (heap_alloc_new w2 _)).mono ?_
    rintro e w3 ⟨rfl, hS⟩
    have HC0 := Lib.hid (C2.out.alloc (.cells #[fl (oneV n (topN s.s 0))] 33))
    obtain ⟨qd, hE⟩ := rdo_end H.out HC0.out hS
    have RE := Lib.hid hE
    have q0 : w3.cell? ⟨w.heap.size + 1, 0, none⟩ = some (.int .i64 0) := blk_cell qd 0
    have q1 : w3.cell? ⟨w.heap.size + 1, 1, none⟩ = some (.int .i64 0) := blk_cell qd 1
    have q2 : w3.cell? ⟨w.heap.size + 1, 2, none⟩ = some (.float .f64 0) := blk_cell qd 2
    have q3 : w3.cell? ⟨w.heap.size + 1, 3, none⟩ = some (.bool false) := blk_cell qd 3
    have g0 : w3.frozen? ⟨w.heap.size + 1, 0, none⟩ = false := blk_free qd 0
    have g1 : w3.frozen? ⟨w.heap.size + 1, 1, none⟩ = false := blk_free qd 1
    have g2 : w3.frozen? ⟨w.heap.size + 1, 2, none⟩ = false := blk_free qd 2
    have g3 : w3.frozen? ⟨w.heap.size + 1, 3, none⟩ = false := blk_free qd 3
    have QE := Lib.hid qd
    clear hS hE qd HC0
    go_wp2_with fail
    exact bodyPost_ret (v := askV askNone) (rdo_results (a := askNone) rfl (four_set QE.out)) rfl ⟨rfl, RE.out _ _ _ _⟩
set_option maxHeartbeats 2000000 in
theorem rdo_10 (h : Rm w q lb R s) (hl : s.s.length ≤ 64) (hs : 2 ≤ s.s.length) :
    Calls Tryz.prog 76 #[.pointer (some ⟨q, 0, none⟩), insA 10 n x] w fun e w' => e = .returned (askV askNone) ∧ Rs w w' q lb R { s with s := s.s.dropLast.dropLast ++ [twoV n (topN s.s 1) (topN s.s 0)] } := by
  obtain ⟨hq, hlb, hne, hown⟩ := h.qlt
  have hq1 : ¬ q = w.heap.size := by omega
  have hq2 : ¬ q = w.heap.size + 1 := by omega
  have H := Lib.hid h
  have HL := Lib.hid hl
  have HS1 := Lib.hid (show 1 ≤ s.s.length by omega)
  have HS := Lib.hid hs
  clear h hl hs
  go_enter Tryz.func76, Tryz.ntmps76
  go_wp2_with fail
  go_region_law (first | (go_simp; go_at_call 104; with_reducible refine (rtop1 q lb R s _ (H.out.quiet ((((Chg.refl w Nothing).alloc _).alloc _).drew)) HS.out HL.out).mono ?_; rintro e w1 ⟨rfl, m, rfl⟩) | (go_simp; go_at_call 104; with_reducible refine (rtop0 q lb R s _ (H.out.quiet ((((Chg.refl w Nothing).alloc _).alloc _).drewN _)) HS1.out HL.out).mono ?_; rintro e w1 ⟨rfl, m2, rfl⟩) | (go_simp; go_at_call 106; with_reducible refine (rtwo_any n (topN s.s 1) (topN s.s 0) _).mono ?_; rintro e w2 ⟨rfl, hc2⟩))
  all_goals
    have C2 := Lib.hid (show Chg ((w.alloc (.cells #[.int .i64 10, .int .i64 n, fl x] 92)).alloc (.cells ask0 35)) w2 Nothing from ((Chg.refl _ Nothing).drewN _).trans hc2 (fun _ _ h => h))
    clear hc2
    go_wp2_with fail
    with_reducible refine (rlay2 q lb R s _ (twoV n (topN s.s 1) (topN s.s 0)) _ _ (H.out.quiet (((((Chg.refl w Nothing).alloc _).alloc _).trans C2.out (fun _ _ h => h)).alloc _)) HS.out HL.out (heap_alloc_new w2 _)).mono ?_
    rintro e w3 ⟨rfl, hS⟩
    have HC0 := Lib.hid (C2.out.alloc (.cells #[fl (twoV n (topN s.s 1) (topN s.s 0))] 33))
    obtain ⟨qd, hE⟩ := rdo_end H.out HC0.out hS
    have RE := Lib.hid hE
    have q0 : w3.cell? ⟨w.heap.size + 1, 0, none⟩ = some (.int .i64 0) := blk_cell qd 0
    have q1 : w3.cell? ⟨w.heap.size + 1, 1, none⟩ = some (.int .i64 0) := blk_cell qd 1
    have q2 : w3.cell? ⟨w.heap.size + 1, 2, none⟩ = some (.float .f64 0) := blk_cell qd 2
    have q3 : w3.cell? ⟨w.heap.size + 1, 3, none⟩ = some (.bool false) := blk_cell qd 3
    have g0 : w3.frozen? ⟨w.heap.size + 1, 0, none⟩ = false := blk_free qd 0
    have g1 : w3.frozen? ⟨w.heap.size + 1, 1, none⟩ = false := blk_free qd 1
    have g2 : w3.frozen? ⟨w.heap.size + 1, 2, none⟩ = false := blk_free qd 2
    have g3 : w3.frozen? ⟨w.heap.size + 1, 3, none⟩ = false := blk_free qd 3
    have QE := Lib.hid qd
    clear hS hE qd HC0
    go_wp2_with fail
    exact bodyPost_ret (v := askV askNone) (rdo_results (a := askNone) rfl (four_set QE.out)) rfl ⟨rfl, RE.out _ _ _ _⟩
set_option maxHeartbeats 2000000 in
theorem rdo_12_true (h : Rm w q lb R s) (hl : s.s.length ≤ 64) (j : Nat) (hs : 1 ≤ s.s.length) (hb : trueB (topN s.s 0) = true) :
    Calls Tryz.prog 76 #[.pointer (some ⟨q, 0, none⟩), insA 12 (j : Int) x] w fun e w' => e = .returned (askV askNone) ∧ Rs w w' q lb R { s with s := s.s.dropLast, at_ := j } := by
  obtain ⟨hq, hlb, hne, hown⟩ := h.qlt
  have hq1 : ¬ q = w.heap.size := by omega
  have hq2 : ¬ q = w.heap.size + 1 := by omega
  have H := Lib.hid h
  have HL := Lib.hid hl
  have HS := Lib.hid hs
  obtain ⟨c11, -⟩ := h.cellAt
  have f11 := h.free 11
  clear h hl hs hown
  go_enter Tryz.func76, Tryz.ntmps76
  go_wp2_with fail
  go_quiet (first | (go_at_call 104; exact Calls.quiet_of (rtop0 q lb R s _ (H.out.quiet ((((Chg.refl w Nothing).alloc _).alloc _).drewN _)) HS.out HL.out)) | (go_at_call 107; exact Calls.quiet_of_same ((rtrue_any (topN s.s 0) _).mono fun e w' h => ⟨h.1.trans (by rw [hb]), h.2.symm⟩)))
  have H0 := Lib.hid (H.out.quiet (((Chg.refl w Nothing).alloc (.cells #[.int .i64 12, .int .i64 (j : Int), fl x] 92)).alloc (.cells ask0 35)))
  have D1 := Lib.hid (Rs.refl H0.out ((Chg.refl _ Nothing).drewN nq))
  have S1 := Lib.hid (Rs.goto_ H0.out D1.out j)
  clear D1
  go_wp2_with fail
  refine (rdrop1 q lb _ _ _ S1.out.rm HS.out HL.out).mono ?_
  rintro e w3 ⟨rfl, hS2⟩
  have hS := Rs.then H0.out S1.out hS2
  have HC0 := Lib.hid (Chg.refl ((w.alloc (.cells #[.int .i64 12, .int .i64 (j : Int), fl x] 92)).alloc (.cells ask0 35)) Nothing)
  clear hS2 S1
  obtain ⟨qd, hE⟩ := rdo_end H.out HC0.out hS
  have RE := Lib.hid hE
  have q0 : w3.cell? ⟨w.heap.size + 1, 0, none⟩ = some (.int .i64 0) := blk_cell qd 0
  have q1 : w3.cell? ⟨w.heap.size + 1, 1, none⟩ = some (.int .i64 0) := blk_cell qd 1
  have q2 : w3.cell? ⟨w.heap.size + 1, 2, none⟩ = some (.float .f64 0) := blk_cell qd 2
  have q3 : w3.cell? ⟨w.heap.size + 1, 3, none⟩ = some (.bool false) := blk_cell qd 3
  have g0 : w3.frozen? ⟨w.heap.size + 1, 0, none⟩ = false := blk_free qd 0
  have g1 : w3.frozen? ⟨w.heap.size + 1, 1, none⟩ = false := blk_free qd 1
  have g2 : w3.frozen? ⟨w.heap.size + 1, 2, none⟩ = false := blk_free qd 2
  have g3 : w3.frozen? ⟨w.heap.size + 1, 3, none⟩ = false := blk_free qd 3
  have QE := Lib.hid qd
  clear hS hE qd HC0
  go_wp2_with fail
  exact bodyPost_ret (v := askV askNone) (rdo_results (a := askNone) rfl (four_set QE.out)) rfl ⟨rfl, RE.out _ _ _ _⟩
set_option maxHeartbeats 2000000 in
theorem rdo_12_false (h : Rm w q lb R s) (hl : s.s.length ≤ 64) (j : Nat) (hs : 1 ≤ s.s.length) (hb : trueB (topN s.s 0) = false) :
    Calls Tryz.prog 76 #[.pointer (some ⟨q, 0, none⟩), insA 12 (j : Int) x] w fun e w' => e = .returned (askV askNone) ∧ Rs w w' q lb R { s with s := s.s.dropLast } := by
  obtain ⟨hq, hlb, hne, hown⟩ := h.qlt
  have hq1 : ¬ q = w.heap.size := by omega
  have hq2 : ¬ q = w.heap.size + 1 := by omega
  have H := Lib.hid h
  have HL := Lib.hid hl
  have HS := Lib.hid hs
  obtain ⟨c11, -⟩ := h.cellAt
  have f11 := h.free 11
  clear h hl hs hown
  go_enter Tryz.func76, Tryz.ntmps76
  go_wp2_with fail
  go_quiet (first | (go_at_call 104; exact Calls.quiet_of (rtop0 q lb R s _ (H.out.quiet ((((Chg.refl w Nothing).alloc _).alloc _).drewN _)) HS.out HL.out)) | (go_at_call 107; exact Calls.quiet_of_same ((rtrue_any (topN s.s 0) _).mono fun e w' h => ⟨h.1.trans (by rw [hb]), h.2.symm⟩)))
  have H0 := Lib.hid (H.out.quiet (((Chg.refl w Nothing).alloc (.cells #[.int .i64 12, .int .i64 (j : Int), fl x] 92)).alloc (.cells ask0 35)))
  have D1 := Lib.hid (Rs.refl H0.out ((Chg.refl _ Nothing).drewN nq))
  have S1 := D1
  clear D1
  go_wp2_with fail
  refine (rdrop1 q lb _ _ _ S1.out.rm HS.out HL.out).mono ?_
  rintro e w3 ⟨rfl, hS2⟩
  have hS := Rs.then H0.out S1.out hS2
  have HC0 := Lib.hid (Chg.refl ((w.alloc (.cells #[.int .i64 12, .int .i64 (j : Int), fl x] 92)).alloc (.cells ask0 35)) Nothing)
  clear hS2 S1
  obtain ⟨qd, hE⟩ := rdo_end H.out HC0.out hS
  have RE := Lib.hid hE
  have q0 : w3.cell? ⟨w.heap.size + 1, 0, none⟩ = some (.int .i64 0) := blk_cell qd 0
  have q1 : w3.cell? ⟨w.heap.size + 1, 1, none⟩ = some (.int .i64 0) := blk_cell qd 1
  have q2 : w3.cell? ⟨w.heap.size + 1, 2, none⟩ = some (.float .f64 0) := blk_cell qd 2
  have q3 : w3.cell? ⟨w.heap.size + 1, 3, none⟩ = some (.bool false) := blk_cell qd 3
  have g0 : w3.frozen? ⟨w.heap.size + 1, 0, none⟩ = false := blk_free qd 0
  have g1 : w3.frozen? ⟨w.heap.size + 1, 1, none⟩ = false := blk_free qd 1
  have g2 : w3.frozen? ⟨w.heap.size + 1, 2, none⟩ = false := blk_free qd 2
  have g3 : w3.frozen? ⟨w.heap.size + 1, 3, none⟩ = false := blk_free qd 3
  have QE := Lib.hid qd
  clear hS hE qd HC0
  go_wp2_with fail
  exact bodyPost_ret (v := askV askNone) (rdo_results (a := askNone) rfl (four_set QE.out)) rfl ⟨rfl, RE.out _ _ _ _⟩
set_option maxHeartbeats 2000000 in
theorem rdo_13_true (h : Rm w q lb R s) (hl : s.s.length ≤ 64) (j : Nat) (hs : 1 ≤ s.s.length) (hb : trueB (topN s.s 0) = true) :
    Calls Tryz.prog 76 #[.pointer (some ⟨q, 0, none⟩), insA 13 (j : Int) x] w fun e w' => e = .returned (askV askNone) ∧ Rs w w' q lb R { s with s := s.s.dropLast } := by
  obtain ⟨hq, hlb, hne, hown⟩ := h.qlt
  have hq1 : ¬ q = w.heap.size := by omega
  have hq2 : ¬ q = w.heap.size + 1 := by omega
  have H := Lib.hid h
  have HL := Lib.hid hl
  have HS := Lib.hid hs
  obtain ⟨c11, -⟩ := h.cellAt
  have f11 := h.free 11
  clear h hl hs hown
  go_enter Tryz.func76, Tryz.ntmps76
  go_wp2_with fail
  go_quiet (first | (go_at_call 104; exact Calls.quiet_of (rtop0 q lb R s _ (H.out.quiet ((((Chg.refl w Nothing).alloc _).alloc _).drewN _)) HS.out HL.out)) | (go_at_call 107; exact Calls.quiet_of_same ((rtrue_any (topN s.s 0) _).mono fun e w' h => ⟨h.1.trans (by rw [hb]), h.2.symm⟩)))
  have H0 := Lib.hid (H.out.quiet (((Chg.refl w Nothing).alloc (.cells #[.int .i64 13, .int .i64 (j : Int), fl x] 92)).alloc (.cells ask0 35)))
  have D1 := Lib.hid (Rs.refl H0.out ((Chg.refl _ Nothing).drewN nq))
  have S1 := D1
  clear D1
  go_wp2_with fail
  refine (rdrop1 q lb _ _ _ S1.out.rm HS.out HL.out).mono ?_
  rintro e w3 ⟨rfl, hS2⟩
  have hS := Rs.then H0.out S1.out hS2
  have HC0 := Lib.hid (Chg.refl ((w.alloc (.cells #[.int .i64 13, .int .i64 (j : Int), fl x] 92)).alloc (.cells ask0 35)) Nothing)
  clear hS2 S1
  obtain ⟨qd, hE⟩ := rdo_end H.out HC0.out hS
  have RE := Lib.hid hE
  have q0 : w3.cell? ⟨w.heap.size + 1, 0, none⟩ = some (.int .i64 0) := blk_cell qd 0
  have q1 : w3.cell? ⟨w.heap.size + 1, 1, none⟩ = some (.int .i64 0) := blk_cell qd 1
  have q2 : w3.cell? ⟨w.heap.size + 1, 2, none⟩ = some (.float .f64 0) := blk_cell qd 2
  have q3 : w3.cell? ⟨w.heap.size + 1, 3, none⟩ = some (.bool false) := blk_cell qd 3
  have g0 : w3.frozen? ⟨w.heap.size + 1, 0, none⟩ = false := blk_free qd 0
  have g1 : w3.frozen? ⟨w.heap.size + 1, 1, none⟩ = false := blk_free qd 1
  have g2 : w3.frozen? ⟨w.heap.size + 1, 2, none⟩ = false := blk_free qd 2
  have g3 : w3.frozen? ⟨w.heap.size + 1, 3, none⟩ = false := blk_free qd 3
  have QE := Lib.hid qd
  clear hS hE qd HC0
  go_wp2_with fail
  exact bodyPost_ret (v := askV askNone) (rdo_results (a := askNone) rfl (four_set QE.out)) rfl ⟨rfl, RE.out _ _ _ _⟩
set_option maxHeartbeats 2000000 in
theorem rdo_13_false (h : Rm w q lb R s) (hl : s.s.length ≤ 64) (j : Nat) (hs : 1 ≤ s.s.length) (hb : trueB (topN s.s 0) = false) :
    Calls Tryz.prog 76 #[.pointer (some ⟨q, 0, none⟩), insA 13 (j : Int) x] w fun e w' => e = .returned (askV askNone) ∧ Rs w w' q lb R { s with s := s.s.dropLast, at_ := j } := by
  obtain ⟨hq, hlb, hne, hown⟩ := h.qlt
  have hq1 : ¬ q = w.heap.size := by omega
  have hq2 : ¬ q = w.heap.size + 1 := by omega
  have H := Lib.hid h
  have HL := Lib.hid hl
  have HS := Lib.hid hs
  obtain ⟨c11, -⟩ := h.cellAt
  have f11 := h.free 11
  clear h hl hs hown
  go_enter Tryz.func76, Tryz.ntmps76
  go_wp2_with fail
  go_quiet (first | (go_at_call 104; exact Calls.quiet_of (rtop0 q lb R s _ (H.out.quiet ((((Chg.refl w Nothing).alloc _).alloc _).drewN _)) HS.out HL.out)) | (go_at_call 107; exact Calls.quiet_of_same ((rtrue_any (topN s.s 0) _).mono fun e w' h => ⟨h.1.trans (by rw [hb]), h.2.symm⟩)))
  have H0 := Lib.hid (H.out.quiet (((Chg.refl w Nothing).alloc (.cells #[.int .i64 13, .int .i64 (j : Int), fl x] 92)).alloc (.cells ask0 35)))
  have D1 := Lib.hid (Rs.refl H0.out ((Chg.refl _ Nothing).drewN nq))
  have S1 := Lib.hid (Rs.goto_ H0.out D1.out j)
  clear D1
  go_wp2_with fail
  refine (rdrop1 q lb _ _ _ S1.out.rm HS.out HL.out).mono ?_
  rintro e w3 ⟨rfl, hS2⟩
  have hS := Rs.then H0.out S1.out hS2
  have HC0 := Lib.hid (Chg.refl ((w.alloc (.cells #[.int .i64 13, .int .i64 (j : Int), fl x] 92)).alloc (.cells ask0 35)) Nothing)
  clear hS2 S1
  obtain ⟨qd, hE⟩ := rdo_end H.out HC0.out hS
  have RE := Lib.hid hE
  have q0 : w3.cell? ⟨w.heap.size + 1, 0, none⟩ = some (.int .i64 0) := blk_cell qd 0
  have q1 : w3.cell? ⟨w.heap.size + 1, 1, none⟩ = some (.int .i64 0) := blk_cell qd 1
  have q2 : w3.cell? ⟨w.heap.size + 1, 2, none⟩ = some (.float .f64 0) := blk_cell qd 2
  have q3 : w3.cell? ⟨w.heap.size + 1, 3, none⟩ = some (.bool false) := blk_cell qd 3
  have g0 : w3.frozen? ⟨w.heap.size + 1, 0, none⟩ = false := blk_free qd 0
  have g1 : w3.frozen? ⟨w.heap.size + 1, 1, none⟩ = false := blk_free qd 1
  have g2 : w3.frozen? ⟨w.heap.size + 1, 2, none⟩ = false := blk_free qd 2
  have g3 : w3.frozen? ⟨w.heap.size + 1, 3, none⟩ = false := blk_free qd 3
  have QE := Lib.hid qd
  clear hS hE qd HC0
  go_wp2_with fail
  exact bodyPost_ret (v := askV askNone) (rdo_results (a := askNone) rfl (four_set QE.out)) rfl ⟨rfl, RE.out _ _ _ _⟩
end
end Go.Proofs.YthgllaomafhdkaaGreat
