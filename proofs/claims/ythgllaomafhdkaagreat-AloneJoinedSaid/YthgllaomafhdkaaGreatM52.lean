/- The document's machine: an instruction, arm by arm. -/
import Derived.Test.YthgllaomafhdkaaGreatM51
namespace Go.Proofs.YthgllaomafhdkaaGreat
open Go Go.RowKit
set_option maxRecDepth 100000
set_option maxHeartbeats 1000000
set_option linter.unusedVariables false
set_option linter.unusedSimpArgs false

theorem rthree {w : World} {a b : Obj} {cs : Array Value} {T : TypeId} : (((w.alloc a).alloc b).alloc (.cells cs T)).heap[w.heap.size + 1 + 1]? = some (.cells cs T (0, 0)) := by
  rw [show w.heap.size + 1 + 1 = (w.alloc a).heap.size + 1 by simp]
  exact step_blk
theorem rthreeD {w : World} {a b : Obj} {m : Nat} {cs : Array Value} {T : TypeId} : ((((w.alloc a).alloc b).drewN m).alloc (.cells cs T)).heap[w.heap.size + 1 + 1]? = some (.cells cs T (0, 0)) := by
  have h := heap_alloc_new (((w.alloc a).alloc b).drewN m) (.cells cs T)
  rw [show (((w.alloc a).alloc b).drewN m).heap.size = w.heap.size + 1 + 1 from by show ((w.alloc a).alloc b).heap.size = _; simp] at h
  exact h
theorem two_blk {w X : World} {a : Obj} {cs : Array Value} {T : TypeId} (e : X.heap.size = w.heap.size) : ((X.alloc a).alloc (.cells cs T)).heap[w.heap.size + 1]? = some (.cells cs T (0, 0)) := by
  rw [← e]
  exact step_blk
theorem eight_set (f : Nat → Nat) (v : Nat) : ∀ j, j < 8 → ((eightN f).map fl).set j (fl v) = (eightN (locSet f j v)).map fl
  | 0, _ => rfl | 1, _ => rfl | 2, _ => rfl | 3, _ => rfl | 4, _ => rfl | 5, _ => rfl | 6, _ => rfl | 7, _ => rfl | k + 8, h => by omega
/-- A local was stored. -/
theorem RmAt.local_ {w : World} {q lb cl : Nat} {R : Nat → Prop} {s : Mc} {vc vA vS vC vT vR vB : Value} (h : RmAt w q lb R s vc vA vS vC vT vR vB cl) {j : Nat} (hj : j < 8) (v : Nat) :
    RmAt (w.setCell ⟨lb, j, none⟩ (fl v)) q lb R { s with locals := locSet s.locals j v } vc vA vS vC vT vR vB cl := by
  have e : (w.setCell ⟨lb, j, none⟩ (fl v)).heap.size = w.heap.size := by simp [World.setCell]
  have hr := h.rows.move (w' := w.setCell ⟨lb, j, none⟩ (fl v)) (R' := R) (fun b hb => ⟨hb, Below.heap_setCell _ _ _ _ (h.own b hb).2.2⟩)
  refine ⟨(Below.heap_setCell _ _ _ _ h.ne).trans h.blk, ?_, h.ne, fun k hk => by rw [e]; exact h.own k hk, hr.code, hr.arg, hr.num, hr.cal, hr.out, hr.reads, hr.buf⟩
  have := (h.loc.stored j (fl v)).1
  rw [eight_set _ _ j hj] at this
  exact this
section
variable {w W0 w3 : World} {q lb : Nat} {R : Nat → Prop} {s s' : Mc} {bx : Obj}
/-- The end of an arm: the answer is laid. -/
theorem rdo_end (h0 : Rm w q lb R s) (hc0 : Chg ((w.alloc bx).alloc (.cells ask0 35)) W0 Nothing) (h : Rs W0 w3 q lb R s') :
    w3.heap[w.heap.size + 1]? = some (.cells ask0 35 (0, 0)) ∧ ∀ a c d e, Rs w ((((w3.setCell ⟨w.heap.size + 1, 0, none⟩ a).setCell ⟨w.heap.size + 1, 1, none⟩ c).setCell ⟨w.heap.size + 1, 2, none⟩ d).setCell ⟨w.heap.size + 1, 3, none⟩ e) q lb R s' := by
  obtain ⟨q1, q2, q3, q4⟩ := h0.qlt
  have e0 : W0.heap[w.heap.size + 1]? = some (.cells ask0 35 (0, 0)) := (hc0.block _ (by simp) id).trans step_blk
  have hl := blk_lt e0
  have hcw : Chg w W0 Nothing := (((Chg.refl w Nothing).alloc _).alloc _).trans hc0 (fun _ _ h => h)
  exact ⟨(h.chg.block _ hl (by omega)).trans e0, fun a c d e => Rs.asked h0 hcw h four_chg (by omega) hl⟩
theorem trade_push (s : Mc) (l : List Nat) : s.trade s.s.length l = { s with s := s.s ++ l } := by unfold Mc.trade; rw [List.take_length]
theorem trade_one {k : Nat} (l : List Nat) (h : s.s.length = k + 1) : s.trade k l = { s with s := s.s.dropLast ++ l } := by
  unfold Mc.trade
  rw [List.dropLast_eq_take, h, Nat.add_sub_cancel]
theorem trade_two {k : Nat} (l : List Nat) (h : s.s.length = k + 2) : s.trade k l = { s with s := s.s.dropLast.dropLast ++ l } := by
  unfold Mc.trade
  rw [List.dropLast_eq_take, List.dropLast_eq_take, List.length_take, h, List.take_take]
  congr 2
  congr 1
  omega
theorem trade_drop {k : Nat} (h : s.s.length = k + 1) : s.trade k [] = { s with s := s.s.dropLast } := by rw [trade_one [] h, List.append_nil]
end

section
variable (q lb : Nat) (R : Nat → Prop) (s : Mc) (w : World)
theorem rtop0 (h : Rm w q lb R s) (hn : 1 ≤ s.s.length) (hl : s.s.length ≤ 64) :
    Calls Tryz.prog 104 #[.pointer (some ⟨q, 0, none⟩), .int .i64 0] w fun e w' => e = .returned (fl (topN s.s 0)) ∧ ∃ m, w' = w.drewN m := rtop_any q lb R s 0 w h hn hl
theorem rtop1 (h : Rm w q lb R s) (hn : 2 ≤ s.s.length) (hl : s.s.length ≤ 64) :
    Calls Tryz.prog 104 #[.pointer (some ⟨q, 0, none⟩), .int .i64 1] w fun e w' => e = .returned (fl (topN s.s 1)) ∧ ∃ m, w' = w.drewN m := rtop_any q lb R s 1 w h hn hl
theorem rdrop1 (h : Rm w q lb R s) (hn : 1 ≤ s.s.length) (hl : s.s.length ≤ 64) :
    Calls Tryz.prog 77 #[.pointer (some ⟨q, 0, none⟩), .int .i64 1, .slice none 0 0] w fun e w' => e = .returned (.tuple #[]) ∧ Rs w w' q lb R { s with s := s.s.dropLast } := by
  obtain ⟨k, hk⟩ : ∃ k, s.s.length = k + 1 := ⟨s.s.length - 1, by omega⟩
  have := rtrade_none q lb R s k 1 w h hk hl
  rw [trade_drop hk] at this
  exact this
theorem rdrop2 (h : Rm w q lb R s) (hn : 2 ≤ s.s.length) (hl : s.s.length ≤ 64) :
    Calls Tryz.prog 77 #[.pointer (some ⟨q, 0, none⟩), .int .i64 2, .slice none 0 0] w fun e w' => e = .returned (.tuple #[]) ∧ Rs w w' q lb R { s with s := s.s.dropLast.dropLast } := by
  obtain ⟨k, hk⟩ : ∃ k, s.s.length = k + 2 := ⟨s.s.length - 2, by omega⟩
  have := rtrade_none q lb R s k 2 w h hk hl
  rw [trade_two [] hk, List.append_nil] at this
  exact this
theorem rlay0 (a b lc : Nat) (h : Rm w q lb R s) (hl : s.s.length ≤ 64) (hb : w.heap[b]? = some (.cells #[fl a] 33 (0, 0))) :
    Calls Tryz.prog 77 #[.pointer (some ⟨q, 0, none⟩), .int .i64 0, .slice (some ⟨b, 0, none⟩) 1 lc] w fun e w' => e = .returned (.tuple #[]) ∧ Rs w w' q lb R { s with s := s.s ++ [a] } := by
  have := rtrade_more q lb R s s.s.length 0 1 lc [a] ⟨b, 0, none⟩ w h rfl hl rfl (by decide) (by decide) (World.news_of_block (cs := #[fl a]) (t := 33) (fr := (0, 0)) hb)
  rw [trade_push] at this
  exact this
theorem rlay1 (a b lc : Nat) (h : Rm w q lb R s) (hn : 1 ≤ s.s.length) (hl : s.s.length ≤ 64) (hb : w.heap[b]? = some (.cells #[fl a] 33 (0, 0))) :
    Calls Tryz.prog 77 #[.pointer (some ⟨q, 0, none⟩), .int .i64 1, .slice (some ⟨b, 0, none⟩) 1 lc] w fun e w' => e = .returned (.tuple #[]) ∧ Rs w w' q lb R { s with s := s.s.dropLast ++ [a] } := by
  obtain ⟨k, hk⟩ : ∃ k, s.s.length = k + 1 := ⟨s.s.length - 1, by omega⟩
  have := rtrade_more q lb R s k 1 1 lc [a] ⟨b, 0, none⟩ w h hk hl rfl (by decide) (by decide) (World.news_of_block (cs := #[fl a]) (t := 33) (fr := (0, 0)) hb)
  rw [trade_one _ hk] at this
  exact this
theorem rlay2 (a b lc : Nat) (h : Rm w q lb R s) (hn : 2 ≤ s.s.length) (hl : s.s.length ≤ 64) (hb : w.heap[b]? = some (.cells #[fl a] 33 (0, 0))) :
    Calls Tryz.prog 77 #[.pointer (some ⟨q, 0, none⟩), .int .i64 2, .slice (some ⟨b, 0, none⟩) 1 lc] w fun e w' => e = .returned (.tuple #[]) ∧ Rs w w' q lb R { s with s := s.s.dropLast.dropLast ++ [a] } := by
  obtain ⟨k, hk⟩ : ∃ k, s.s.length = k + 2 := ⟨s.s.length - 2, by omega⟩
  have := rtrade_more q lb R s k 2 1 lc [a] ⟨b, 0, none⟩ w h hk hl rfl (by decide) (by decide) (World.news_of_block (cs := #[fl a]) (t := 33) (fr := (0, 0)) hb)
  rw [trade_two _ hk] at this
  exact this
theorem rlay22 (a a' b lc : Nat) (h : Rm w q lb R s) (hn : 2 ≤ s.s.length) (hl : s.s.length ≤ 64) (hb : w.heap[b]? = some (.cells #[fl a, fl a'] 33 (0, 0))) :
    Calls Tryz.prog 77 #[.pointer (some ⟨q, 0, none⟩), .int .i64 2, .slice (some ⟨b, 0, none⟩) 2 lc] w fun e w' => e = .returned (.tuple #[]) ∧ Rs w w' q lb R { s with s := s.s.dropLast.dropLast ++ [a, a'] } := by
  obtain ⟨k, hk⟩ : ∃ k, s.s.length = k + 2 := ⟨s.s.length - 2, by omega⟩
  have := rtrade_more q lb R s k 2 2 lc [a, a'] ⟨b, 0, none⟩ w h hk hl rfl (by decide) (by decide) (World.news_of_block (cs := #[fl a, fl a']) (t := 33) (fr := (0, 0)) hb)
  rw [trade_two _ hk] at this
  exact this
end

section
variable (q lb : Nat) (R : Nat → Prop) (s : Mc) (n : Int) (x : Nat) (w : World)
set_option maxHeartbeats 2000000 in
theorem rdo_1 (h : Rm w q lb R s) (hl : s.s.length ≤ 64) :
    Calls Tryz.prog 76 #[.pointer (some ⟨q, 0, none⟩), insA 1 n x] w fun e w' => e = .returned (askV askNone) ∧ Rs w w' q lb R { s with s := s.s ++ [fixB x] } := by
  obtain ⟨hq, hlb, hne, hown⟩ := h.qlt
  have hq1 : ¬ q = w.heap.size := by omega
  have hq2 : ¬ q = w.heap.size + 1 := by omega
  have H := Lib.hid h
  have HL := Lib.hid hl
  clear h hl
  go_enter Tryz.func76, Tryz.ntmps76
  go_wp2_with fail
  with_reducible refine (rfix_any x _).mono ?_
  rintro e w1 ⟨rfl, rfl⟩
  go_wp2_with fail
  with_reducible refine (rlay0 q lb R s _ (fixB x) _ _ (H.out.quiet ((((Chg.refl w Nothing).alloc _).alloc _).alloc _)) HL.out rthree).mono ?_
  rintro e w3 ⟨rfl, hS⟩
  have HC0 := Lib.hid ((Chg.refl ((w.alloc (.cells #[.int .i64 1, .int .i64 n, fl x] 92)).alloc (.cells ask0 35)) Nothing).alloc (.cells #[fl (fixB x)] 33))
  obtain ⟨qd, hE⟩ := rdo_end H.out HC0.out hS
  have RE := Lib.hid hE
  have q0 : w3.cell? ⟨w.heap.size + 1, 0, none⟩ = some (.int .i64 0) := blk_cell qd 0
  have q1 : w3.cell? ⟨w.heap.size + 1, 1, none⟩ = some (.int .i64 0) := blk_cell qd 1
  have q2 : w3.cell? ⟨w.heap.size + 1, 2, none⟩ = some (.float .f64 0) := blk_cell qd 2
  have q3 : w3.cell? ⟨w.heap.size + 1, 3, none⟩ = some (.bool false) := blk_cell qd 3
  have g0 : w3.frozen? ⟨w.heap.size + 1, 0, none⟩ = false := blk_free qd 0
  have g1 : w3.frozen? ⟨w.heap.size + 1, 1, none⟩ = false := blk_free qd 1
  have g2 : w3.frozen? ⟨w.heap.size + 1, 2, none⟩ = false := blk_free qd 2
  have g3 : w3.frozen? ⟨w.heap.size + 1, 3, none⟩ = false := blk_free qd 3
  have QE := Lib.hid qd
  clear hS hE qd HC0
  go_wp2_with fail
  exact bodyPost_ret (v := askV askNone) (rdo_results (a := askNone) rfl (four_set QE.out)) rfl ⟨rfl, RE.out _ _ _ _⟩
set_option maxHeartbeats 2000000 in
theorem rdo_2 (h : Rm w q lb R s) (hl : s.s.length ≤ 64) (hs : 1 ≤ s.s.length) :
    Calls Tryz.prog 76 #[.pointer (some ⟨q, 0, none⟩), insA 2 n x] w fun e w' => e = .returned (askV askNone) ∧ Rs w w' q lb R { s with s := s.s.dropLast } := by
  obtain ⟨hq, hlb, hne, hown⟩ := h.qlt
  have hq1 : ¬ q = w.heap.size := by omega
  have hq2 : ¬ q = w.heap.size + 1 := by omega
  have H := Lib.hid h
  have HL := Lib.hid hl
  have HS := Lib.hid hs
  clear h hl hs
  go_enter Tryz.func76, Tryz.ntmps76
  go_wp2_with fail
  with_reducible refine (rdrop1 q lb R s _ (H.out.quiet (((Chg.refl w Nothing).alloc _).alloc _)) HS.out HL.out).mono ?_
  rintro e w3 ⟨rfl, hS⟩
  have HC0 := Lib.hid (Chg.refl ((w.alloc (.cells #[.int .i64 2, .int .i64 n, fl x] 92)).alloc (.cells ask0 35)) Nothing)
  obtain ⟨qd, hE⟩ := rdo_end H.out HC0.out hS
  have RE := Lib.hid hE
  have q0 : w3.cell? ⟨w.heap.size + 1, 0, none⟩ = some (.int .i64 0) := blk_cell qd 0
  have q1 : w3.cell? ⟨w.heap.size + 1, 1, none⟩ = some (.int .i64 0) := blk_cell qd 1
  have q2 : w3.cell? ⟨w.heap.size + 1, 2, none⟩ = some (.float .f64 0) := blk_cell qd 2
  have q3 : w3.cell? ⟨w.heap.size + 1, 3, none⟩ = some (.bool false) := blk_cell qd 3
  have g0 : w3.frozen? ⟨w.heap.size + 1, 0, none⟩ = false := blk_free qd 0
  have g1 : w3.frozen? ⟨w.heap.size + 1, 1, none⟩ = false := blk_free qd 1
  have g2 : w3.frozen? ⟨w.heap.size + 1, 2, none⟩ = false := blk_free qd 2
  have g3 : w3.frozen? ⟨w.heap.size + 1, 3, none⟩ = false := blk_free qd 3
  have QE := Lib.hid qd
  clear hS hE qd HC0
  go_wp2_with fail
  exact bodyPost_ret (v := askV askNone) (rdo_results (a := askNone) rfl (four_set QE.out)) rfl ⟨rfl, RE.out _ _ _ _⟩
set_option maxHeartbeats 2000000 in
theorem rdo_3 (h : Rm w q lb R s) (hl : s.s.length ≤ 64) (hs : 1 ≤ s.s.length) :
    Calls Tryz.prog 76 #[.pointer (some ⟨q, 0, none⟩), insA 3 n x] w fun e w' => e = .returned (askV askNone) ∧ Rs w w' q lb R { s with s := s.s ++ [topN s.s 0] } := by
  obtain ⟨hq, hlb, hne, hown⟩ := h.qlt
  have hq1 : ¬ q = w.heap.size := by omega
  have hq2 : ¬ q = w.heap.size + 1 := by omega
  have H := Lib.hid h
  have HL := Lib.hid hl
  have HS := Lib.hid hs
  clear h hl hs
  go_enter Tryz.func76, Tryz.ntmps76
  go_wp2_with fail
  with_reducible refine (rtop0 q lb R s _ (H.out.quiet (((Chg.refl w Nothing).alloc _).alloc _)) HS.out HL.out).mono ?_
  rintro e w1 ⟨rfl, m, rfl⟩
  go_wp2_with fail
  with_reducible refine (rlay0 q lb R s _ (topN s.s 0) _ _ (H.out.quiet (((((Chg.refl w Nothing).alloc _).alloc _).drewN m).alloc _)) HL.out rthreeD).mono ?_
  rintro e w3 ⟨rfl, hS⟩
  have HC0 := Lib.hid (((Chg.refl ((w.alloc (.cells #[.int .i64 3, .int .i64 n, fl x] 92)).alloc (.cells ask0 35)) Nothing).drewN m).alloc (.cells #[fl (topN s.s 0)] 33))
  obtain ⟨qd, hE⟩ := rdo_end H.out HC0.out hS
  have RE := Lib.hid hE
  have q0 : w3.cell? ⟨w.heap.size + 1, 0, none⟩ = some (.int .i64 0) := blk_cell qd 0
  have q1 : w3.cell? ⟨w.heap.size + 1, 1, none⟩ = some (.int .i64 0) := blk_cell qd 1
  have q2 : w3.cell? ⟨w.heap.size + 1, 2, none⟩ = some (.float .f64 0) := blk_cell qd 2
  have q3 : w3.cell? ⟨w.heap.size + 1, 3, none⟩ = some (.bool false) := blk_cell qd 3
  have g0 : w3.frozen? ⟨w.heap.size + 1, 0, none⟩ = false := blk_free qd 0
  have g1 : w3.frozen? ⟨w.heap.size + 1, 1, none⟩ = false := blk_free qd 1
  have g2 : w3.frozen? ⟨w.heap.size + 1, 2, none⟩ = false := blk_free qd 2
  have g3 : w3.frozen? ⟨w.heap.size + 1, 3, none⟩ = false := blk_free qd 3
  have QE := Lib.hid qd
  clear hS hE qd HC0
  go_wp2_with fail
  exact bodyPost_ret (v := askV askNone) (rdo_results (a := askNone) rfl (four_set QE.out)) rfl ⟨rfl, RE.out _ _ _ _⟩
set_option maxHeartbeats 2000000 in
theorem rdo_4 (h : Rm w q lb R s) (hl : s.s.length ≤ 64) (hs : 2 ≤ s.s.length) :
    Calls Tryz.prog 76 #[.pointer (some ⟨q, 0, none⟩), insA 4 n x] w fun e w' => e = .returned (askV askNone) ∧ Rs w w' q lb R { s with s := s.s.dropLast.dropLast ++ [topN s.s 0, topN s.s 1] } := by
  obtain ⟨hq, hlb, hne, hown⟩ := h.qlt
  have hq1 : ¬ q = w.heap.size := by omega
  have hq2 : ¬ q = w.heap.size + 1 := by omega
  have H := Lib.hid h
  have HL := Lib.hid hl
  have HS1 := Lib.hid (show 1 ≤ s.s.length by omega)
  have HS := Lib.hid hs
  clear h hl hs
  go_enter Tryz.func76, Tryz.ntmps76
  go_wp2_with fail
  with_reducible refine (rtop0 q lb R s _ (H.out.quiet (((Chg.refl w Nothing).alloc _).alloc _)) HS1.out HL.out).mono ?_
  rintro e w1 ⟨rfl, m, rfl⟩
  go_wp2_with fail
  with_reducible refine (rtop1 q lb R s _ (H.out.quiet ((((Chg.refl w Nothing).alloc _).alloc _).drewN m)) HS.out HL.out).mono ?_
  rintro e w1 ⟨rfl, m2, rfl⟩
  go_wp2_with fail
  with_reducible refine (rlay22 q lb R s _ (topN s.s 0) (topN s.s 1) _ _ (H.out.quiet (((((Chg.refl w Nothing).alloc _).alloc _).drewN _).alloc _)) HS.out HL.out rthreeD).mono ?_
  rintro e w3 ⟨rfl, hS⟩
  have HC0 := Lib.hid (((Chg.refl ((w.alloc (.cells #[.int .i64 4, .int .i64 n, fl x] 92)).alloc (.cells ask0 35)) Nothing).drewN (m + m2)).alloc (.cells #[fl (topN s.s 0), fl (topN s.s 1)] 33))
  obtain ⟨qd, hE⟩ := rdo_end H.out HC0.out hS
  have RE := Lib.hid hE
  have q0 : w3.cell? ⟨w.heap.size + 1, 0, none⟩ = some (.int .i64 0) := blk_cell qd 0
  have q1 : w3.cell? ⟨w.heap.size + 1, 1, none⟩ = some (.int .i64 0) := blk_cell qd 1
  have q2 : w3.cell? ⟨w.heap.size + 1, 2, none⟩ = some (.float .f64 0) := blk_cell qd 2
  have q3 : w3.cell? ⟨w.heap.size + 1, 3, none⟩ = some (.bool false) := blk_cell qd 3
  have g0 : w3.frozen? ⟨w.heap.size + 1, 0, none⟩ = false := blk_free qd 0
  have g1 : w3.frozen? ⟨w.heap.size + 1, 1, none⟩ = false := blk_free qd 1
  have g2 : w3.frozen? ⟨w.heap.size + 1, 2, none⟩ = false := blk_free qd 2
  have g3 : w3.frozen? ⟨w.heap.size + 1, 3, none⟩ = false := blk_free qd 3
  have QE := Lib.hid qd
  clear hS hE qd HC0
  go_wp2_with fail
  exact bodyPost_ret (v := askV askNone) (rdo_results (a := askNone) rfl (four_set QE.out)) rfl ⟨rfl, RE.out _ _ _ _⟩
set_option maxHeartbeats 2000000 in
theorem rdo_5 (h : Rm w q lb R s) (hl : s.s.length ≤ 64) (j : Nat) (hj : j < s.s.length) :
    Calls Tryz.prog 76 #[.pointer (some ⟨q, 0, none⟩), insA 5 (j : Int) x] w fun e w' => e = .returned (askV askNone) ∧ Rs w w' q lb R { s with s := s.s ++ [topN s.s j] } := by
  obtain ⟨hq, hlb, hne, hown⟩ := h.qlt
  have hq1 : ¬ q = w.heap.size := by omega
  have hq2 : ¬ q = w.heap.size + 1 := by omega
  have H := Lib.hid h
  have HL := Lib.hid hl
  have HJ := Lib.hid hj
  clear h hl hj
  go_enter Tryz.func76, Tryz.ntmps76
  go_wp2_with fail
  with_reducible refine (rtop_any q lb R s j _ (H.out.quiet (((Chg.refl w Nothing).alloc _).alloc _)) HJ.out HL.out).mono ?_
  rintro e w1 ⟨rfl, m, rfl⟩
  go_wp2_with fail
  with_reducible refine (rlay0 q lb R s _ (topN s.s j) _ _ (H.out.quiet (((((Chg.refl w Nothing).alloc _).alloc _).drewN m).alloc _)) HL.out rthreeD).mono ?_
  rintro e w3 ⟨rfl, hS⟩
  have HC0 := Lib.hid (((Chg.refl ((w.alloc (.cells #[.int .i64 5, .int .i64 (j : Int), fl x] 92)).alloc (.cells ask0 35)) Nothing).drewN m).alloc (.cells #[fl (topN s.s j)] 33))
  obtain ⟨qd, hE⟩ := rdo_end H.out HC0.out hS
  have RE := Lib.hid hE
  have q0 : w3.cell? ⟨w.heap.size + 1, 0, none⟩ = some (.int .i64 0) := blk_cell qd 0
  have q1 : w3.cell? ⟨w.heap.size + 1, 1, none⟩ = some (.int .i64 0) := blk_cell qd 1
  have q2 : w3.cell? ⟨w.heap.size + 1, 2, none⟩ = some (.float .f64 0) := blk_cell qd 2
  have q3 : w3.cell? ⟨w.heap.size + 1, 3, none⟩ = some (.bool false) := blk_cell qd 3
  have g0 : w3.frozen? ⟨w.heap.size + 1, 0, none⟩ = false := blk_free qd 0
  have g1 : w3.frozen? ⟨w.heap.size + 1, 1, none⟩ = false := blk_free qd 1
  have g2 : w3.frozen? ⟨w.heap.size + 1, 2, none⟩ = false := blk_free qd 2
  have g3 : w3.frozen? ⟨w.heap.size + 1, 3, none⟩ = false := blk_free qd 3
  have QE := Lib.hid qd
  clear hS hE qd HC0
  go_wp2_with fail
  exact bodyPost_ret (v := askV askNone) (rdo_results (a := askNone) rfl (four_set QE.out)) rfl ⟨rfl, RE.out _ _ _ _⟩
set_option maxHeartbeats 2000000 in
theorem rdo_6 (h : Rm w q lb R s) (hl : s.s.length ≤ 64) (j : Nat) (hj : j < 8) :
    Calls Tryz.prog 76 #[.pointer (some ⟨q, 0, none⟩), insA 6 (j : Int) x] w fun e w' => e = .returned (askV askNone) ∧ Rs w w' q lb R { s with s := s.s ++ [s.args j] } := by
  obtain ⟨hq, hlb, hne, hown⟩ := h.qlt
  have hq1 : ¬ q = w.heap.size := by omega
  have hq2 : ¬ q = w.heap.size + 1 := by omega
  have H := Lib.hid h
  have HL := Lib.hid hl
  obtain ⟨vc, vA, vS, vC, vT, vR, vB, cl, hR⟩ := h
  obtain ⟨aA, cA, rfl, hcA, hlA, hrow⟩ := hR.arg
  rcases hrow with ⟨h0, _⟩ | ⟨b, o, rfl, hb, hc⟩
  · omega
  have k7 : w.cell? ⟨q, 7, none⟩ = some (.slice (some ⟨b, o, none⟩) 8 cA) := blk_cell hR.blk 7
  have kx : w.cell? ⟨b, o + j, none⟩ = some (fl (s.args j)) := hc j _ (by rw [List.getElem?_map, eight_at _ _ hj]; rfl)
  have hbl := (hown b hb).1
  clear hc hb hlA hcA
  have hji : (j : Int) < 8 := by omega
  clear hl hR hj hown
  go_enter Tryz.func76, Tryz.ntmps76
  go_wp2_with fail
  go_region_law (first | (go_simp; go_at_call 77; refine (rlay0 q lb R s _ (s.args j) _ _ (H.out.quiet ((((Chg.refl w Nothing).alloc _).alloc _).alloc _).drew) HL.out rthree).mono ?_; rintro e w3 ⟨rfl, hS⟩))
  all_goals
    have HC0 := Lib.hid (((Chg.refl ((w.alloc (.cells #[.int .i64 6, .int .i64 (j : Int), fl x] 92)).alloc (.cells ask0 35)) Nothing).alloc (.cells #[fl (s.args j)] 33)).drew)
    obtain ⟨qd, hE⟩ := rdo_end H.out HC0.out hS
    have RE := Lib.hid hE
    have q0 : w3.cell? ⟨w.heap.size + 1, 0, none⟩ = some (.int .i64 0) := blk_cell qd 0
    have q1 : w3.cell? ⟨w.heap.size + 1, 1, none⟩ = some (.int .i64 0) := blk_cell qd 1
    have q2 : w3.cell? ⟨w.heap.size + 1, 2, none⟩ = some (.float .f64 0) := blk_cell qd 2
    have q3 : w3.cell? ⟨w.heap.size + 1, 3, none⟩ = some (.bool false) := blk_cell qd 3
    have g0 : w3.frozen? ⟨w.heap.size + 1, 0, none⟩ = false := blk_free qd 0
    have g1 : w3.frozen? ⟨w.heap.size + 1, 1, none⟩ = false := blk_free qd 1
    have g2 : w3.frozen? ⟨w.heap.size + 1, 2, none⟩ = false := blk_free qd 2
    have g3 : w3.frozen? ⟨w.heap.size + 1, 3, none⟩ = false := blk_free qd 3
    have QE := Lib.hid qd
    clear hS hE qd HC0
    go_wp2_with fail
    exact bodyPost_ret (v := askV askNone) (rdo_results (a := askNone) rfl (four_set QE.out)) rfl ⟨rfl, RE.out _ _ _ _⟩
set_option maxHeartbeats 2000000 in
theorem rdo_7 (h : Rm w q lb R s) (hl : s.s.length ≤ 64) (j : Nat) (hj : j < 8) :
    Calls Tryz.prog 76 #[.pointer (some ⟨q, 0, none⟩), insA 7 (j : Int) x] w fun e w' => e = .returned (askV askNone) ∧ Rs w w' q lb R { s with s := s.s ++ [s.locals j] } := by
  obtain ⟨hq, hlb, hne, hown⟩ := h.qlt
  have hq1 : ¬ q = w.heap.size := by omega
  have hq2 : ¬ q = w.heap.size + 1 := by omega
  have H := Lib.hid h
  have HL := Lib.hid hl
  obtain ⟨vc, vA, vS, vC, vT, vR, vB, cl, hR⟩ := h
  have k10 : w.cell? ⟨q, 10, none⟩ = some (.slice (some ⟨lb, 0, none⟩) 8 cl) := blk_cell hR.blk 10
  have kx : w.cell? ⟨lb, j, none⟩ = some (fl (s.locals j)) := by
    have := hR.loc.cells (g := lb) rfl j (fl (s.locals j)) (by rw [List.getElem?_map, eight_at _ _ hj]; rfl)
    rwa [Addr.add_lit, Nat.zero_add] at this
  have hji : (j : Int) < 8 := by omega
  clear hl hR hj hown
  go_enter Tryz.func76, Tryz.ntmps76
  go_wp2_with fail
  go_region_law (first | (go_simp; go_at_call 77; refine (rlay0 q lb R s _ (s.locals j) _ _ (H.out.quiet ((((Chg.refl w Nothing).alloc _).alloc _).alloc _).drew) HL.out rthree).mono ?_; rintro e w3 ⟨rfl, hS⟩))
  all_goals
    have HC0 := Lib.hid (((Chg.refl ((w.alloc (.cells #[.int .i64 7, .int .i64 (j : Int), fl x] 92)).alloc (.cells ask0 35)) Nothing).alloc (.cells #[fl (s.locals j)] 33)).drew)
    obtain ⟨qd, hE⟩ := rdo_end H.out HC0.out hS
    have RE := Lib.hid hE
    have q0 : w3.cell? ⟨w.heap.size + 1, 0, none⟩ = some (.int .i64 0) := blk_cell qd 0
    have q1 : w3.cell? ⟨w.heap.size + 1, 1, none⟩ = some (.int .i64 0) := blk_cell qd 1
    have q2 : w3.cell? ⟨w.heap.size + 1, 2, none⟩ = some (.float .f64 0) := blk_cell qd 2
    have q3 : w3.cell? ⟨w.heap.size + 1, 3, none⟩ = some (.bool false) := blk_cell qd 3
    have g0 : w3.frozen? ⟨w.heap.size + 1, 0, none⟩ = false := blk_free qd 0
    have g1 : w3.frozen? ⟨w.heap.size + 1, 1, none⟩ = false := blk_free qd 1
    have g2 : w3.frozen? ⟨w.heap.size + 1, 2, none⟩ = false := blk_free qd 2
    have g3 : w3.frozen? ⟨w.heap.size + 1, 3, none⟩ = false := blk_free qd 3
    have QE := Lib.hid qd
    clear hS hE qd HC0
    go_wp2_with fail
    exact bodyPost_ret (v := askV askNone) (rdo_results (a := askNone) rfl (four_set QE.out)) rfl ⟨rfl, RE.out _ _ _ _⟩
set_option maxHeartbeats 2000000 in
theorem rdo_11 (h : Rm w q lb R s) (hl : s.s.length ≤ 64) (j : Nat) :
    Calls Tryz.prog 76 #[.pointer (some ⟨q, 0, none⟩), insA 11 (j : Int) x] w fun e w' => e = .returned (askV askNone) ∧ Rs w w' q lb R { s with at_ := j } := by
  obtain ⟨hq, hlb, hne, hown⟩ := h.qlt
  have hq1 : ¬ q = w.heap.size := by omega
  have hq2 : ¬ q = w.heap.size + 1 := by omega
  have H := Lib.hid h
  have HL := Lib.hid hl
  obtain ⟨vc, vA, vS, vC, vT, vR, vB, cl, hR⟩ := h
  have c11 : w.cell? ⟨q, 11, none⟩ = some (.int .i64 (s.at_ : Int)) := blk_cell hR.blk 11
  have f11 := blk_free hR.blk 11
  have A0 := hR.plain (j := 11) (v := .int .i64 (j : Int)) (s' := { s with at_ := j }) rfl ⟨rfl, rfl, rfl, rfl, rfl, rfl, rfl, rfl⟩
  have C3 : Chg w (w.setCell ⟨q, 11, none⟩ (.int .i64 (j : Int))) (fun k => k = q ∨ k = lb) := (Chg.refl w _).setCell (.inr (.inl rfl)) _
  obtain ⟨W3, hW3⟩ : ∃ W3, W3 = (w.setCell ⟨q, 11, none⟩ (.int .i64 (j : Int))) := ⟨_, rfl⟩
  rw [← hW3] at A0 C3
  have hz : W3.heap.size = w.heap.size := by rw [hW3]; simp
  have HB := Lib.hid (two_blk (a := (.cells #[.int .i64 11, .int .i64 (j : Int), fl x] 92)) (cs := #[.int .i64 0, .int .i64 0, .float .f64 0, .bool false]) (T := 35) hz)
  have HW := Lib.hid hW3
  have RR := Lib.hid (Rs.of H.out ((show Rm W3 q lb R { s with at_ := j } from ⟨_, _, _, _, _, _, _, _, A0⟩).quiet (((Chg.refl W3 Nothing).alloc (.cells #[.int .i64 11, .int .i64 (j : Int), fl x] 92)).alloc (.cells #[.int .i64 0, .int .i64 0, .float .f64 0, .bool false] 35))) ((C3.alloc _).alloc _) (fun k hk => .inl hk))
  clear A0 C3 hW3 hz hR hl
  go_enter Tryz.func76, Tryz.ntmps76
  go_wp2_with fail
  rw [← HW.out]
  exact bodyPost_ret (v := askV askNone) (rdo_results (a := askNone) rfl HB.out) rfl ⟨rfl, RR.out⟩
set_option maxHeartbeats 2000000 in
theorem rdo_19 (h : Rm w q lb R s) (hl : s.s.length ≤ 64) :
    Calls Tryz.prog 76 #[.pointer (some ⟨q, 0, none⟩), insA 19 n x] w fun e w' => e = .returned (askV askEnd) ∧ Rs w w' q lb R { s with how := (2, n, 0) } := by
  obtain ⟨hq, hlb, hne, hown⟩ := h.qlt
  have hq1 : ¬ q = w.heap.size := by omega
  have hq2 : ¬ q = w.heap.size + 1 := by omega
  have H := Lib.hid h
  have HL := Lib.hid hl
  obtain ⟨vc, vA, vS, vC, vT, vR, vB, cl, hR⟩ := h
  have c14 : w.cell? ⟨q, 14, none⟩ = some (.int .i64 s.how.1) := blk_cell hR.blk 14
  have c15 : w.cell? ⟨q, 15, none⟩ = some (.int .i64 s.how.2.1) := blk_cell hR.blk 15
  have c16 : w.cell? ⟨q, 16, none⟩ = some (.int .i64 s.how.2.2) := blk_cell hR.blk 16
  have f14 := blk_free hR.blk 14
  have A0 := hR.plain (j := 14) (v := .int .i64 2) (s' := { s with how := (2, s.how.2) }) rfl ⟨rfl, rfl, rfl, rfl, rfl, rfl, rfl, rfl⟩
  have f15 := blk_free hR.blk 15
  have A1 := A0.plain (j := 15) (v := .int .i64 n) (s' := { s with how := (2, n, s.how.2.2) }) rfl ⟨rfl, rfl, rfl, rfl, rfl, rfl, rfl, rfl⟩
  have f16 := blk_free hR.blk 16
  have A2 := A1.plain (j := 16) (v := .int .i64 0) (s' := { s with how := (2, n, 0) }) rfl ⟨rfl, rfl, rfl, rfl, rfl, rfl, rfl, rfl⟩
  have C3 : Chg w (((w.setCell ⟨q, 14, none⟩ (.int .i64 2)).setCell ⟨q, 15, none⟩ (.int .i64 n)).setCell ⟨q, 16, none⟩ (.int .i64 0)) (fun k => k = q ∨ k = lb) := (((Chg.refl w _).setCell (.inr (.inl rfl)) _).setCell (.inr (.inl rfl)) _).setCell (.inr (.inl rfl)) _
  obtain ⟨W3, hW3⟩ : ∃ W3, W3 = (((w.setCell ⟨q, 14, none⟩ (.int .i64 2)).setCell ⟨q, 15, none⟩ (.int .i64 n)).setCell ⟨q, 16, none⟩ (.int .i64 0)) := ⟨_, rfl⟩
  rw [← hW3] at A2 C3
  have hz : W3.heap.size = w.heap.size := by rw [hW3]; simp
  have HB := Lib.hid (two_blk (a := (.cells #[.int .i64 19, .int .i64 n, fl x] 92)) (cs := #[.int .i64 4, .int .i64 0, .float .f64 0, .bool false]) (T := 35) hz)
  have HW := Lib.hid hW3
  have RR := Lib.hid (Rs.of H.out ((show Rm W3 q lb R { s with how := (2, n, 0) } from ⟨_, _, _, _, _, _, _, _, A2⟩).quiet (((Chg.refl W3 Nothing).alloc (.cells #[.int .i64 19, .int .i64 n, fl x] 92)).alloc (.cells #[.int .i64 4, .int .i64 0, .float .f64 0, .bool false] 35))) ((C3.alloc _).alloc _) (fun k hk => .inl hk))
  clear A0 A1 A2 C3 hW3 hz hR hl
  go_enter Tryz.func76, Tryz.ntmps76
  go_wp2_with fail
  rw [← HW.out]
  exact bodyPost_ret (v := askV askEnd) (rdo_results (a := askEnd) rfl HB.out) rfl ⟨rfl, RR.out⟩
set_option maxHeartbeats 2000000 in
theorem rdo_20 (h : Rm w q lb R s) (hl : s.s.length ≤ 64) (hh : s.how.2 = (0, 0)) :
    Calls Tryz.prog 76 #[.pointer (some ⟨q, 0, none⟩), insA 20 n x] w fun e w' => e = .returned (askV askEnd) ∧ Rs w w' q lb R { s with how := (1, 0, 0) } := by
  obtain ⟨hq, hlb, hne, hown⟩ := h.qlt
  have hq1 : ¬ q = w.heap.size := by omega
  have hq2 : ¬ q = w.heap.size + 1 := by omega
  have H := Lib.hid h
  have HL := Lib.hid hl
  obtain ⟨vc, vA, vS, vC, vT, vR, vB, cl, hR⟩ := h
  have c14 : w.cell? ⟨q, 14, none⟩ = some (.int .i64 s.how.1) := blk_cell hR.blk 14
  have f14 := blk_free hR.blk 14
  have A0 := hR.plain (j := 14) (v := .int .i64 1) (s' := { s with how := (1, s.how.2) }) rfl ⟨rfl, rfl, rfl, rfl, rfl, rfl, rfl, rfl⟩
  have C3 : Chg w (w.setCell ⟨q, 14, none⟩ (.int .i64 1)) (fun k => k = q ∨ k = lb) := (Chg.refl w _).setCell (.inr (.inl rfl)) _
  obtain ⟨W3, hW3⟩ : ∃ W3, W3 = (w.setCell ⟨q, 14, none⟩ (.int .i64 1)) := ⟨_, rfl⟩
  rw [← hW3] at A0 C3
  have hz : W3.heap.size = w.heap.size := by rw [hW3]; simp
  have HB := Lib.hid (two_blk (a := (.cells #[.int .i64 20, .int .i64 n, fl x] 92)) (cs := #[.int .i64 4, .int .i64 0, .float .f64 0, .bool false]) (T := 35) hz)
  have HW := Lib.hid hW3
  have RR := Lib.hid (Rs.of H.out ((show Rm W3 q lb R { s with how := (1, 0, 0) } from ⟨_, _, _, _, _, _, _, _, by rw [hh] at A0; exact A0⟩).quiet (((Chg.refl W3 Nothing).alloc (.cells #[.int .i64 20, .int .i64 n, fl x] 92)).alloc (.cells #[.int .i64 4, .int .i64 0, .float .f64 0, .bool false] 35))) ((C3.alloc _).alloc _) (fun k hk => .inl hk))
  clear A0 C3 hW3 hz hR hl
  go_enter Tryz.func76, Tryz.ntmps76
  go_wp2_with fail
  rw [← HW.out]
  exact bodyPost_ret (v := askV askEnd) (rdo_results (a := askEnd) rfl HB.out) rfl ⟨rfl, RR.out⟩
end
end Go.Proofs.YthgllaomafhdkaaGreat
