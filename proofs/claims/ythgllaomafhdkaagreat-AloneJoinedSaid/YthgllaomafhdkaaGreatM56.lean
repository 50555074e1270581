/- The document's machine: read. -/
import Derived.Test.YthgllaomafhdkaaGreatM55
namespace Go.Proofs.YthgllaomafhdkaaGreat
open Go Go.RowKit
set_option maxRecDepth 100000
set_option maxHeartbeats 1000000
set_option linter.unusedVariables false
set_option linter.unusedSimpArgs false

section
variable {w W0 w1 w2 w3 : World} {q lb b : Nat} {R S : Nat → Prop} {s s' : Mc}
theorem rask_end (h0 : Rm w q lb R s) (hc0 : Chg (w.alloc (.cells ask0 35)) W0 Nothing) (h : Rs W0 w3 q lb R s') :
    w3.heap[w.heap.size]? = some (.cells ask0 35 (0, 0)) ∧ ∀ a c d e, Rs w ((((w3.setCell ⟨w.heap.size, 0, none⟩ a).setCell ⟨w.heap.size, 1, none⟩ c).setCell ⟨w.heap.size, 2, none⟩ d).setCell ⟨w.heap.size, 3, none⟩ e) q lb R s' := by
  obtain ⟨q1, q2, q3, q4⟩ := h0.qlt
  have e0 : W0.heap[w.heap.size]? = some (.cells ask0 35 (0, 0)) := (hc0.block _ (by simp) id).trans (heap_alloc_new w _)
  have hl := blk_lt e0
  have hcw : Chg w W0 Nothing := ((Chg.refl w Nothing).alloc _).trans hc0 (fun _ _ h => h)
  exact ⟨(h.chg.block _ hl (by omega)).trans e0, fun a c d e => Rs.asked h0 hcw h four_chg (by omega) hl⟩
theorem rindex_bad {x : Nat} {n : Int} (hE : idxE x n ≠ 0) (w : World) : Calls Tryz.prog 136 #[fl x, .int .i64 n] w fun e w' => e = .returned (.tuple #[.int .i64 0, .int .i64 10]) ∧ ∃ m, w' = w.drewN m := by
  have h1 : idxI x n = 0 ∧ idxE x n = 10 := by
    unfold idxE at hE
    unfold idxI idxE
    split at hE
    · exact absurd rfl hE
    · rename_i h; rw [if_neg h, if_neg h]; exact ⟨rfl, rfl⟩
  have := rindex_any x n w
  rw [h1.1, h1.2] at this
  exact this
theorem rindex_ok {x : Nat} {n c : Int} (hE : idxE x n = 0) (hc : idxI x n = c) (w : World) : Calls Tryz.prog 136 #[fl x, .int .i64 n] w fun e w' => e = .returned (.tuple #[.int .i64 c, .int .i64 0]) ∧ ∃ m, w' = w.drewN m := by
  have := rindex_any x n w
  rw [hE, hc] at this
  exact this
theorem rwrote_none {c : Int} (hg : getN s.buf c = none) (w : World) (h : Rm w q lb R s) (hl : s.buf.length ≤ 4096) :
    Calls Tryz.prog 137 #[.pointer (some ⟨q, 0, none⟩), .int .i64 c] w fun e w' => e = .returned (.tuple #[fl 0, .bool false]) ∧ Chg w w' Nothing := by
  have := rwrote_any q lb R s c w h hl
  rw [hg] at this
  exact this
theorem rwrote_some {c : Int} {x : Nat} (hg : getN s.buf c = some x) (w : World) (h : Rm w q lb R s) (hl : s.buf.length ≤ 4096) :
    Calls Tryz.prog 137 #[.pointer (some ⟨q, 0, none⟩), .int .i64 c] w fun e w' => e = .returned (.tuple #[fl x, .bool true]) ∧ Chg w w' Nothing := by
  have := rwrote_any q lb R s c w h hl
  rw [hg] at this
  exact this
end
section
variable (q lb : Nat) (R : Nat → Prop) (s : Mc) (w : World)
theorem rread_bad (h : Rm w q lb R s) (hl : s.s.length ≤ 64) (hn : 1 ≤ s.s.length) (hE : idxE (topN s.s 0) s.cells ≠ 0) :
    Calls Tryz.prog 108 #[.pointer (some ⟨q, 0, none⟩)] w fun e w' => e = .returned (askV askEnd) ∧ Rs w w' q lb R (s.fails 50) := by
  obtain ⟨hq, hlb, hne, hown⟩ := h.qlt
  have hq1 : ¬ q = w.heap.size := by omega
  obtain ⟨-, -, c13, c0, c3, c4, -⟩ := h.cellAt
  have f13 := h.free 13
  have H := Lib.hid h
  have HL := Lib.hid hl
  have HN := Lib.hid hn
  have HE := Lib.hid hE
  clear h hl hn hE hown
  go_enter Tryz.func108, Tryz.ntmps108
  go_wp2_with fail
  go_quiet (first | (go_at_call 104; exact Calls.quiet_of (rtop0 q lb R s _ (H.out.quiet (((Chg.refl w Nothing).alloc _).drewN _)) HN.out HL.out)) | (go_at_call 136; exact Calls.quiet_of (rindex_bad HE.out _)))
  go_wp2_with fail
  with_reducible refine (rfails_any q lb R s 50 _ (H.out.quiet (((Chg.refl w Nothing).alloc _).drewN _))).mono ?_
  rintro e w3 ⟨he, hS⟩
  obtain rfl : e = .returned (.agg #[.int .i64 4, .int .i64 0, .float .f64 0, .bool false]) := he
  have HC0 := Lib.hid ((Chg.refl (w.alloc (.cells ask0 35)) Nothing).drewN nq)
  obtain ⟨qd, hE⟩ := rask_end H.out HC0.out hS
  have RE := Lib.hid hE
  have q0 : (w3).cell? ⟨w.heap.size, 0, none⟩ = some (.int .i64 0) := blk_cell qd 0
  have q1 : (w3).cell? ⟨w.heap.size, 1, none⟩ = some (.int .i64 0) := blk_cell qd 1
  have q2 : (w3).cell? ⟨w.heap.size, 2, none⟩ = some (.float .f64 0) := blk_cell qd 2
  have q3 : (w3).cell? ⟨w.heap.size, 3, none⟩ = some (.bool false) := blk_cell qd 3
  have g0 : (w3).frozen? ⟨w.heap.size, 0, none⟩ = false := blk_free qd 0
  have g1 : (w3).frozen? ⟨w.heap.size, 1, none⟩ = false := blk_free qd 1
  have g2 : (w3).frozen? ⟨w.heap.size, 2, none⟩ = false := blk_free qd 2
  have g3 : (w3).frozen? ⟨w.heap.size, 3, none⟩ = false := blk_free qd 3
  have QE := Lib.hid qd
  clear hS hE qd HC0
  go_wp2_with fail
  exact bodyPost_ret (v := askV askEnd) (rread_results (a := askEnd) rfl (four_set QE.out)) rfl ⟨rfl, RE.out _ _ _ _⟩
theorem rread_none (c : Int) (h : Rm w q lb R s) (hl : s.s.length ≤ 64) (hn : 1 ≤ s.s.length) (hbl : s.buf.length ≤ 4096) (hE : idxE (topN s.s 0) s.cells = 0) (hc : idxI (topN s.s 0) s.cells = c) (hg : getN s.buf c = none) :
    Calls Tryz.prog 108 #[.pointer (some ⟨q, 0, none⟩)] w fun e w' => e = .returned (askV ⟨1, c, 0, false⟩) ∧ Rs w w' q lb R { s with s := s.s.dropLast, waits := true, cell := c } := by
  obtain ⟨hq, hlb, hne, hown⟩ := h.qlt
  have hq1 : ¬ q = w.heap.size := by omega
  obtain ⟨-, -, c13, c0, c3, c4, -⟩ := h.cellAt
  have f13 := h.free 13
  have H := Lib.hid h
  have HL := Lib.hid hl
  have HN := Lib.hid hn
  have HE := Lib.hid hE
  have HBL := Lib.hid hbl
  have HCI := Lib.hid hc
  have HG := Lib.hid hg
  clear h hl hn hE hown hbl hc hg
  go_enter Tryz.func108, Tryz.ntmps108
  go_wp2_with fail
  go_quiet (first | (go_at_call 104; exact Calls.quiet_of (rtop0 q lb R s _ (H.out.quiet (((Chg.refl w Nothing).alloc _).drewN _)) HN.out HL.out)) | (go_at_call 136; exact Calls.quiet_of (rindex_ok HE.out HCI.out _)))
  go_wp2_with fail
  with_reducible refine (rwrote_none HG.out _ (H.out.quiet (((Chg.refl w Nothing).alloc _).drewN _)) HBL.out).mono ?_
  rintro e w1 ⟨rfl, hc1⟩
  have C1 := Lib.hid (show Chg (w.alloc (.cells ask0 35)) w1 Nothing from ((Chg.refl _ Nothing).drewN nq).trans hc1 (fun _ _ h => h))
  clear hc1 c13 c0 c3 c4 f13
  go_wp2_with fail
  with_reducible refine (rdrop1 q lb R s _ (H.out.quiet ((((Chg.refl w Nothing).alloc _)).trans C1.out (fun _ _ h => h))) HN.out HL.out).mono ?_
  rintro e w2 ⟨rfl, hS1⟩
  have S1 := Lib.hid hS1
  obtain ⟨-, -, c13, -⟩ := hS1.rm.cellAt
  have f13 := hS1.rm.free 13
  have HC0 := C1
  clear hS1 C1
  have hS := Rs.plain (H.out.quiet ((((Chg.refl w Nothing).alloc _)).trans HC0.out (fun _ _ h => h))) S1.out (j := 13) (v := .int .i64 c) (s' := { s with s := s.s.dropLast, waits := true, cell := c }) (fun _ _ _ _ _ _ _ _ => rfl) ⟨rfl, rfl, rfl, rfl, rfl, rfl, rfl, rfl⟩
  obtain ⟨qd, hE⟩ := rask_end H.out HC0.out hS
  have RE := Lib.hid hE
  have q0 : (w2.setCell ⟨q, 13, none⟩ (.int .i64 c)).cell? ⟨w.heap.size, 0, none⟩ = some (.int .i64 0) := blk_cell qd 0
  have q1 : (w2.setCell ⟨q, 13, none⟩ (.int .i64 c)).cell? ⟨w.heap.size, 1, none⟩ = some (.int .i64 0) := blk_cell qd 1
  have q2 : (w2.setCell ⟨q, 13, none⟩ (.int .i64 c)).cell? ⟨w.heap.size, 2, none⟩ = some (.float .f64 0) := blk_cell qd 2
  have q3 : (w2.setCell ⟨q, 13, none⟩ (.int .i64 c)).cell? ⟨w.heap.size, 3, none⟩ = some (.bool false) := blk_cell qd 3
  have g0 : (w2.setCell ⟨q, 13, none⟩ (.int .i64 c)).frozen? ⟨w.heap.size, 0, none⟩ = false := blk_free qd 0
  have g1 : (w2.setCell ⟨q, 13, none⟩ (.int .i64 c)).frozen? ⟨w.heap.size, 1, none⟩ = false := blk_free qd 1
  have g2 : (w2.setCell ⟨q, 13, none⟩ (.int .i64 c)).frozen? ⟨w.heap.size, 2, none⟩ = false := blk_free qd 2
  have g3 : (w2.setCell ⟨q, 13, none⟩ (.int .i64 c)).frozen? ⟨w.heap.size, 3, none⟩ = false := blk_free qd 3
  have QE := Lib.hid qd
  clear hS hE qd HC0
  go_wp2_with fail
  exact bodyPost_ret (v := askV ⟨1, c, 0, false⟩) (rread_results (a := ⟨1, c, 0, false⟩) rfl (four_set QE.out)) rfl ⟨rfl, RE.out _ _ _ _⟩
theorem rread_some (c : Int) (x : Nat) (h : Rm w q lb R s) (hl : s.s.length ≤ 64) (hn : 1 ≤ s.s.length) (hbl : s.buf.length ≤ 4096) (hrl : s.reads.length ≤ 4096) (hE : idxE (topN s.s 0) s.cells = 0) (hc : idxI (topN s.s 0) s.cells = c) (hg : getN s.buf c = some x) :
    Calls Tryz.prog 108 #[.pointer (some ⟨q, 0, none⟩)] w fun e w' => e = .returned (askV ⟨2, c, x, false⟩) ∧ Rs w w' q lb R { s with s := s.s.dropLast ++ [x], reads := s.reads ++ [(c, x)] } := by
  obtain ⟨i1, i11, i12, i13, i14⟩ := info_parts (show (Tryz.prog.info? 77).map (fun i => (i.zero, i.size, i.bytes)) = some (some (.agg #[.int .i64 0, fl 0]), 2, 16) by kernel_rfl)
  have H1 := Lib.hid (And.intro i11 (And.intro i12 (And.intro i13 i14)))
  clear i11 i12 i13 i14
  obtain ⟨hq, hlb, hne, hown⟩ := h.qlt
  have hq1 : ¬ q = w.heap.size := by omega
  obtain ⟨-, -, c13, c0, c3, c4, -⟩ := h.cellAt
  have f13 := h.free 13
  have H := Lib.hid h
  have HL := Lib.hid hl
  have HN := Lib.hid hn
  have HE := Lib.hid hE
  have HBL := Lib.hid hbl
  have HRL := Lib.hid hrl
  have HCI := Lib.hid hc
  have HG := Lib.hid hg
  clear h hl hn hE hown hbl hrl hc hg
  go_enter Tryz.func108, Tryz.ntmps108
  go_wp2_with fail
  go_quiet (first | (go_at_call 104; exact Calls.quiet_of (rtop0 q lb R s _ (H.out.quiet (((Chg.refl w Nothing).alloc _).drewN _)) HN.out HL.out)) | (go_at_call 136; exact Calls.quiet_of (rindex_ok HE.out HCI.out _)))
  go_wp2_with fail
  with_reducible refine (rwrote_some HG.out _ (H.out.quiet (((Chg.refl w Nothing).alloc _).drewN _)) HBL.out).mono ?_
  rintro e w1 ⟨rfl, hc1⟩
  have C1 := Lib.hid (show Chg (w.alloc (.cells ask0 35)) w1 Nothing from ((Chg.refl _ Nothing).drewN nq).trans hc1 (fun _ _ h => h))
  clear hc1 c13 c0 c3 c4 f13
  go_wp2_with fail
  with_reducible refine (rlay1 q lb R s _ x _ _ (H.out.quiet (((((Chg.refl w Nothing).alloc _)).trans C1.out (fun _ _ h => h)).alloc _)) HN.out HL.out (heap_alloc_new w1 _)).mono ?_
  rintro e w2 ⟨rfl, hS1⟩
  have S1 := Lib.hid hS1
  have HC0 := Lib.hid (C1.out.alloc (.cells #[fl x] 33))
  clear hS1 C1
  go_wp2_with fail
  obtain ⟨vc, vA, vS, vC, vT, vR, vB, cl, hR⟩ := S1.out.rm
  have hqw : q < w2.heap.size := hR.qlt.1
  obtain ⟨aR, cR, rfl, hcap, -, -⟩ := hR.reads
  have kj : w2.cell? ⟨q, 18, none⟩ = some (.slice aR s.reads.length cR) := blk_cell hR.blk 18
  have KJ := Lib.hid kj
  have HR := Lib.hid hR
  have RO := Lib.hid ((hR.quiet ((((Chg.refl w2 Nothing).alloc (.cells #[.int .i64 c, fl x] 77)).drew) : Chg w2 (w2.alloc (.cells #[.int .i64 c, fl x] 77)).drew Nothing)).reads.whole)
  have HN := Lib.hid (show ∀ (jj : Nat) (u : Value), [.int .i64 c, fl x][jj]? = some u → ((w2.alloc (.cells #[.int .i64 c, fl x] 77)).drew).cell? ((⟨w2.heap.size, 0, none⟩ : Addr).add jj) = some u from World.news_of_block (cs := #[.int .i64 c, fl x]) (t := 77) (fr := (0, 0)) (w := (w2.alloc (.cells #[.int .i64 c, fl x] 77)).drew) (heap_alloc_new w2 _))
  have hqz : ¬ q = w2.heap.size := by omega
  have hml2 : s.reads.length ≤ cR := hcap
  clear hcap
  have hml : ((s.reads.length : Nat) : Int) ≤ (cR : Int) := by omega
  clear hR kj
  refine beginL (fun w' => w'.cell? ⟨q, 18, none⟩ = some (.slice aR s.reads.length cR)) 23 (by kernel_rfl) ((((Chg.refl w2 Nothing).drew)).cell KJ.out id) (fun hHeld => ?_)
  refine takeL 0 2 (v := ?_) rfl (by kernel_rfl) (fun _ _ _ h => h) (by rfl) (by assumption) ?_ ?_
  rotate_left
  · (intro w hSw; (try dsimp only at hSw); go_simp; try with_reducible rfl)
  try simp only [Act.put, List.setIfInBounds_toArray, List.set_cons_zero, List.set_cons_succ]
  refine takeL 1 2 (v := ?_) rfl (by kernel_rfl) (fun _ _ _ h => h) (by rfl) (by assumption) ?_ ?_
  rotate_left
  · (intro w hSw; (try dsimp only at hSw); go_simp; try with_reducible rfl)
  try simp only [Act.put, List.setIfInBounds_toArray, List.set_cons_zero, List.set_cons_succ]
  refine takeL 2 2 (v := ?_) rfl (by kernel_rfl) (fun _ _ _ h => h) (by rfl) (by assumption) ?_ ?_
  rotate_left
  · (intro w hSw; (try dsimp only at hSw); go_simp; try with_reducible rfl)
  try simp only [Act.put, List.setIfInBounds_toArray, List.set_cons_zero, List.set_cons_succ]
  refine takeL 3 2 (v := ?_) rfl (by kernel_rfl) (fun _ _ _ h => h) (by rfl) (by assumption) ?_ ?_
  rotate_left
  · (intro w hSw; (try dsimp only at hSw); go_simp; try with_reducible rfl)
  try simp only [Act.put, List.setIfInBounds_toArray, List.set_cons_zero, List.set_cons_succ]
  refine takeL 4 2 (v := ?_) rfl (by kernel_rfl) (fun _ _ _ h => h) (by rfl) (by assumption) ?_ ?_
  rotate_left
  · (intro w hSw; (try dsimp only at hSw); go_simp; try with_reducible rfl)
  try simp only [Act.put, List.setIfInBounds_toArray, List.set_cons_zero, List.set_cons_succ]
  refine takeL 5 2 (v := ?_) rfl (by kernel_rfl) (fun _ _ _ h => h) (by rfl) (by assumption) ?_ ?_
  rotate_left
  · (intro w hSw; (try dsimp only at hSw); go_simp; try with_reducible rfl)
  try simp only [Act.put, List.setIfInBounds_toArray, List.set_cons_zero, List.set_cons_succ]
  refine takeL 6 2 (v := ?_) rfl (by kernel_rfl) (fun _ _ _ h => h) (by rfl) (by assumption) ?_ ?_
  rotate_left
  · (intro w hSw; (try dsimp only at hSw); go_simp; try with_reducible rfl)
  try simp only [Act.put, List.setIfInBounds_toArray, List.set_cons_zero, List.set_cons_succ]
  refine takeL 7 2 (v := ?_) rfl (by kernel_rfl) (fun _ _ _ h => h) (by rfl) (by assumption) ?_ ?_
  rotate_left
  · (intro w hSw; (try dsimp only at hSw); go_simp; try with_reducible rfl)
  try simp only [Act.put, List.setIfInBounds_toArray, List.set_cons_zero, List.set_cons_succ]
  refine takeL 8 2 (v := ?_) rfl (by kernel_rfl) (fun _ _ _ h => h) (by rfl) (by assumption) ?_ ?_
  rotate_left
  · (intro w hSw; (try dsimp only at hSw); go_simp; try with_reducible rfl)
  try simp only [Act.put, List.setIfInBounds_toArray, List.set_cons_zero, List.set_cons_succ]
  refine takeL 9 2 (v := ?_) rfl (by kernel_rfl) (fun _ _ _ h => h) (by rfl) (by assumption) ?_ ?_
  rotate_left
  · (intro w hSw; (try dsimp only at hSw); go_simp; try with_reducible rfl)
  try simp only [Act.put, List.setIfInBounds_toArray, List.set_cons_zero, List.set_cons_succ]
  refine takeL 10 2 (v := ?_) rfl (by kernel_rfl) (fun _ _ _ h => h) (by rfl) (by assumption) ?_ ?_
  rotate_left
  · (intro w hSw; (try dsimp only at hSw); go_simp; try with_reducible rfl)
  try simp only [Act.put, List.setIfInBounds_toArray, List.set_cons_zero, List.set_cons_succ]
  refine takeL 11 2 (v := ?_) rfl (by kernel_rfl) (fun _ _ _ h => h) (by rfl) (by assumption) ?_ ?_
  rotate_left
  · (intro w hSw; (try dsimp only at hSw); go_simp; try with_reducible rfl)
  try simp only [Act.put, List.setIfInBounds_toArray, List.set_cons_zero, List.set_cons_succ]
  refine takeL 12 2 (v := ?_) rfl (by kernel_rfl) (fun _ _ _ h => h) (by rfl) (by assumption) ?_ ?_
  rotate_left
  · (intro w hSw; (try dsimp only at hSw); go_simp; try with_reducible rfl)
  try simp only [Act.put, List.setIfInBounds_toArray, List.set_cons_zero, List.set_cons_succ]
  refine takeL 13 2 (v := ?_) rfl (by kernel_rfl) (fun _ _ _ h => h) (by rfl) (by assumption) ?_ ?_
  rotate_left
  · (intro w hSw; (try dsimp only at hSw); go_simp; try with_reducible rfl)
  try simp only [Act.put, List.setIfInBounds_toArray, List.set_cons_zero, List.set_cons_succ]
  refine takeL 14 2 (v := ?_) rfl (by kernel_rfl) (fun _ _ _ h => h) (by rfl) (by assumption) ?_ ?_
  rotate_left
  · (intro w hSw; (try dsimp only at hSw); go_simp; try with_reducible rfl)
  try simp only [Act.put, List.setIfInBounds_toArray, List.set_cons_zero, List.set_cons_succ]
  refine takeL 15 2 (v := ?_) rfl (by kernel_rfl) (fun _ _ _ h => h) (by rfl) (by assumption) ?_ ?_
  rotate_left
  · (intro w hSw; (try dsimp only at hSw); go_simp; try with_reducible rfl)
  try simp only [Act.put, List.setIfInBounds_toArray, List.set_cons_zero, List.set_cons_succ]
  refine takeL 16 2 (v := ?_) rfl (by kernel_rfl) (fun _ _ _ h => h) (by rfl) (by assumption) ?_ ?_
  rotate_left
  · (intro w hSw; (try dsimp only at hSw); go_simp; try with_reducible rfl)
  try simp only [Act.put, List.setIfInBounds_toArray, List.set_cons_zero, List.set_cons_succ]
  refine takeL 17 2 (v := ?_) rfl (by kernel_rfl) (fun _ _ _ h => h) (by rfl) (by assumption) ?_ ?_
  rotate_left
  · (intro w hSw; (try dsimp only at hSw); go_simp; try with_reducible rfl)
  try simp only [Act.put, List.setIfInBounds_toArray, List.set_cons_zero, List.set_cons_succ]
  refine takeL 18 2 (v := ?_) rfl (by kernel_rfl) (fun _ _ _ h => h) (by rfl) (by assumption) ?_ ?_
  rotate_left
  · (intro w hSw; (try dsimp only at hSw); go_simp; try with_reducible rfl)
  try simp only [Act.put, List.setIfInBounds_toArray, List.set_cons_zero, List.set_cons_succ]
  refine oneL 19 rfl (by kernel_rfl) (by rfl) (fun K hK => ?_)
  go_simp
  refine hK.out _ _ (((((Chg.refl w2 Nothing).alloc _).drew)).cell KJ.out id) (fun hHeld => ?_)
  clear hK K
  try simp only [Act.put, List.setIfInBounds_toArray, List.set_cons_zero, List.set_cons_succ]
  refine oneL 20 rfl (by kernel_rfl) (by rfl) (fun K hK => ?_)
  refine step_append_grows (by rfl) _ _ _ (by rfl) 77 i1 (.agg #[.int .i64 0, fl 0]) 2 16 Tryz.underlying45 H1.out.1 H1.out.2.1 H1.out.2.2.1 H1.out.2.2.2 rfl (by omega) aR (s.reads.length) (s.reads.length) (tchV s.reads) (by rfl) RO.out.1 RO.out.2.1 RO.out.2.2 ⟨w2.heap.size, 0, none⟩ 1 1 [.int .i64 c, fl x] (by rfl) (by rfl) HN.out (by simp [Value.oneCell', fl]) (by omega) (by have := HRL.out; unfold maxLen; omega) (by have := HRL.out; omega) ?_
  intro v' w4 hown hgrow
  obtain ⟨⟨a', c', rfl⟩, -⟩ := ownsRow_shape hown
  have hcw : Chg w2 w4 Nothing := (((Chg.refl w2 Nothing).alloc (.cells #[.int .i64 c, fl x] 77)).drew).grown hgrow (by simp)
  have yj := hcw.cell KJ.out id
  have gj := blk_free ((hcw.block q hqw id).trans HR.out.blk) 18
  refine hK.out _ _ yj (fun hHeld => ?_)
  clear hK K
  try simp only [Act.put, List.setIfInBounds_toArray, List.set_cons_zero, List.set_cons_succ]
  refine takeL 21 2 (v := ?_) rfl (by kernel_rfl) (fun _ _ _ h => h) (by rfl) (by assumption) ?_ ?_
  rotate_left
  · (intro w hSw; (try dsimp only at hSw); go_simp; try with_reducible rfl)
  try simp only [Act.put, List.setIfInBounds_toArray, List.set_cons_zero, List.set_cons_succ]
  refine takeL 22 2 (v := ?_) rfl (by kernel_rfl) (fun _ _ _ h => h) (by rfl) (by assumption) ?_ ?_
  rotate_left
  · (intro w hSw; (try dsimp only at hSw); go_simp; try with_reducible rfl)
  try simp only [Act.put, List.setIfInBounds_toArray, List.set_cons_zero, List.set_cons_succ]
  refine lastL rfl (by kernel_rfl) (by kernel_rfl) (fun K hK => ?_)
  go_simp
  refine hK.out _ _ ?_
  clear hK K
  have hS4 := HR.out.readed hcw (c, x) (ownsRow_base hown (by show _ ≤ (World.alloc _ _).heap.size; rw [World.size_alloc]; exact Nat.le_succ _))
  have hS := Rs.then (H.out.quiet ((((Chg.refl w Nothing).alloc _)).trans HC0.out (fun _ _ h => h))) S1.out hS4
  clear hS4 hcw hown hgrow yj gj
  obtain ⟨qd, hE⟩ := rask_end H.out HC0.out hS
  have RE := Lib.hid hE
  have q0 : (w4.setCell ⟨q, 18, none⟩ (.slice a' (s.reads.length + 1) c')).cell? ⟨w.heap.size, 0, none⟩ = some (.int .i64 0) := blk_cell qd 0
  have q1 : (w4.setCell ⟨q, 18, none⟩ (.slice a' (s.reads.length + 1) c')).cell? ⟨w.heap.size, 1, none⟩ = some (.int .i64 0) := blk_cell qd 1
  have q2 : (w4.setCell ⟨q, 18, none⟩ (.slice a' (s.reads.length + 1) c')).cell? ⟨w.heap.size, 2, none⟩ = some (.float .f64 0) := blk_cell qd 2
  have q3 : (w4.setCell ⟨q, 18, none⟩ (.slice a' (s.reads.length + 1) c')).cell? ⟨w.heap.size, 3, none⟩ = some (.bool false) := blk_cell qd 3
  have g0 : (w4.setCell ⟨q, 18, none⟩ (.slice a' (s.reads.length + 1) c')).frozen? ⟨w.heap.size, 0, none⟩ = false := blk_free qd 0
  have g1 : (w4.setCell ⟨q, 18, none⟩ (.slice a' (s.reads.length + 1) c')).frozen? ⟨w.heap.size, 1, none⟩ = false := blk_free qd 1
  have g2 : (w4.setCell ⟨q, 18, none⟩ (.slice a' (s.reads.length + 1) c')).frozen? ⟨w.heap.size, 2, none⟩ = false := blk_free qd 2
  have g3 : (w4.setCell ⟨q, 18, none⟩ (.slice a' (s.reads.length + 1) c')).frozen? ⟨w.heap.size, 3, none⟩ = false := blk_free qd 3
  have QE := Lib.hid qd
  clear hS hE qd HC0
  go_wp2_with fail
  exact bodyPost_ret (v := askV ⟨2, c, x, false⟩) (rread_results (a := ⟨2, c, x, false⟩) rfl (four_set QE.out)) rfl ⟨rfl, RE.out _ _ _ _⟩
end
end Go.Proofs.YthgllaomafhdkaaGreat
