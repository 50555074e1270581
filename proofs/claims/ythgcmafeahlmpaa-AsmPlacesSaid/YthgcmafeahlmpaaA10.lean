/- The document's builder: an instruction is added. -/
import Derived.Test.YthgcmafeahlmpaaA9
namespace Go.Proofs.Ythgcmafeahlmpaa
open Go Go.RowKit
set_option linter.unusedVariables false
set_option linter.unusedSimpArgs false

theorem off_row {w : World} {T : Nat → Nat} {i : Nat} {e : TypeId} {size : Nat} {a : Option Addr} {n c : Nat} {xs : List Value} {b : Nat} (h : RowIn w T i e size (.slice a n c) n xs) (hb : T b ≠ i) : (Value.slice a n c).ownBlock ≠ some b := fun e => hb (h.2 b e)

theorem one_cell {w : World} {v : Value} {T : TypeId} : ∀ j u, [v][j]? = some u → (w.alloc (.cells #[v] T)).cell? ⟨w.heap.size, j, none⟩ = some u := by
  intro j u hj
  rw [blk_cell (heap_alloc_new w _)]
  simpa using hj
theorem rb_still {w W w1 : World} {r : Nat} {T : Nat → Nat} {tag : Int} {cs : List Ins} {ls : List Int} {ts : List Bool} {many : Nat} {ms : List (Int × Nat)} {a1 a2 a3 a4 : Option Addr} {c1 c2 c3 c4 : Nat} {v : Value} (h : RbAt w r T tag cs ls ts many ms a1 c1 a2 c2 a3 c3 a4 c4) (hc : Chg w W Nothing) (hg : W.grownBy w1 v.ownBlock) (hn : v.ownBlock ≠ some r) :
    w1.heap[r]? = some (.cells #[.int .i64 tag, .slice a1 cs.length c1, .slice a2 ls.length c2, .slice a3 ts.length c3, .int .i64 (many : Int), .slice a4 ms.length c4] 60 (0, 0)) := by
  have hr : r < w.heap.size := h.lt r (by rw [h.tr]; decide)
  have := hc.size
  exact (hg.block r (by omega) (Ne.symm hn)).trans ((hc.block r hr id).trans h.blk)

set_option maxRecDepth 100000 in
set_option maxHeartbeats 3200000 in
theorem radd_at {w : World} {r : Nat} {T : Nat → Nat} {tag : Int} {cs : List Ins} {ls : List Int} {ts : List Bool} {many : Nat} {ms : List (Int × Nat)} {a1 a2 a3 a4 : Option Addr} {k1 k2 k3 k4 : Nat} (h : RbAt w r T tag cs ls ts many ms a1 k1 a2 k2 a3 k3 a4 k4) (op n : Int) (x : Nat) (b : Bool) (l : Int)
    (hb1 : cs.length < 4398046511103) (hb2 : ls.length < 4398046511103) (hb3 : ts.length < 4398046511103) :
    Calls Try.prog 30 #[.pointer (some ⟨r, 0, none⟩), .agg #[.int .i64 op, .int .i64 n, fl x], .bool b, .int .i64 l] w fun e w' => e = .returned (.tuple #[]) ∧
      ∃ T' b1 j1 b2 j2 b3 j3, RbAt w' r T' tag (cs ++ [(op, n, x)]) (ls ++ [l]) (ts ++ [b]) many ms b1 j1 b2 j2 b3 j3 a4 k4 ∧ Chg w w' (fun k => T k ≠ 0) ∧ (∀ k, T' k ≠ 0 → T k ≠ 0 ∨ w.heap.size ≤ k) := by
  obtain ⟨i1, i11, i12, i13, i14⟩ := info_parts (show (Try.prog.info? 42).map (fun i => (i.zero, i.size, i.bytes)) = some (some (.agg #[.int .i64 0, .int .i64 0, fl 0]), 3, 24) by kernel_rfl)
  obtain ⟨c0, c1, c2, c3, c4, c5⟩ := h.cells
  have hr : r < w.heap.size := h.lt r (by rw [h.tr]; decide)
  have hrn : ¬ r = w.heap.size := by omega
  have hrn1 : ¬ r = w.heap.size + 1 := by omega
  have f1 : w.frozen? ⟨r, 1, none⟩ = false := blk_free h.blk 1
  have HB := Lib.hid h
  have HO := Lib.hid h.code.1
  have H1 := Lib.hid (And.intro i11 (And.intro i12 (And.intro i13 i14)))
  have HN := Lib.hid hb1
  have HN2 := Lib.hid hb2
  have HN3 := Lib.hid hb3
  clear i11 i12 i13 i14 h hb1 hb2 hb3 c0 c2 c3 c4 c5
  go_enter Try.func30, Try.ntmps30
  go_upto_region 1 with fail
  go_cut [15] (fun v wx => ∃ T1 b1 j1, RbAt wx r T1 tag (cs ++ [(op, n, x)]) ls ts many ms b1 j1 a2 k2 a3 k3 a4 k4 ∧ Chg w wx (fun k => T k ≠ 0) ∧ (∀ k, T1 k ≠ 0 → T k ≠ 0 ∨ w.heap.size ≤ k))
  case first =>
    go_region_law (first | (refine step_append_lies _ (by rfl) _ _ _ (by rfl) 0 42 i1 _ 3 24 Try.underlying35 H1.out.1 H1.out.2.1 H1.out.2.2.1 H1.out.2.2.2 rfl (by omega) (.slice a1 cs.length k1) cs.length (insV cs) (by rfl) (((HO.out.alloc _).alloc _).drew) ⟨w.heap.size + 1, 0, none⟩ 1 1 [.int .i64 op, .int .i64 n, fl x] (by rfl) (by rfl) (World.news_of_block (cs := #[.int .i64 op, .int .i64 n, fl x]) (t := 42) (fr := (0, 0)) (by have := heap_alloc_new (w.alloc (.cells #[.int .i64 op, .int .i64 n, fl x] 42)) (.cells #[.int .i64 op, .int .i64 n, fl x] 42); rw [World.size_alloc] at this; exact this)) (by simp [Value.oneCell', fl]) (by omega) (by have := HN.out; unfold maxLen; omega) (by have := HN.out; omega) (by simp) (w.heap.size + 2) (by simp) ?_; intro gg cap w1 hown1 hgrow hat hlt; have hbk := rb_still HB.out ((((Chg.refl w Nothing).alloc _).alloc _).drew) hgrow (off_row HB.out.code (by rw [HB.out.tr]; decide)); have y1 : w1.cell? ⟨r, 1, none⟩ = some (.slice a1 cs.length k1) := blk_cell hbk 1; have y2 : w1.frozen? ⟨r, 1, none⟩ = false := blk_free hbk 1))
    all_goals
      go_wp2_with fail
      go_meet
      have R := HB.out.coded (x := (op, n, x)) ((((Chg.refl w Nothing).alloc _).alloc _).drew) hgrow hown1 (hat.imp id (fun h => by rw [h]; simp))
      exact ⟨_, _, _, R⟩
  case rest =>
    obtain ⟨wd, hwd⟩ : ∃ wd, wd = wc := ⟨_, rfl⟩
    subst hwd
    obtain ⟨T1, b1, j1, R1, C1, N1⟩ := hcut
    obtain ⟨d0, d1, d2, d3, d4, d5⟩ := R1.cells
    have hr1 : r < wd.heap.size := R1.lt r (by rw [R1.tr]; decide)
    have hrn2 : ¬ r = wd.heap.size := by omega
    have f3 : wd.frozen? ⟨r, 3, none⟩ = false := blk_free R1.blk 3
    have HB1 := Lib.hid R1
    have HC1 := Lib.hid C1
    have HN1 := Lib.hid N1
    have HO1 := Lib.hid R1.tos.1
    obtain ⟨i2, i21, i22, i23, i24⟩ := info_parts (show (Try.prog.info? 4).map (fun i => (i.zero, i.size, i.bytes)) = some (some (.bool false), 1, 1) by kernel_rfl)
    have H2 := Lib.hid (And.intro i21 (And.intro i22 (And.intro i23 i24)))
    clear R1 C1 N1 d0 d1 d2 d4 d5 i21 i22 i23 i24 f1 c1
    go_upto_region 2 with fail
    go_cut [25] (fun v wx => ∃ T2 b3 j3, RbAt wx r T2 tag (cs ++ [(op, n, x)]) ls (ts ++ [b]) many ms b1 j1 a2 k2 b3 j3 a4 k4 ∧ Chg wd wx (fun k => T1 k ≠ 0) ∧ (∀ k, T2 k ≠ 0 → T1 k ≠ 0 ∨ wd.heap.size ≤ k))
    case first =>
      go_wp2_with (at_builtin; refine append_one rfl _ _ 57 4 rfl (.bool false) 1 1 Try.underlying57 (by kernel_rfl) rfl (by decide) _ ts.length (toV ts) rfl (HO1.out.alloc _) wd.heap.size 1 rfl [.bool b] rfl ?e1 ?e2 ?e3 ?e4 ?e5)
      case e1 => exact one_cell
      case e2 => intro u hu; simp at hu; subst hu; rfl
      case e3 => have := HN3.out; unfold maxLen; omega
      case e4 => have := HN3.out; omega
      case e5 =>
        intro gg cap w1 hown1 hgrow hat
        have hbk := rb_still HB1.out ((Chg.refl wd Nothing).alloc _) hgrow (off_row HB1.out.tos (by rw [HB1.out.tr]; decide))
        have y1 : w1.cell? ⟨r, 3, none⟩ = some (.slice a3 ts.length k3) := blk_cell hbk 3
        have y2 : w1.frozen? ⟨r, 3, none⟩ = false := blk_free hbk 3
        have R := Lib.hid (HB1.out.told (x := b) ((Chg.refl wd Nothing).alloc _) hgrow hown1 (hat.imp id (fun h => by simpa using h)))
        clear hown1 hgrow hat hbk d3 f3
        go_wp2_with fail
        go_meet
        exact ⟨_, _, _, R.out⟩
    case rest =>
      obtain ⟨T2, b3, j3, R2, C2, N2⟩ := hcut
      obtain ⟨d0, d1, d2, e3, d4, d5⟩ := R2.cells
      have hr2 : r < wc.heap.size := R2.lt r (by rw [R2.tr]; decide)
      have hrn3 : ¬ r = wc.heap.size := by omega
      have HB2 := Lib.hid R2
      have HC2 := Lib.hid C2
      have HN2' := Lib.hid N2
      have HO2 := Lib.hid R2.labels.1
      clear R2 C2 N2 d0 d1 e3 d4 d5 d3 f3
      go_wp2_with (at_builtin; refine append_one rfl _ _ 56 3 rfl (.int .i64 0) 1 8 Try.underlying56 (by kernel_rfl) rfl (by decide) _ ls.length (labV ls) rfl (HO2.out.alloc _) wc.heap.size 1 rfl [.int .i64 l] rfl ?e1 ?e2 ?e3 ?e4 ?e5)
      case e1 => exact one_cell
      case e2 => intro u hu; simp at hu; subst hu; rfl
      case e3 => have := HN2.out; unfold maxLen; omega
      case e4 => have := HN2.out; omega
      case e5 =>
        intro gg cap w1 hown1 hgrow hat
        have hbk := rb_still HB2.out ((Chg.refl wc Nothing).alloc _) hgrow (off_row HB2.out.labels (by rw [HB2.out.tr]; decide))
        have y1 : w1.cell? ⟨r, 2, none⟩ = some (.slice a2 ls.length k2) := blk_cell hbk 2
        have y2 : w1.frozen? ⟨r, 2, none⟩ = false := blk_free hbk 2
        obtain ⟨r1, r2, r3⟩ := HB2.out.laid (x := l) ((Chg.refl wc Nothing).alloc _) hgrow hown1 (hat.imp id (fun h => by simpa using h))
        have s1 := HC1.out.size
        have s2 := HC2.out.size
        have n1 := HN1.out
        have n2 := HN2'.out
        have m2 : ∀ k, T2 k ≠ 0 → T k ≠ 0 ∨ w.heap.size ≤ k := fun k hk => (n2 k hk).elim (fun h => n1 k h) (fun h => .inr (by omega))
        have cc1 : Chg w wc (fun k => T k ≠ 0) := HC1.out.trans HC2.out (fun k hk h => (n1 k h).resolve_right (by omega))
        have R := Lib.hid (And.intro r1 (And.intro (cc1.trans r2 (fun k hk h => (m2 k h).resolve_right (by omega))) (fun k hk => (r3 k hk).elim (m2 k) (fun h => .inr (by omega)))))
        clear hown1 hgrow hat hbk d2 n1 n2 m2 cc1 r1 r2 r3 s1 s2
        go_wp2_with fail
        go_end0
        exact ⟨rfl, _, _, _, _, _, _, _, R.out⟩
end Go.Proofs.Ythgcmafeahlmpaa
