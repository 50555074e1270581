/- The document's Program. -/
import Derived.Test.YthgcmafeahlmpaaA12
namespace Go.Proofs.Ythgcmafeahlmpaa
open Go Go.RowKit
set_option linter.unusedVariables false
set_option linter.unusedSimpArgs false

/-- What the document's Program leaves. -/
def RProg (w w' : World) (s : Asm) (v : Value) : Prop :=
  Chg w w' Nothing ∧ ((progE s ≠ 0 ∧ v = .agg #[.int .i64 0, .slice none 0 0]) ∨ (progE s = 0 ∧ ∃ out a c, fillAll s.marks s.code s.tos = some out ∧ out.length = s.code.length ∧ v = .agg #[.int .i64 s.tag, .slice a out.length c] ∧ Sees w' a (insV out)))
theorem rprog_results {tmps : Array Value} {W : World} {r0 : Nat} {a b : Value} {ee : Int} {T : TypeId} {fr : Nat × Nat} (h2 : tmps.getD 2 undef = .pointer (some ⟨r0, 0, none⟩)) (h3 : tmps.getD 3 undef = .int .i64 ee) (hb : W.heap[r0]? = some (.cells #[a, b] T fr)) :
    (results Try.f25 tmps).run Try.prog W = .ok (.tuple #[.agg #[a, b], .int .i64 ee]) W := by
  have h2' : tmps[2]?.getD undef = .pointer (some ⟨r0, 0, none⟩) := by simpa using h2
  have h3' : tmps[3]?.getD undef = .int .i64 ee := by simpa using h3
  have hl := run_loadVar_row (P := Try.prog) W r0 T 37 #[a, b] fr _ hb Try.underlying37 rfl (by kernel_rfl)
  have k0 : W.cell? ⟨r0, 0, none⟩ = some a := by rw [blk_cell hb]; rfl
  have k1 : W.cell? ⟨r0, 1, none⟩ = some b := by rw [blk_cell hb]; rfl
  simp [results, Try.results25, h2', h3', asAddr, hl, k0, k1, go_sem]

theorem cell_old {w : World} {o : Obj} {a : Addr} {v : Value} (h : w.cell? a = some v) (hl : a.block < w.heap.size) : (w.alloc o).cell? a = some v :=
  (World.cell?_of_block (w := w) (w' := w.alloc o) (Below.heap_alloc _ _ _ hl)).trans h
theorem cell_new2 {w : World} {a b : Value} {T : TypeId} : (w.alloc (.cells #[a, b] T)).cell? ⟨w.heap.size, 0, none⟩ = some a ∧ (w.alloc (.cells #[a, b] T)).cell? ⟨w.heap.size, 1, none⟩ = some b :=
  ⟨blk_cell (heap_alloc_new w _) 0, blk_cell (heap_alloc_new w _) 1⟩
theorem mkV_at : ∀ (m : List (Int × Nat)) (i : Nat) (t : Int × Nat), m[i]? = some t → (mkV m)[i * 2]? = some (.int .i64 t.1) ∧ (mkV m)[i * 2 + 1]? = some (.int .i64 (t.2 : Int))
  | [], i, t, h => by simp at h
  | u :: l, 0, t, h => by
    simp at h
    subst h
    exact ⟨rfl, rfl⟩
  | u :: l, i + 1, t, h => by
    have := mkV_at l i t (by simpa using h)
    rw [show (i + 1) * 2 = i * 2 + 2 by omega]
    exact this
/-- The document's Program under way in its first loop. -/
def R1 (w wr : World) (r0 g : Nat) (m : List (Int × Nat)) : Prop :=
  Chg w wr Nothing ∧ wr.heap[r0]? = some (.cells zeroP 37 (0, 0)) ∧ wr.ownsRow w.heap.size 3 1 (.slice (some ⟨g, 0, none⟩) 256 256) 256 (seenV m) ∧ r0 ≠ g

/-- .. and in its second. -/
def R2 (w wr : World) (r0 g q : Nat) (m : List (Int × Nat)) (tag : Int) (out : List Ins) (a : Option Addr) (c : Nat) : Prop :=
  R1 w wr r0 g m ∧ wr.heap[q]? = some (.cells #[.int .i64 tag, .slice a out.length c] 37 (0, 0)) ∧ wr.ownsRow w.heap.size 42 3 (.slice a out.length c) out.length (insV out) ∧
    (∀ b, (Value.slice a out.length c).ownBlock = some b → b ≠ r0 ∧ b ≠ g ∧ b ≠ q) ∧ q ≠ r0 ∧ q ≠ g ∧ w.heap.size ≤ q
theorem R1.chg {w wr w2 : World} {r0 g : Nat} {m : List (Int × Nat)} {S : Nat → Prop} (h : R1 w wr r0 g m) (hc : Chg wr w2 S) (h0 : ¬ S r0) (h1 : ¬ S g) (h2 : ∀ k, S k → w.heap.size ≤ k) : R1 w w2 r0 g m := by
  obtain ⟨a, b, c, d⟩ := h
  exact ⟨a.trans hc (fun k hk hS => absurd (h2 k hS) (by omega)), (hc.block _ (blk_lt b) h0).trans b, ownsRow_heap c (fun k hk => hc.block k (c.lt k hk).2 (by injection hk with hk; have hk : g = k := hk; rw [← hk]; exact h1)), d⟩
theorem R2.first {w W : World} {r0 g : Nat} {m : List (Int × Nat)} {tag : Int} (h : R1 w W r0 g m) : R2 w (W.alloc (.cells #[.int .i64 tag, .slice none 0 0] 37)) r0 g W.heap.size m tag [] none 0 := by
  have l0 := blk_lt h.2.1
  have l1 := (h.2.2.1.lt g rfl).2
  have l2 := h.1.size
  refine ⟨h.chg ((Chg.refl W Nothing).alloc _) id id (fun _ h => h.elim), heap_alloc_new _ _, World.ownsRow_nil _ _ _ _, by simp [Value.ownBlock], by omega, by omega, l2⟩
theorem R2.snoc {w wr W w2 : World} {r0 g0 q g cap c : Nat} {m : List (Int × Nat)} {tag : Int} {out : List Ins} {a : Option Addr} {y : Ins} (h : R2 w wr r0 g0 q m tag out a c) (hc : Chg wr W Nothing) (hg : W.grownBy w2 (Value.slice a out.length c).ownBlock)
    (hown : w2.ownsRow 0 42 3 (.slice (some ⟨g, 0, none⟩) (out.length + 1) cap) (out.length + 1) (insV out ++ [.int .i64 y.1, .int .i64 y.2.1, fl y.2.2])) (hgg : (Value.slice a out.length c).ownBlock = some g ∨ W.heap.size ≤ g) :
    R2 w (w2.setCell ⟨q, 1, none⟩ (.slice (some ⟨g, 0, none⟩) (out.length + 1) cap)) r0 g0 q m tag (out ++ [y]) (some ⟨g, 0, none⟩) cap := by
  obtain ⟨h1, h2, h3, h4, h5, h6, h7⟩ := h
  have l0 := blk_lt h1.2.1
  have l1 := (h1.2.2.1.lt g0 rfl).2
  have l2 := blk_lt h2
  have l3 := hc.size
  have l4 := h1.1.size
  have hgn : g ≠ r0 ∧ g ≠ g0 ∧ g ≠ q := by
    rcases hgg with h | h
    · exact h4 g h
    · exact ⟨by omega, by omega, by omega⟩
  have hgw : w.heap.size ≤ g := by
    rcases hgg with h | h
    · exact (h3.lt g h).1
    · omega
  have c1 : Chg wr w2 (fun k => (Value.slice a out.length c).ownBlock = some k) := (hc.mono (fun _ _ h => h.elim)).grown hg (fun k hk => .inr hk)
  have c2 : Chg wr (w2.setCell ⟨q, 1, none⟩ (.slice (some ⟨g, 0, none⟩) (out.length + 1) cap)) (fun k => (Value.slice a out.length c).ownBlock = some k ∨ k = q) := (c1.mono (fun _ _ h => .inl h)).setCell (.inr (.inr rfl)) _
  have e1 : (out ++ [y]).length = out.length + 1 := by simp
  refine ⟨h1.chg c2 (by rintro (h | h); exact (h4 _ h).1 rfl; exact h5 h.symm) (by rintro (h | h); exact (h4 _ h).2.1 rfl; exact h6 h.symm) (by rintro k (h | rfl); exact (h3.lt k h).1; exact h7), ?_, ?_, ?_, h5, h6, h7⟩
  · have := blk_set ((c1.block q l2 (fun h => (h4 q h).2.2 rfl)).trans h2) 1 (.slice (some ⟨g, 0, none⟩) (out.length + 1) cap)
    rw [e1]
    simpa using this
  · rw [e1, insV_snoc]
    exact ownsRow_rebase (ownsRow_heap hown (fun k hk => by injection hk with hk; have hk : g = k := hk; exact Below.heap_setCell _ _ _ _ (by rw [← hk]; exact hgn.2.2))) (fun k hk => by injection hk with hk; have hk : g = k := hk; omega)
  · intro b hb
    injection hb with hb
    have hb : g = b := hb
    rw [← hb]
    exact hgn
theorem R2.still {w wr W w2 : World} {r0 g0 q c : Nat} {m : List (Int × Nat)} {tag : Int} {out : List Ins} {a : Option Addr} (h : R2 w wr r0 g0 q m tag out a c) (hc : Chg wr W Nothing) (hg : W.grownBy w2 (Value.slice a out.length c).ownBlock) :
    w2.heap[q]? = some (.cells #[.int .i64 tag, .slice a out.length c] 37 (0, 0)) := by
  obtain ⟨h1, h2, h3, h4, h5, h6, h7⟩ := h
  have l2 := blk_lt h2
  have l3 := hc.size
  exact (hg.block q (by omega) (fun e => (h4 q e.symm).2.2 rfl)).trans ((hc.block q l2 id).trans h2)
theorem new3b {w : World} {o : Obj} {x y z : Value} {T : TypeId} : ∀ j u, [x, y, z][j]? = some u → ((w.alloc o).alloc (.cells #[x, y, z] T)).cell? ⟨w.heap.size + 1, j, none⟩ = some u := by
  intro j u hj
  have := new3 (w := w.alloc o) (T := T) j u hj
  rwa [World.size_alloc] at this
theorem seenOf_cons {m : List (Int × Nat)} {l : Int} {p0 : Nat} {ps : List Nat} (h : placesOf m l = p0 :: ps) : seenOf m l = (p0 : Int) + 1 := by
  unfold seenOf
  rw [h]
theorem take_snoc' {α : Type} {l : List α} {i : Nat} {x : α} (h : l[i]? = some x) : l.take (i + 1) = l.take i ++ [x] := by
  rw [List.take_add_one, h]
  rfl

theorem R2.off1 {w wr : World} {r0 g0 q c : Nat} {m : List (Int × Nat)} {tag : Int} {out : List Ins} {a : Option Addr} (h : R2 w wr r0 g0 q m tag out a c) {k : Nat} (hk : (Value.slice a out.length c).ownBlock = some k) : k ≠ wr.heap.size := by
  have := (h.2.2.1.lt k hk).2
  omega
theorem ownsRow_alloc2 {w : World} {base : Nat} {e : TypeId} {size : Nat} {v : Value} {n j : Nat} {xs : List Value} {u : Value} {o o' : Obj} (h : w.ownsRow base e size v n xs) (hb : ∀ k, v.ownBlock = some k → k ≠ w.heap.size) :
    (((w.alloc o).setCell ⟨w.heap.size, j, none⟩ u).alloc o').ownsRow base e size v n xs :=
  World.ownsRow.alloc (ownsRow_heap (w := w.alloc o) (h.alloc o) (fun k hk => Below.heap_setCell _ _ _ _ (hb k hk))) o'
theorem new3c {w : World} {o : Obj} {j' : Nat} {v : Value} {x y z : Value} {T : TypeId} : ∀ j u, [x, y, z][j]? = some u → (((w.alloc o).setCell ⟨w.heap.size, j', none⟩ v).alloc (.cells #[x, y, z] T)).cell? ⟨w.heap.size + 1, j, none⟩ = some u := by
  intro j u hj
  have := new3 (w := (w.alloc o).setCell ⟨w.heap.size, j', none⟩ v) (T := T) j u hj
  have e : ((w.alloc o).setCell ⟨w.heap.size, j', none⟩ v).heap.size = w.heap.size + 1 := by simp
  rwa [e] at this

set_option maxRecDepth 100000 in
set_option maxHeartbeats 16000000 in
theorem rprogram_any (r : Nat) (F : Nat → Prop) (s : Asm) (w : World) (h : Rb w r F s) (hb : s.code.length < 4398046511103) (hmb : s.marks.length < 4398046511103) (hpl : ∀ t ∈ s.marks, t.2 ≤ s.code.length) :
    Calls Try.prog 25 #[.pointer (some ⟨r, 0, none⟩)] w fun e w' => ∃ v, e = .returned (.tuple #[v, .int .i64 (progE s)]) ∧ RProg w w' s v := by
  obtain ⟨hF, hl, T, a1, k1, a2, k2, a3, k3, a4, k4, hB, hT⟩ := h
  obtain ⟨c0, c1, c2, c3, c4, c5⟩ := hB.cells
  have hr : r < w.heap.size := hB.lt r (by rw [hB.tr]; decide)
  have hrn : ¬ r = w.heap.size := by omega
  have HB := Lib.hid hB
  have HL := Lib.hid hl
  have HN := Lib.hid hb
  have HM := Lib.hid hmb
  have HP := Lib.hid hpl
  have C0 := Lib.hid c0
  have C1 := Lib.hid c1
  have C2 := Lib.hid c2
  have C3 := Lib.hid c3
  have C4 := Lib.hid c4
  have C5 := Lib.hid c5
  clear hB hF hT hl hb hmb hpl c0 c1 c2 c3 c4 c5
  go_enter Try.func25, Try.ntmps25
  go_wp2_with (at_make; refine make_row rfl _ _ 56 3 rfl (.int .i64 0) 8 Try.underlying56 (by kernel_rfl) rfl .i64 .i64 256 256 256 rfl rfl rfl rfl (by omega) (by unfold maxLen; omega) ?c1)
  case c1 =>
    intro w1 hown1 hg1
    have e0 : w1.heap[w.heap.size]? = some (.cells zeroP 37 (0, 0)) := (hg1.block _ (by simp) (by simp)).trans (heap_alloc_new w _)
    have hcw : Chg w w1 Nothing := ((Chg.refl w Nothing).alloc _).grown hg1 (fun k hk => by simp at hk)
    have hown1 : w1.ownsRow (w.heap.size + 1) 3 1 (.slice (some ⟨w.heap.size + 1, 0, none⟩) 256 256) 256 (seenV []) := by rw [seenV_nil]; exact hown1
    have P1 := Lib.hid (show R1 w w1 w.heap.size (w.heap.size + 1) [] from ⟨hcw, e0, ownsRow_base hown1 (by omega), by omega⟩)
    have d5 := hcw.cell C5.out id
    clear e0 hcw hown1 hg1
    go_wp2_with fail
    go_loopg [18] (s.marks.length) (fun k v wr => ∃ i : Nat, i ≤ s.marks.length ∧ v = .int .i64 (i : Int) ∧ k = s.marks.length - i ∧ R1 w wr w.heap.size (w.heap.size + 1) (s.marks.take i) ∧ GoodPre s.labels (s.marks.take i))
    case atStart => exact ⟨0, Nat.zero_le _, rfl, rfl, P1.out, by simpa using GoodPre.nil _⟩
    case round =>
      obtain ⟨i, hi, rfl, hk, hR, hG⟩ := hrel
      have hcw := hR.1
      have D5 := hcw.cell C5.out id
      have D4 := hcw.cell C4.out id
      have HK := Lib.hid hk
      have HR := Lib.hid hR
      have HG := Lib.hid hG
      have hsz := hcw.size
      have n1 : ¬ r = wr.heap.size := by omega
      by_cases hlt : i < s.marks.length
      · obtain ⟨k, n, ht⟩ : ∃ k n, s.marks[i]? = some (k, n) := ⟨_, _, List.getElem?_eq_getElem hlt⟩
        obtain ⟨ab, c', e4⟩ := (ownsRow_shape HB.out.marks.1).2 (by omega)
        injection e4 with e5 e6 e7
        subst e5 e7
        have hb : ab < w.heap.size := (HB.out.marks.1.lt ab rfl).2
        have n2 : ¬ ab = wr.heap.size := by omega
        have m0 : (mkV s.marks)[i * 2]? = some (.int .i64 k) := (mkV_at s.marks i (k, n) ht).1
        have m1 : (mkV s.marks)[i * 2 + 1]? = some (.int .i64 (n : Int)) := (mkV_at s.marks i (k, n) ht).2
        have L0 : wr.cell? ⟨ab, i * 2, none⟩ = some (.int .i64 k) := by
          have := HB.out.marks.1.cellAt (i * 2) (by omega)
          rw [m0] at this
          exact hcw.cell this id
        have L1 : wr.cell? ⟨ab, i * 2 + 1, none⟩ = some (.int .i64 (n : Int)) := by
          have := HB.out.marks.1.cellAt (i * 2 + 1) (by omega)
          rw [m1] at this
          exact hcw.cell this id
        have q1 : decide ((i : Int) < (s.marks.length : Int)) = true := decide_eq_true (by omega)
        have HT := Lib.hid ht
        have B0 := cell_new2 (w := wr) (a := .int .i64 k) (b := .int .i64 (n : Int)) (T := 67)
        have hs0 : s.marks = s.marks.take i ++ (k, n) :: s.marks.drop (i + 1) := by
          conv => lhs; rw [← List.take_append_drop i s.marks]
          rw [List.drop_eq_getElem_cons hlt]
          have := (List.getElem?_eq_some_iff.1 ht).2
          rw [this]
        have HS0 := Lib.hid hs0
        have hr0 : w.heap.size < wr.heap.size := (Array.getElem?_eq_some_iff.1 hR.2.1).1
        have hgl : w.heap.size + 1 < wr.heap.size := (hR.2.2.1.lt _ rfl).2
        have n3 : ¬ w.heap.size = wr.heap.size := by omega
        have n4 : ¬ w.heap.size + 1 = wr.heap.size := by omega
        have z0 : wr.cell? ⟨w.heap.size, 0, none⟩ = some (.int .i64 0) := blk_cell hR.2.1 0
        have z1 : wr.cell? ⟨w.heap.size, 1, none⟩ = some (.slice none 0 0) := blk_cell hR.2.1 1
        have z2 : wr.frozen? ⟨w.heap.size, 0, none⟩ = false := blk_free hR.2.1 0
        have z3 : wr.frozen? ⟨w.heap.size, 1, none⟩ = false := blk_free hR.2.1 1
        have HHR := Lib.hid (hR.2.1)
        have B4 : (wr.alloc (.cells #[.int .i64 k, .int .i64 (n : Int)] 67)).cell? ⟨r, 4, none⟩ = some (.int .i64 (s.labels : Int)) := cell_old D4 (by show r < _; omega)
        have HR0 := Lib.hid hr0
        have HGL := Lib.hid hgl
        by_cases hgood : 0 ≤ k ∧ k < s.labels ∧ placesOf (s.marks.take i) k = []
        · obtain ⟨g1, g2, g3⟩ := hgood
          obtain ⟨kn, rfl⟩ := Int.eq_ofNat_of_zero_le g1
          have hmost := HB.out.most
          have hnb := HP.out _ (List.mem_of_getElem? HT.out)
          have hnb2 := HN.out
          have hs0' : seenOf (s.marks.take i) (kn : Int) = 0 := (seenOf_pos _ _).2.2 g3
          have hkn : kn < 256 := by omega
          have hkn2 : (kn : Int) < 256 := by omega
          have q2 : decide ((kn : Int) < 0) = false := decide_eq_false (by omega)
          have q3 : decide ((s.labels : Int) ≤ (kn : Int)) = false := decide_eq_false (by omega)
          have q5 : decide (s.labels ≤ kn) = false := decide_eq_false (by omega)
          have qw : wrap64 ((n : Int) + 1) = (n : Int) + 1 := IntWalk.wrap64_in _ ⟨by omega, by simp only at hnb; omega⟩
          have L2 : wr.cell? ⟨w.heap.size + 1, kn, none⟩ = some (.int .i64 0) := by
            have := hR.2.2.1.cellAt kn (by omega)
            rw [seenV_at _ hkn, hs0'] at this
            exact this
          have L3 : wr.frozen? ⟨w.heap.size + 1, kn, none⟩ = false := hR.2.2.1.frozenAt _
          have B6 := cell_old (o := .cells #[.int .i64 (kn : Int), .int .i64 (n : Int)] 67) L2 (by show w.heap.size + 1 < _; exact HGL.out)
          have R2 : ∀ nq, R1 w (((wr.alloc (.cells #[.int .i64 (kn : Int), .int .i64 (n : Int)] 67)).drewN nq).setCell ⟨w.heap.size + 1, kn, none⟩ (.int .i64 ((n : Int) + 1))) w.heap.size (w.heap.size + 1) (s.marks.take (i + 1)) := fun nq => by
            rw [List.take_add_one, HT.out, Option.toList_some]
            refine ⟨((hcw.alloc _).drewN nq).setCell (.inl (by show w.heap.size ≤ w.heap.size + 1; omega)) _, (Below.heap_setCell _ _ _ _ (by show ¬ w.heap.size = w.heap.size + 1; omega)).trans ((Below.heap_alloc _ _ _ HR0.out).trans hR.2.1), ?_, by omega⟩
            rw [seenV_snoc hkn g3]
            have hO : ((wr.alloc (.cells #[.int .i64 (kn : Int), .int .i64 (n : Int)] 67)).drewN nq).ownsRow w.heap.size 3 1 (.slice (some ⟨w.heap.size + 1, 0, none⟩) 256 256) 256 (seenV (s.marks.take i)) := ownsRow_heap (hR.2.2.1.alloc (.cells #[.int .i64 (kn : Int), .int .i64 (n : Int)] 67)) (fun _ _ => rfl)
            exact (hO.stored kn _).1
          have R2 := Lib.hid R2
          have hG2 := Lib.hid (show GoodPre s.labels (s.marks.take (i + 1)) by rw [List.take_add_one, HT.out, Option.toList_some]; exact hG.snoc g1 g2 g3)
          clear hi hk hR hG hcw hsz m0 m1 ht hs0 hs0' hnb hnb2 hmost g3
          go_upto_region 5 with fail
          have q4 : decide ((0 : Int) < 0) = false := by decide
          go_quiet (fail)
          go_wp2_with fail
          go_roundg (s.marks.length - (i + 1))
          case measure => rw [HK.out]; omega
          case rel => exact ⟨i + 1, by omega, by rw [IntWalk.wrap64_in _ ⟨by omega, by have := HM.out; omega⟩]; rfl, rfl, R2.out _, hG2.out⟩
        · have HBAD := Lib.hid (progE_marks (fun hm => (GoodPre.bad (rest := s.marks.drop (i + 1)) (t := (k, n)) (many := s.labels) (m := s.marks.take i) (by
            by_cases h1 : k < 0
            · exact .inl h1
            · by_cases h2 : (s.labels : Int) ≤ k
              · exact .inr (.inl h2)
              · exact .inr (.inr (fun h3 => hgood ⟨by omega, by omega, h3⟩)))) (by rw [← hs0]; exact (marksOk_pre s).1 hm)))
          have CW := Lib.hid hcw
          have hcases : k < 0 ∨ (0 ≤ k ∧ (s.labels : Int) ≤ k) ∨ (0 ≤ k ∧ k < s.labels ∧ placesOf (s.marks.take i) k ≠ []) := by
            by_cases h1 : k < 0
            · exact .inl h1
            · by_cases h2 : (s.labels : Int) ≤ k
              · exact .inr (.inl ⟨by omega, h2⟩)
              · exact .inr (.inr ⟨by omega, by omega, fun h3 => hgood ⟨by omega, by omega, h3⟩⟩)
          have HCC := Lib.hid hcases
          clear hi hk hR hG hcw hsz m0 m1 ht hgood hs0 hcases
          go_upto_region 5 with fail
          rcases HCC.out with g1 | ⟨g1, g2⟩ | ⟨g1, g2, g3⟩
          · have q2 : decide (k < 0) = true := decide_eq_true g1
            clear g1
            go_quiet (fail)
            go_wp2_with fail
            refine bodyPost_ret (v := .tuple #[.agg #[.int .i64 0, .slice none 0 0], .int .i64 190]) ?_ ?_ ?_
            · exact rprog_results rfl rfl (two_set ((Below.heap_alloc _ _ _ HR0.out).trans HHR.out))
            · rfl
            · exact ⟨_, by rw [HBAD.out], (((CW.out.alloc _).drewN _).setCell (.inl (Nat.le_refl _)) _).setCell (.inl (Nat.le_refl _)) _, .inl ⟨by rw [HBAD.out]; decide, rfl⟩⟩
          · have q2 : decide (k < 0) = false := decide_eq_false (by omega)
            have q3 : decide ((s.labels : Int) ≤ k) = true := decide_eq_true g2
            go_quiet (fail)
            go_wp2_with fail
            refine bodyPost_ret (v := .tuple #[.agg #[.int .i64 0, .slice none 0 0], .int .i64 190]) ?_ ?_ ?_
            · exact rprog_results rfl rfl (two_set ((Below.heap_alloc _ _ _ HR0.out).trans HHR.out))
            · rfl
            · exact ⟨_, by rw [HBAD.out], (((CW.out.alloc _).drewN _).setCell (.inl (Nat.le_refl _)) _).setCell (.inl (Nat.le_refl _)) _, .inl ⟨by rw [HBAD.out]; decide, rfl⟩⟩
          · obtain ⟨kn, rfl⟩ := Int.eq_ofNat_of_zero_le g1
            have hmost := HB.out.most
            have q2 : decide ((kn : Int) < 0) = false := decide_eq_false (by omega)
            have q3 : decide ((s.labels : Int) ≤ (kn : Int)) = false := decide_eq_false (by omega)
            have q4 : decide (0 < seenOf (s.marks.take i) (kn : Int)) = true := decide_eq_true ((seenOf_pos _ _).1.2 g3)
            have q5 : decide (s.labels ≤ kn) = false := decide_eq_false (by omega)
            have hkn : kn < 256 := by omega
            have hkn2 : (kn : Int) < 256 := by omega
            have hkn3 : (0 : Int) ≤ (kn : Int) := by omega
            have L2 : wr.cell? ⟨w.heap.size + 1, kn, none⟩ = some (.int .i64 (seenOf (s.marks.take i) (kn : Int))) := by
              have := HR.out.2.2.1.cellAt kn (by omega)
              rw [seenV_at _ hkn] at this
              exact this
            have B6 := cell_old (o := .cells #[.int .i64 (kn : Int), .int .i64 (n : Int)] 67) L2 (by show w.heap.size + 1 < _; exact HGL.out)
            clear g3 hmost hkn3 g1 g2
            generalize seenOf (s.marks.take i) (kn : Int) = sv at *
            go_quiet (fail)
            go_wp2_with fail
            refine bodyPost_ret (v := .tuple #[.agg #[.int .i64 0, .slice none 0 0], .int .i64 190]) ?_ ?_ ?_
            · exact rprog_results rfl rfl (two_set ((Below.heap_alloc _ _ _ HR0.out).trans HHR.out))
            · rfl
            · exact ⟨_, by rw [HBAD.out], (((CW.out.alloc _).drewN _).setCell (.inl (Nat.le_refl _)) _).setCell (.inl (Nat.le_refl _)) _, .inl ⟨by rw [HBAD.out]; decide, rfl⟩⟩
      · have hie : i = s.marks.length := by omega
        have q1 : decide ((i : Int) < (s.marks.length : Int)) = false := decide_eq_false (by omega)
        have hGG : GoodPre s.labels s.marks := by rw [hie, List.take_length] at hG; exact hG
        have HOK := Lib.hid ((marksOk_pre s).2 hGG)
        rw [hie, List.take_length] at hR
        have HR2 := Lib.hid hR
        have D0 := hcw.cell C0.out id
        have D1 := hcw.cell C1.out id
        have CW := Lib.hid hcw
        have B1 := cell_old (o := .cells #[.int .i64 s.tag, .slice none 0 0] 37) D1 (by show r < _; omega)
        clear hi hk hR hG hGG hcw HR HG hie
        go_upto_region 9 with fail
        go_cut [7] (fun v wx => ∃ q a c, v = .pointer (some ⟨q, 0, none⟩) ∧ R2 w wx w.heap.size (w.heap.size + 1) q s.marks s.tag [] a c)
        case first =>
          go_wp2_with fail
          go_meet
          exact ⟨_, _, _, rfl, R2.first HR2.out⟩
        case rest =>
          obtain ⟨q, a0, z0, rfl, hR9⟩ := hcut
          have hcw9 := hR9.1.1
          have D1 := hcw9.cell C1.out id
          have R9 := Lib.hid hR9
          clear hR9 hcw9 D0 B1
          go_wp2_with fail
          go_loopg [61] (s.code.length) (fun k v wq => ∃ (i : Nat) (out : List Ins) (a : Option Addr) (c : Nat), i ≤ s.code.length ∧ v = .int .i64 (i : Int) ∧ k = s.code.length - i ∧ out.length = i ∧ R2 w wq w.heap.size (w.heap.size + 1) q s.marks s.tag out a c ∧ fillAll s.marks (s.code.take i) (s.tos.take i) = some out)
          case atStart => exact ⟨0, [], _, _, Nat.zero_le _, rfl, rfl, rfl, R9.out, by simp [fillAll]⟩
          case round =>
            obtain ⟨i, out, a, c, hi, rfl, hk, hol, hR, hfl⟩ := hrel
            have hcw := hR.1.1
            have hsz := hcw.size
            have n1 : ¬ r = wr.heap.size := by omega
            have HK := Lib.hid hk
            have HR := Lib.hid hR
            have HFL := Lib.hid hfl
            have HOL := Lib.hid hol
            have l0 := blk_lt hR.1.2.1
            have l1 := blk_lt hR.2.1
            have l2 := (hR.1.2.2.1.lt (w.heap.size + 1) rfl).2
            have n2 : ¬ q = wr.heap.size := by omega
            have n3 : ¬ w.heap.size = wr.heap.size := by omega
            have n4 : ¬ w.heap.size + 1 = wr.heap.size := by omega
            have v1 : r < wr.heap.size := by omega
            have v3 : w.heap.size < wr.heap.size := l0
            have v2 : q < wr.heap.size := by omega
            have v4 : w.heap.size + 1 < wr.heap.size := by omega
            have Q0 : wr.cell? ⟨q, 0, none⟩ = some (.int .i64 s.tag) := blk_cell hR.2.1 0
            have Q1 : wr.cell? ⟨q, 1, none⟩ = some (.slice a out.length c) := blk_cell hR.2.1 1
            have y0 : wr.cell? ⟨w.heap.size, 0, none⟩ = some (.int .i64 0) := blk_cell hR.1.2.1 0
            have y1 : wr.cell? ⟨w.heap.size, 1, none⟩ = some (.slice none 0 0) := blk_cell hR.1.2.1 1
            have y2 : wr.frozen? ⟨w.heap.size, 0, none⟩ = false := blk_free hR.1.2.1 0
            have y3 : wr.frozen? ⟨w.heap.size, 1, none⟩ = false := blk_free hR.1.2.1 1
            have L0 := Lib.hid l0
            have L2 := Lib.hid l2
            have CW := Lib.hid hcw
            have D2 := hcw.cell C2.out id
            have D3 := hcw.cell C3.out id
            have D4 := hcw.cell C4.out id
            rw [List.length_map, ← HL.out] at D2 D3
            by_cases hlt : i < s.code.length
            · have htl : i < s.tos.length := by rw [← HL.out]; exact hlt
              obtain ⟨op, n, x, ht⟩ : ∃ op n x, s.code[i]? = some (op, n, x) := ⟨_, _, _, List.getElem?_eq_getElem hlt⟩
              obtain ⟨t, htt⟩ : ∃ t, s.tos[i]? = some t := ⟨_, List.getElem?_eq_getElem htl⟩
              have HT := Lib.hid ht
              have HTT := Lib.hid htt
              obtain ⟨ab, c', e4⟩ := (ownsRow_shape HB.out.code.1).2 (by omega)
              injection e4 with e5 e6 e7
              subst e5 e7
              obtain ⟨ab2, c2', e4⟩ := (ownsRow_shape HB.out.labels.1).2 (by rw [List.length_map, ← HL.out]; omega)
              injection e4 with e5 e6 e7
              subst e5 e7
              obtain ⟨ab3, c3', e4⟩ := (ownsRow_shape HB.out.tos.1).2 (by rw [List.length_map, ← HL.out]; omega)
              injection e4 with e5 e6 e7
              subst e5 e7
              have b1 := (HB.out.code.1.lt ab rfl).2
              have b2 := (HB.out.labels.1.lt ab2 rfl).2
              have b3 := (HB.out.tos.1.lt ab3 rfl).2
              have m1 : ¬ ab = wr.heap.size := by omega
              have m2 : ¬ ab2 = wr.heap.size := by omega
              have m3 : ¬ ab3 = wr.heap.size := by omega
              have m4 : ab < wr.heap.size := by omega
              have m5 : ab2 < wr.heap.size := by omega
              have m6 : ab3 < wr.heap.size := by omega
              have K0 : wr.cell? ⟨ab, i * 3, none⟩ = some (.int .i64 op) := by
                have := HB.out.code.1.cellAt (i * 3) (by omega)
                rw [(insV_at _ _ _ ht).1] at this
                exact hcw.cell this id
              have K1 : wr.cell? ⟨ab, i * 3 + 1, none⟩ = some (.int .i64 n) := by
                have := HB.out.code.1.cellAt (i * 3 + 1) (by omega)
                rw [(insV_at _ _ _ ht).2.1] at this
                exact hcw.cell this id
              have K2 : wr.cell? ⟨ab, i * 3 + 2, none⟩ = some (fl x) := by
                have := HB.out.code.1.cellAt (i * 3 + 2) (by omega)
                rw [(insV_at _ _ _ ht).2.2] at this
                exact hcw.cell this id
              have K3 : wr.cell? ⟨ab2, i, none⟩ = some (.int .i64 (t.getD 0)) := by
                have := HB.out.labels.1.cellAt i (by rw [List.length_map, ← HL.out]; omega)
                rw [show (labV (s.tos.map (·.getD 0)))[i]? = some (.int .i64 (t.getD 0)) by simp [labV, htt]] at this
                exact hcw.cell this id
              have K4 : wr.cell? ⟨ab3, i, none⟩ = some (.bool t.isSome) := by
                have := HB.out.tos.1.cellAt i (by rw [List.length_map, ← HL.out]; omega)
                rw [show (toV (s.tos.map Option.isSome))[i]? = some (.bool t.isSome) by simp [toV, htt]] at this
                exact hcw.cell this id
              have q1 : decide ((i : Int) < (s.code.length : Int)) = true := decide_eq_true (by omega)
              have OWN := Lib.hid (ownsRow_base hR.2.2.1 (Nat.zero_le _))
              have RR0 := Lib.hid hR.1.2.1
              have HNI := Lib.hid (show i < 4398046511103 by have := HN.out; omega)
              clear hR hcw hsz hfl hk ht b1 b2 b3 e6 l0 l1 l2
              clear hol
              cases t with
              | none =>
                have HF1 := Lib.hid (show fillAll s.marks (s.code.take (i + 1)) (s.tos.take (i + 1)) = some (out ++ [(op, n, x)]) by
                  rw [take_snoc' HT.out, take_snoc' HTT.out]
                  exact fillAll_snoc _ _ _ _ _ _ _ (by rw [List.length_take, List.length_take, HL.out]) HFL.out rfl)
                clear htt
                go_wp2_with (at_builtin; refine append_one rfl _ _ 35 42 rfl (.agg #[.int .i64 0, .int .i64 0, fl 0]) 3 24 Try.underlying35 (by kernel_rfl) rfl (by decide) _ out.length (insV out) rfl ((OWN.out.alloc _).alloc _) (wr.heap.size + 1) 1 rfl [.int .i64 op, .int .i64 n, fl x] rfl ?b1 ?b2 ?b3 ?b4 ?b5)
                first | (case b1 => exact new3b) | skip
                first | (case b2 => first | exact one3 | exact ⟨rfl, rfl, rfl⟩) | skip
                first | (case b3 => (have := HNI.out; have := HOL.out; unfold maxLen; omega)) | skip
                first | (case b4 => (have := HNI.out; have := HOL.out; omega)) | skip
                case b5 =>
                  intro g cap w2 hown2 hg2 hgg
                  have S := Lib.hid (HR.out.snoc (y := (op, n, x)) (((Chg.refl wr Nothing).alloc _).alloc _) hg2 hown2 (hgg.imp id (fun h => by simpa using h)))
                  have hbk := HR.out.still (((Chg.refl wr Nothing).alloc _).alloc _) hg2
                  have u1 : w2.cell? ⟨q, 1, none⟩ = some (.slice a out.length c) := blk_cell hbk 1
                  have u2 : w2.frozen? ⟨q, 1, none⟩ = false := blk_free hbk 1
                  clear hown2 hg2 hgg hbk
                  go_wp2_with fail
                  go_roundg (s.code.length - (i + 1))
                  case measure => rw [HK.out]; omega
                  case rel => exact ⟨i + 1, _, _, _, by omega, by rw [IntWalk.wrap64_in _ ⟨by omega, by have := HNI.out; omega⟩]; rfl, rfl, by simp [HOL.out], S.out, HF1.out⟩
              | some l =>
                by_cases hgood : 0 ≤ l ∧ l < s.labels ∧ placesOf s.marks l ≠ []
                · obtain ⟨g1, g2, g3⟩ := hgood
                  obtain ⟨ln, rfl⟩ := Int.eq_ofNat_of_zero_le g1
                  obtain ⟨p0, ps, hps⟩ : ∃ p0 ps, placesOf s.marks (ln : Int) = p0 :: ps := by
                    cases h : placesOf s.marks (ln : Int) with
                    | nil => exact absurd h g3
                    | cons p0 ps => exact ⟨p0, ps, rfl⟩
                  have HF1 := Lib.hid (show fillAll s.marks (s.code.take (i + 1)) (s.tos.take (i + 1)) = some (out ++ [(op, (p0 : Int), x)]) by
                    rw [take_snoc' HT.out, take_snoc' HTT.out]
                    exact fillAll_snoc _ _ _ _ _ _ _ (by rw [List.length_take, List.length_take, HL.out]) HFL.out (by simp [fill1, hps]))
                  have hmost := HB.out.most
                  have hp0 : p0 < 4398046511103 := by
                    have : p0 ∈ placesOf s.marks (ln : Int) := by rw [hps]; simp
                    unfold placesOf at this
                    obtain ⟨u, hu, rfl⟩ := List.mem_map.1 this
                    have := HP.out u (List.mem_filter.1 hu).1
                    have := HN.out
                    omega
                  have hkn : ln < 256 := by omega
                  have hkn2 : (ln : Int) < 256 := by omega
                  have q2 : decide ((ln : Int) < 0) = false := decide_eq_false (by omega)
                  have q3 : decide ((s.labels : Int) ≤ (ln : Int)) = false := decide_eq_false (by omega)
                  have q5 : decide (s.labels ≤ ln) = false := decide_eq_false (by omega)
                  have q6 : ((p0 : Int) + 1 == 0) = false := by rw [beq_eq_false_iff_ne]; omega
                  have qw : wrap64 ((p0 : Int) + 1 - 1) = (p0 : Int) := by rw [Int.add_sub_cancel]; exact IntWalk.wrap64_in _ ⟨by omega, by omega⟩
                  have qw2 : wrap64 (p0 : Int) = (p0 : Int) := IntWalk.wrap64_in _ ⟨by omega, by omega⟩
                  have X2 : wr.cell? ⟨w.heap.size + 1, ln, none⟩ = some (.int .i64 ((p0 : Int) + 1)) := by
                    have := HR.out.1.2.2.1.cellAt ln (by omega)
                    rw [seenV_at _ hkn, seenOf_cons hps] at this
                    exact this
                  have B4 : (wr.alloc (.cells #[.int .i64 op, .int .i64 n, fl x] 42)).cell? ⟨r, 4, none⟩ = some (.int .i64 (s.labels : Int)) := cell_old D4 (cell_lt D4)
                  have B6 := cell_old (o := .cells #[.int .i64 op, .int .i64 n, fl x] 42) X2 (cell_lt X2)
                  clear htt hmost g3 hp0 hps
                  go_wp2_with (at_builtin; refine append_one rfl _ _ 35 42 rfl (.agg #[.int .i64 0, .int .i64 0, fl 0]) 3 24 Try.underlying35 (by kernel_rfl) rfl (by decide) _ out.length (insV out) rfl ((OWN.out.alloc _).alloc _) (wr.heap.size + 1) 1 rfl [.int .i64 op, .int .i64 (p0 : Int), fl x] rfl ?d1 ?d2 ?d3 ?d4 ?d5)
                  first | (case d1 => exact new3b) | skip
                  first | (case d2 => first | exact one3 | exact ⟨rfl, rfl, rfl⟩) | skip
                  first | (case d3 => (have := HNI.out; have := HOL.out; unfold maxLen; omega)) | skip
                  first | (case d4 => (have := HNI.out; have := HOL.out; omega)) | skip
                  case d5 =>
                    intro g cap w2 hown2 hg2 hgg
                    have S := Lib.hid (HR.out.snoc (y := (op, (p0 : Int), x)) (((Chg.refl wr Nothing).alloc _).alloc _) hg2 hown2 (hgg.imp id (fun h => by simpa using h)))
                    have hbk := HR.out.still (((Chg.refl wr Nothing).alloc _).alloc _) hg2
                    have u1 : w2.cell? ⟨q, 1, none⟩ = some (.slice a out.length c) := blk_cell hbk 1
                    have u2 : w2.frozen? ⟨q, 1, none⟩ = false := blk_free hbk 1
                    clear hown2 hg2 hgg hbk
                    go_wp2_with fail
                    go_roundg (s.code.length - (i + 1))
                    case measure => rw [HK.out]; omega
                    case rel => exact ⟨i + 1, _, _, _, by omega, by rw [IntWalk.wrap64_in _ ⟨by omega, by have := HNI.out; omega⟩]; rfl, rfl, by simp [HOL.out], S.out, HF1.out⟩
                · have hnil : placesOf s.marks l = [] := by
                    rw [placesOf_nil_iff]
                    intro u hu e
                    have hh := HOK.out.1 u hu
                    rw [e] at hh
                    apply hgood
                    refine ⟨hh.1, hh.2, fun h => ?_⟩
                    exact (placesOf_nil_iff _ _).1 h u hu e
                  have HBAD := Lib.hid (progE_none HOK.out (fillAll_bad s.marks s.code s.tos _ _ _ HL.out HT.out HTT.out (by simp [fill1, hnil])))
                  have hcases : l < 0 ∨ (0 ≤ l ∧ (s.labels : Int) ≤ l) ∨ (0 ≤ l ∧ l < s.labels) := by omega
                  have HCC := Lib.hid hcases
                  have HNIL := Lib.hid hnil
                  have B4 : (wr.alloc (.cells #[.int .i64 op, .int .i64 n, fl x] 42)).cell? ⟨r, 4, none⟩ = some (.int .i64 (s.labels : Int)) := cell_old D4 (cell_lt D4)
                  clear hgood hcases hnil htt
                  go_upto_region 15 with fail
                  rcases HCC.out with g1 | ⟨g1, g2⟩ | ⟨g1, g2⟩
                  · have q2 : decide (l < 0) = true := decide_eq_true g1
                    clear g1
                    go_wp2_with fail
                    refine bodyPost_ret (v := .tuple #[.agg #[.int .i64 0, .slice none 0 0], .int .i64 190]) ?_ ?_ ?_
                    · exact rprog_results rfl rfl (blk_alloc (two_set RR0.out) _)
                    · rfl
                    · exact ⟨_, by rw [HBAD.out], ((CW.out.setCell (.inl (Nat.le_refl _)) _).setCell (.inl (Nat.le_refl _)) _).alloc _, .inl ⟨by rw [HBAD.out]; decide, rfl⟩⟩
                  · have q2 : decide (l < 0) = false := decide_eq_false (by omega)
                    have q3 : decide ((s.labels : Int) ≤ l) = true := decide_eq_true g2
                    go_wp2_with fail
                    refine bodyPost_ret (v := .tuple #[.agg #[.int .i64 0, .slice none 0 0], .int .i64 190]) ?_ ?_ ?_
                    · exact rprog_results rfl rfl (blk_alloc (two_set RR0.out) _)
                    · rfl
                    · exact ⟨_, by rw [HBAD.out], ((CW.out.setCell (.inl (Nat.le_refl _)) _).setCell (.inl (Nat.le_refl _)) _).alloc _, .inl ⟨by rw [HBAD.out]; decide, rfl⟩⟩
                  · obtain ⟨ln, rfl⟩ := Int.eq_ofNat_of_zero_le g1
                    have hmost := HB.out.most
                    have q2 : decide ((ln : Int) < 0) = false := decide_eq_false (by omega)
                    have q3 : decide ((s.labels : Int) ≤ (ln : Int)) = false := decide_eq_false (by omega)
                    have q5 : decide (s.labels ≤ ln) = false := decide_eq_false (by omega)
                    have hkn : ln < 256 := by omega
                    have hkn2 : (ln : Int) < 256 := by omega
                    have X2 : wr.cell? ⟨w.heap.size + 1, ln, none⟩ = some (.int .i64 0) := by
                      have := HR.out.1.2.2.1.cellAt ln (by omega)
                      rw [seenV_at _ hkn, (seenOf_pos _ _).2.2 HNIL.out] at this
                      exact this
                    have B6 := cell_old (o := .cells #[.int .i64 op, .int .i64 n, fl x] 42) X2 (cell_lt X2)
                    clear hmost g1 g2
                    go_wp2_with fail
                    refine bodyPost_ret (v := .tuple #[.agg #[.int .i64 0, .slice none 0 0], .int .i64 190]) ?_ ?_ ?_
                    · exact rprog_results rfl rfl (blk_alloc (two_set RR0.out) _)
                    · rfl
                    · exact ⟨_, by rw [HBAD.out], ((CW.out.setCell (.inl (Nat.le_refl _)) _).setCell (.inl (Nat.le_refl _)) _).alloc _, .inl ⟨by rw [HBAD.out]; decide, rfl⟩⟩
            · have hie : i = s.code.length := by omega
              have q1 : decide ((i : Int) < (s.code.length : Int)) = false := decide_eq_false (by omega)
              have hfl2 : fillAll s.marks s.code s.tos = some out := by
                rw [hie, List.take_length, HL.out, List.take_length] at hfl
                exact hfl
              have HE := Lib.hid (progE_some HOK.out hfl2)
              have HFL2 := Lib.hid hfl2
              have HLEN := Lib.hid (show out.length = s.code.length by rw [hol, hie])
              have OWN := Lib.hid hR.2.2.1
              have QB := Lib.hid hR.2.1
              have RB := Lib.hid hR.1.2.1
              have L1 := Lib.hid l1
              clear hi hk hfl hR hfl2 hie hcw hsz y0 y1 y2 y3 D2 D3 D4 l0 l1 l2 hol
              go_wp2_with fail
              with_reducible refine (rcheck_any s.tag _ _ out wr (Sees.of_owns OWN.out)).mono ?_
              rintro e w' ⟨rfl, hc⟩
              have hr0 := (hc.block _ L0.out id).trans RB.out
              have hq0 := (hc.block _ L1.out id).trans QB.out
              have y0 : w'.cell? ⟨w.heap.size, 0, none⟩ = some (.int .i64 0) := blk_cell hr0 0
              have y1 : w'.cell? ⟨w.heap.size, 1, none⟩ = some (.slice none 0 0) := blk_cell hr0 1
              have y2 : w'.frozen? ⟨w.heap.size, 0, none⟩ = false := blk_free hr0 0
              have y3 : w'.frozen? ⟨w.heap.size, 1, none⟩ = false := blk_free hr0 1
              have y4 : w'.cell? ⟨q, 0, none⟩ = some (.int .i64 s.tag) := blk_cell hq0 0
              have y5 : w'.cell? ⟨q, 1, none⟩ = some (.slice a out.length c) := blk_cell hq0 1
              have R0 := Lib.hid hr0
              have HC := Lib.hid (CW.out.trans hc (fun _ _ h => h))
              have G5 := Lib.hid (ownsRow_heap OWN.out (fun k hk => hc.block k (OWN.out.lt k hk).2 id))
              have HGR := Lib.hid (fun k hk => (HR.out.2.2.2.1 k hk).1)
              clear hr0 hq0 hc Q0 Q1
              by_cases he : checkE s.tag out = 0
              · have hb : ((checkE s.tag out) != 0) = false := by rw [he]; rfl
                have HE0 := Lib.hid he
                clear he
                go_wp2_with fail
                refine bodyPost_ret (v := .tuple #[.agg #[.int .i64 s.tag, .slice a out.length c], .int .i64 0]) ?_ ?_ ?_
                · exact rprog_results rfl rfl (two_set R0.out)
                · rfl
                · exact ⟨_, by rw [HE.out, HE0.out], (HC.out.setCell (.inl (Nat.le_refl _)) _).setCell (.inl (Nat.le_refl _)) _, .inr ⟨by rw [HE.out, HE0.out], out, a, c, HFL2.out, HLEN.out, rfl, Sees.of_owns (ownsRow_heap G5.out (fun k hk => by
                    have hk : ¬ k = w.heap.size := HGR.out k hk
                    exact (Below.heap_setCell _ _ _ _ hk).trans (Below.heap_setCell _ _ _ _ hk)))⟩⟩
              · have hb : ((checkE s.tag out) != 0) = true := by simpa using he
                have HE0 := Lib.hid he
                clear he
                go_wp2_with fail
                refine bodyPost_ret (v := .tuple #[.agg #[.int .i64 0, .slice none 0 0], .int .i64 (checkE s.tag out)]) ?_ ?_ ?_
                · exact rprog_results rfl rfl (two_set R0.out)
                · rfl
                · exact ⟨_, by rw [HE.out], (HC.out.setCell (.inl (Nat.le_refl _)) _).setCell (.inl (Nat.le_refl _)) _, .inl ⟨by rw [HE.out]; exact HE0.out, rfl⟩⟩
end Go.Proofs.Ythgcmafeahlmpaa
