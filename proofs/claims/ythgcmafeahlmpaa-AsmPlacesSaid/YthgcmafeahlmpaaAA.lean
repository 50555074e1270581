/- Two builders that hold the same: same and does of layer 19's statements. -/
import Derived.Test.YthgcmafeahlmpaaA13
namespace Go.Proofs.Ythgcmafeahlmpaa
open Go Go.RowKit
set_option linter.unusedVariables false
set_option linter.unusedSimpArgs false

theorem cell_old2 {w : World} {o : Obj} {b i : Nat} {v : Value} (h : w.cell? ⟨b, i, none⟩ = some v) : (w.alloc o).cell? ⟨b, i, none⟩ = some v := cell_old h (cell_lt h)
theorem Rb.code1 {w : World} {r : Nat} {F : Nat → Prop} {s : Asm} (h : Rb w r F s) : ∃ a k, w.cell? ⟨r, 1, none⟩ = some (.slice a s.code.length k) := by
  obtain ⟨h1, h2, T, a1, c1, a2, c2, a3, c3, a4, c4, h3, h4⟩ := h
  exact ⟨a1, c1, h3.cells.2.1⟩
theorem Rb.has {w : World} {r : Nat} {F : Nat → Prop} {s : Asm} (h : Rb w r F s) : r < w.heap.size := by
  obtain ⟨h1, h2, T, a1, c1, a2, c2, a3, c3, a4, c4, h3, h4⟩ := h
  exact h3.lt r (by rw [h3.tr]; decide)

theorem Sees.any {w w' : World} {a : Option Addr} {xs : List Value} (h : Sees w a xs) (hb : ∀ k, k < w.heap.size → w'.heap[k]? = w.heap[k]?) : Sees w' a xs := by
  rcases h with h | ⟨b, o, rfl, h⟩
  · exact .inl h
  · exact .inr ⟨b, o, rfl, fun j u hu => (World.cell?_of_block (w := w) (hb b (cell_lt (h j u hu)))).trans (h j u hu)⟩
theorem Sees.boxd {w : World} {a : Option Addr} {xs : List Value} {o : Obj} (h : Sees w a xs) : Sees (w.alloc o).drew a xs := h.any (fun k hk => Below.heap_alloc w o k hk)
/-- What the law writes into a row of instructions that a call made. -/
theorem row_three {w : World} {base g n c : Nat} {xs : List Value} (h : w.ownsRow base 42 3 (.slice (some ⟨g, 0, none⟩) n c) n xs) {i : Nat} (hi : i < n) :
    ∃ u0 u1 u2, w.cell? ⟨g, i * 3, none⟩ = some u0 ∧ w.cell? ⟨g, i * 3 + 1, none⟩ = some u1 ∧ w.cell? ⟨g, i * 3 + 2, none⟩ = some u2 ∧ (∀ o, w.frozen? ⟨g, o, none⟩ = false) ∧
      ∀ y0 y1 y2, (((w.setCell ⟨g, i * 3, none⟩ y0).setCell ⟨g, i * 3 + 1, none⟩ y1).setCell ⟨g, i * 3 + 2, none⟩ y2).ownsRow base 42 3 (.slice (some ⟨g, 0, none⟩) n c) n (((xs.set (i * 3) y0).set (i * 3 + 1) y1).set (i * 3 + 2) y2) := by
  have hl := h.1
  have e0 := h.cellAt (i * 3) (by omega)
  have e1 := h.cellAt (i * 3 + 1) (by omega)
  have e2 := h.cellAt (i * 3 + 2) (by omega)
  rw [List.getElem?_eq_getElem (by omega)] at e0 e1 e2
  exact ⟨_, _, _, e0, e1, e2, fun o => h.frozenAt o, fun y0 y1 y2 => (((h.stored (i * 3) y0).1.stored (i * 3 + 1) y1).1.stored (i * 3 + 2) y2).1⟩

set_option maxRecDepth 100000 in
set_option maxHeartbeats 4000000 in
theorem lsame_any (p r : Nat) (F G : Nat → Prop) (s : Asm) (w : World) (hB : Bd w p F s) (hR : Rb w r G s) (hb : s.code.length < 4398046511103) (hmb : s.marks.length < 4398046511103) (hpl : ∀ t ∈ s.marks, t.2 ≤ s.code.length) :
    Calls Try.prog 10 #[.pointer (some ⟨p, 0, none⟩), .pointer (some ⟨r, 0, none⟩)] w fun e w' => e = .returned (.bool true) ∧ Chg w w' Nothing := by
  have HB := Lib.hid hB
  have HR := Lib.hid hR
  have HN := Lib.hid hb
  have HM := Lib.hid hmb
  have HP := Lib.hid hpl
  obtain ⟨a1, k1, c1⟩ := hR.code1
  have hr := hR.has
  clear hB hR hb hmb hpl
  go_enter Try.func10, Try.ntmps10
  go_wp2_with fail
  refine (program_any p F s _ HB.out HN.out).mono ?_
  rintro e w1 ⟨v, rfl, hP⟩
  obtain ⟨hc1, hP⟩ := hP
  have HC1 := Lib.hid hc1
  have R1 := Lib.hid (HR.out.chg hc1 (fun _ _ h => h))
  have B1 := Lib.hid (HB.out.chg hc1 (fun _ _ h => h))
  have d1 := hc1.cell c1 id
  have hr1 : r < w1.heap.size := Nat.lt_of_lt_of_le hr hc1.size
  have hrn1 : ¬ r = w1.heap.size := by omega
  have q0 : (progE s != progE s) = false := by simp
  have q1 : ((s.code.length : Int) != (s.code.length : Int)) = false := by simp
  clear hc1
  rcases hP with ⟨he, rfl⟩ | ⟨he, out, gc, hf, hl, rfl, hown⟩
  · have HE := Lib.hid he
    clear he
    generalize hE : progE s = E at *
    have HEE := Lib.hid hE
    clear hE
    go_wp2_with fail
    refine (rprogram_any r G s _ (R1.out.chg ((Chg.refl _ _).alloc _) (fun _ _ h => h)) HN.out HM.out HP.out).mono ?_
    rintro e w2 ⟨v2, rfl, hc2, hP2⟩
    have hv2 : v2 = .agg #[.int .i64 0, .slice none 0 0] := by
      rcases hP2 with ⟨_, h⟩ | ⟨h, _⟩
      · exact h
      · rw [HEE.out] at h; exact absurd h HE.out
    subst hv2
    rw [HEE.out]
    have HC2 := Lib.hid (((Chg.refl w1 Nothing).alloc _).trans hc2 (fun _ _ h => h))
    have bx : w2.heap[w1.heap.size]? = some (.cells #[.int .i64 0, .slice none 0 0] 37 (0, 0)) := (hc2.block _ (by simp) id).trans (heap_alloc_new w1 _)
    have z0 : w2.cell? ⟨w1.heap.size, 0, none⟩ = some (.int .i64 0) := blk_cell bx 0
    have z1 : w2.cell? ⟨w1.heap.size, 1, none⟩ = some (.slice none 0 0) := blk_cell bx 1
    have hz : w1.heap.size < w2.heap.size := blk_lt bx
    have hzn : ¬ w1.heap.size = w2.heap.size := by omega
    have d2 := HC2.out.cell d1 id
    have hr2 : r < w2.heap.size := by omega
    have hrn2 : ¬ r = w2.heap.size := by omega
    have B2 := Lib.hid (B1.out.chg HC2.out (fun _ _ h => h))
    clear hc2 hP2 bx
    go_upto_region 3 with fail
    go_cut [39] (fun v wx => v = .bool false ∧ Chg w wx Nothing ∧ wx.cell? ⟨w1.heap.size, 1, none⟩ = some (.slice none 0 0))
    case first =>
      go_region_law (first | (go_simp; go_at_call 18; refine (rsame_true 0 none none 0 0 [] _ (.inl rfl) (.inl rfl) (by decide)).mono ?_; rintro e w3 ⟨rfl, hc3'⟩; have hc3 : Chg (w2.alloc (.cells #[.int .i64 0, .slice none 0 0] 37)) w3 Nothing := ⟨hc3'.os, hc3'.tape, hc3'.output, hc3'.size, hc3'.block⟩; have d3 := hc3.cell (cell_old2 d2) id; have z3 := hc3.cell (cell_old2 z1) id) | (go_simp; go_at_call 19; refine (len_any p F s _ (B2.out.chg (((Chg.refl _ _).alloc _).trans hc3 (fun _ _ h => h)) (fun _ _ h => h))).mono ?_; rintro e w4 ⟨rfl, rfl⟩))
      all_goals
        go_wp2_with fail
        go_meet
        exact ⟨rfl, HC1.out.trans (HC2.out.trans (((Chg.refl _ _).alloc _).trans hc3 (fun _ _ h => h)) (fun _ _ h => h)) (fun _ _ h => h), z3⟩
    case rest =>
      obtain ⟨rfl, hc4, z4⟩ := hcut
      have C4 := Lib.hid hc4
      clear hc4
      go_wp2_with fail
      go_loopg [48] 0 (fun k v wr => v = .int .i64 0 ∧ Chg w wr Nothing)
      case atStart => exact ⟨rfl, C4.out⟩
      case round =>
        obtain ⟨rfl, hc⟩ := hrel
        have HC := Lib.hid hc
        clear hc
        go_wp2_with fail
        go_ret
        exact ⟨rfl, HC.out⟩
  · generalize hE : progE s = E at *
    have HEE := Lib.hid hE
    have HE := Lib.hid he
    have HF := Lib.hid hf
    have HLN := Lib.hid hl
    have OWN := Lib.hid hown
    have hgl := (hown.lt gc rfl).2
    clear hE he hf hl hown
    go_wp2_with fail
    refine (rprogram_any r G s _ (R1.out.chg ((Chg.refl _ _).alloc _) (fun _ _ h => h)) HN.out HM.out HP.out).mono ?_
    rintro e w2 ⟨v2, rfl, hc2, hP2⟩
    obtain ⟨a2, k2, rfl, hs2⟩ : ∃ a2 k2, v2 = .agg #[.int .i64 s.tag, .slice a2 out.length k2] ∧ Sees w2 a2 (insV out) := by
      rcases hP2 with ⟨h, _⟩ | ⟨_, out2, a2, k2, h1, h2, h3, h4⟩
      · rw [HEE.out] at h; exact absurd HE.out h
      · rw [HF.out] at h1
        injection h1 with h1
        subst h1
        exact ⟨a2, k2, h3, h4⟩
    rw [HEE.out]
    have HC2 := Lib.hid (((Chg.refl w1 Nothing).alloc _).trans hc2 (fun _ _ h => h))
    have bx : w2.heap[w1.heap.size]? = some (.cells #[.int .i64 s.tag, .slice (some ⟨gc, 0, none⟩) out.length out.length] 37 (0, 0)) := (hc2.block _ (by simp) id).trans (heap_alloc_new w1 _)
    have z0 : w2.cell? ⟨w1.heap.size, 0, none⟩ = some (.int .i64 s.tag) := blk_cell bx 0
    have z1 : w2.cell? ⟨w1.heap.size, 1, none⟩ = some (.slice (some ⟨gc, 0, none⟩) out.length out.length) := blk_cell bx 1
    have hz : w1.heap.size < w2.heap.size := blk_lt bx
    have hzn : ¬ w1.heap.size = w2.heap.size := by omega
    have d2 := HC2.out.cell d1 id
    have hr2 : r < w2.heap.size := by omega
    have hrn2 : ¬ r = w2.heap.size := by omega
    have B2 := Lib.hid (B1.out.chg HC2.out (fun _ _ h => h))
    have S2 := Lib.hid hs2
    have OWN2 := Lib.hid (ownsRow_heap OWN.out (fun k hk => HC2.out.block k (OWN.out.lt k hk).2 id))
    have hbig : out.length ≤ 9223372036854775807 := by have := HLN.out; have := HN.out; omega
    have HBIG := Lib.hid hbig
    have q1 : ((s.code.length : Int) != (out.length : Int)) = false := by rw [HLN.out]; simp
    have q1' : ((s.code.length : Int) != (s.code.length : Int)) = false := by simp
    clear hc2 hP2 bx hs2 hbig
    go_upto_region 3 with fail
    go_cut [39] (fun v wx => v = .bool false ∧ Chg w wx Nothing ∧ wx.cell? ⟨w1.heap.size, 1, none⟩ = some (.slice (some ⟨gc, 0, none⟩) out.length out.length) ∧ wx.ownsRow w.heap.size 42 3 (.slice (some ⟨gc, 0, none⟩) out.length out.length) out.length (insV out))
    case first =>
      go_region_law (first | (go_simp; go_at_call 18; refine (rsame_true s.tag _ _ _ _ out _ (Sees.of_owns OWN2.out).boxd S2.out.boxd HBIG.out).mono ?_; rintro e w3 ⟨rfl, hc3'⟩; have hc3 : Chg (w2.alloc (.cells #[.int .i64 s.tag, .slice a2 out.length k2] 37)) w3 Nothing := ⟨hc3'.os, hc3'.tape, hc3'.output, hc3'.size, hc3'.block⟩; have d3 := hc3.cell (cell_old2 d2) id; have z3 := hc3.cell (cell_old2 z1) id) | (go_simp; go_at_call 19; refine (len_any p F s _ (B2.out.chg (((Chg.refl _ _).alloc _).trans hc3 (fun _ _ h => h)) (fun _ _ h => h))).mono ?_; rintro e w4 ⟨rfl, rfl⟩))
      all_goals
        go_wp2_with fail
        go_meet
        exact ⟨rfl, HC1.out.trans (HC2.out.trans (((Chg.refl _ _).alloc _).trans hc3 (fun _ _ h => h)) (fun _ _ h => h)) (fun _ _ h => h), z3, ownsRow_heap OWN2.out (fun k hk => (((Chg.refl w2 Nothing).alloc _).trans hc3 (fun _ _ h => h)).block k (OWN2.out.lt k hk).2 id)⟩
    case rest =>
      obtain ⟨rfl, hc4, z4, o4⟩ := hcut
      have C4 := Lib.hid hc4
      have O4 := Lib.hid o4
      clear hc4 o4
      go_wp2_with fail
      go_loopg [48] out.length (fun k v wr => ∃ i : Nat, i ≤ out.length ∧ v = .int .i64 (i : Int) ∧ k = out.length - i ∧ Chg w wr Nothing ∧ ∃ xs, wr.ownsRow w.heap.size 42 3 (.slice (some ⟨gc, 0, none⟩) out.length out.length) out.length xs)
      case atStart => exact ⟨0, Nat.zero_le _, rfl, rfl, C4.out, _, O4.out⟩
      case round =>
        obtain ⟨i, hi, rfl, hk, hc, xs, ho⟩ := hrel
        have HC := Lib.hid hc
        have HK := Lib.hid hk
        have HO := Lib.hid ho
        clear hc hk
        by_cases hlt : i < out.length
        · have q2 : decide ((i : Int) < (out.length : Int)) = true := decide_eq_true (by omega)
          obtain ⟨u0, u1, u2, e0, e1, e2, ef, en⟩ := row_three ho hlt
          have f0 := ef (i * 3)
          have f1 := ef (i * 3 + 1)
          have f2 := ef (i * 3 + 2)
          have EN := Lib.hid en
          have hw : w.heap.size ≤ gc := (ho.lt gc rfl).1
          clear ef en ho
          go_wp2_with fail
          go_roundg (out.length - (i + 1))
          case measure => rw [HK.out]; omega
          case rel => exact ⟨i + 1, by omega, by rw [IntWalk.wrap64_in _ ⟨by omega, by have := HBIG.out; omega⟩]; rfl, rfl, ((HC.out.setCell (.inl hw) _).setCell (.inl hw) _).setCell (.inl hw) _, _, EN.out _ _ _⟩
        · have q2 : decide ((i : Int) < (out.length : Int)) = false := decide_eq_false (by omega)
          go_wp2_with fail
          go_ret
          exact ⟨rfl, HC.out⟩
end Go.Proofs.Ythgcmafeahlmpaa
