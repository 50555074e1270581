/- The document's buffer behind a pointer, and the contracts of its methods. -/
import Derived.Test.YtpigcmedkljonacB7B
namespace Go.Proofs.Ytpigcmedkljonac
open Go Go.RowKit
set_option linter.unusedVariables false
set_option linter.unusedSimpArgs false

/-- The document's buffer at block p, whose blocks lie in F. -/
def Rf (w : World) (p : Nat) (F : Nat → Prop) (l : List (Int × Nat)) (most : Int) : Prop :=
  ∃ a c, w.heap[p]? = some (.cells #[.slice a l.length c, .int .i64 most] 57 (0, 0)) ∧ w.ownsRow 0 39 2 (.slice a l.length c) l.length (tchV l) ∧
    F p ∧ (∀ k, (Value.slice a l.length c).ownBlock = some k → F k ∧ k ≠ p) ∧ (∀ k, F k → k < w.heap.size)

section
variable {w w' w1 : World} {p : Nat} {F S : Nat → Prop} {l : List (Int × Nat)} {most c : Int} {i x : Nat}
theorem Rf.frame (h : Rf w p F l most) (hs : w.heap.size ≤ w'.heap.size) (hb : ∀ k, F k → w'.heap[k]? = w.heap[k]?) : Rf w' p F l most := by
  obtain ⟨a, c, h1, h2, h3, h4, h5⟩ := h
  exact ⟨a, c, (hb p h3).trans h1, ownsRow_heap h2 (fun k hk => hb k (h4 k hk).1), h3, h4, fun k hk => Nat.lt_of_lt_of_le (h5 k hk) hs⟩
theorem Rf.lt (h : Rf w p F l most) : ∀ k, F k → k < w.heap.size := by obtain ⟨a, c, h1, h2, h3, h4, h5⟩ := h; exact h5
theorem Rf.has (h : Rf w p F l most) : F p := by obtain ⟨a, c, h1, h2, h3, h4, h5⟩ := h; exact h3
theorem Rf.chg (h : Rf w p F l most) (hc : Chg w w' S) (hd : ∀ k, F k → ¬ S k) : Rf w' p F l most := h.frame hc.size fun k hk => hc.block k (h.lt k hk) (hd k hk)
theorem Rf.drewN (h : Rf w p F l most) (n : Nat) : Rf (w.drewN n) p F l most := h.frame (Nat.le_refl _) (fun _ _ => rfl)
theorem Rf.wider {F' : Nat → Prop} (h : Rf w p F l most) (hF : ∀ k, F k → F' k) (hlt : ∀ k, F' k → k < w.heap.size) : Rf w p F' l most := by
  obtain ⟨a, c, h1, h2, h3, h4, h5⟩ := h
  exact ⟨a, c, h1, h2, hF _ h3, fun k hk => ⟨hF _ (h4 k hk).1, (h4 k hk).2⟩, hlt⟩
theorem Rf.cells (h : Rf w p F l most) : ∃ a c, w.cell? ⟨p, 0, none⟩ = some (.slice a l.length c) ∧ w.cell? ⟨p, 1, none⟩ = some (.int .i64 most) ∧ w.ownsRow 0 39 2 (.slice a l.length c) l.length (tchV l) := by
  obtain ⟨a, c, h1, h2, _⟩ := h
  exact ⟨a, c, blk_cell h1 0, blk_cell h1 1, h2⟩
theorem Rf.free (h : Rf w p F l most) (o : Nat) : w.frozen? ⟨p, o, none⟩ = false := by
  obtain ⟨a, c, h1, _⟩ := h
  exact blk_free h1 o
theorem Rf.at (h : Rf w p F l most) {t : Int × Nat} (hi : l[i]? = some t) : ∃ g c, w.cell? ⟨p, 0, none⟩ = some (.slice (some ⟨g, 0, none⟩) l.length c) ∧ w.cell? ⟨g, i * 2, none⟩ = some (.int .i64 t.1) ∧ w.cell? ⟨g, i * 2 + 1, none⟩ = some (fl t.2) ∧ w.frozen? ⟨g, i * 2 + 1, none⟩ = false := by
  obtain ⟨a, c, h1, h2, h3, h4, h5⟩ := h
  have hlt := (List.getElem?_eq_some_iff.1 hi).1
  obtain ⟨g, cc, hv⟩ := (ownsRow_shape h2).2 (by omega)
  injection hv with hv _ hc
  subst hv hc
  obtain ⟨t1, t2⟩ := tchV_at l i t hi
  exact ⟨g, c, blk_cell h1 0, by rw [h2.cellAt _ (by omega), t1], by rw [h2.cellAt _ (by omega), t2], h2.frozenAt _⟩
theorem tchV_set : ∀ {l : List (Int × Nat)} {i : Nat} {c : Int} {y x : Nat}, l[i]? = some (c, y) → tchV (l.set i (c, x)) = (tchV l).set (i * 2 + 1) (fl x)
  | [], i, c, y, x, h => by simp at h
  | t :: l, 0, c, y, x, h => by simp at h; subst h; rfl
  | t :: l, i + 1, c, y, x, h => by
    have := tchV_set (x := x) (show l[i]? = some (c, y) by simpa using h)
    rw [List.set_cons_succ, show (i + 1) * 2 + 1 = (i * 2 + 1) + 2 by omega]
    show [Value.int .i64 t.1, fl t.2] ++ tchV (l.set i (c, x)) = ([Value.int .i64 t.1, fl t.2] ++ tchV l).set (i * 2 + 1 + 2) (fl x)
    rw [this]
    rfl
theorem Rf.stored {g cc y : Nat} (h : Rf w p F l most) (c0 : w.cell? ⟨p, 0, none⟩ = some (.slice (some ⟨g, 0, none⟩) l.length cc)) (hi : l[i]? = some (c, y)) :
    Rf (w.setCell ⟨g, i * 2 + 1, none⟩ (fl x)) p F (l.set i (c, x)) most ∧ Chg w (w.setCell ⟨g, i * 2 + 1, none⟩ (fl x)) F := by
  obtain ⟨a, c', h1, h2, h3, h4, h5⟩ := h
  have := (blk_cell h1 0).symm.trans c0
  simp at this
  obtain ⟨rfl, rfl⟩ := this
  have hb := h4 g rfl
  refine ⟨⟨some ⟨g, 0, none⟩, c', ?_, ?_, h3, ?_, fun k hk => by simpa [World.setCell] using h5 k hk⟩, (Chg.refl _ _).setCell (.inr hb.1) _⟩
  · rw [List.length_set]; exact blk_set_other h1 (fun e => hb.2 e.symm) _
  · rw [List.length_set, tchV_set hi]; exact (h2.stored _ _).1
  · rw [List.length_set]; exact h4
theorem Rf.pushed {w2 : World} {v : Value} {g cap : Nat} (h : Rf w p F l most) (c0 : w.cell? ⟨p, 0, none⟩ = some v) (h1 : Chg w w1 Nothing) (hg : w1.grownBy w2 v.ownBlock)
    (hown : w2.ownsRow 0 39 2 (.slice (some ⟨g, 0, none⟩) (l.length + 1) cap) (l.length + 1) (tchV l ++ [.int .i64 c, fl x])) (hgg : v.ownBlock = some g ∨ w1.heap.size ≤ g) :
    Rf (w2.setCell ⟨p, 0, none⟩ (.slice (some ⟨g, 0, none⟩) (l.length + 1) cap)) p (Grow F w (w2.setCell ⟨p, 0, none⟩ (.slice (some ⟨g, 0, none⟩) (l.length + 1) cap))) (l ++ [(c, x)]) most ∧
      Chg w (w2.setCell ⟨p, 0, none⟩ (.slice (some ⟨g, 0, none⟩) (l.length + 1) cap)) F ∧ w2.cell? ⟨p, 0, none⟩ = some v ∧ w2.frozen? ⟨p, 0, none⟩ = false := by
  obtain ⟨a, cc, k1, k2, k3, k4, k5⟩ := h
  obtain rfl : v = .slice a l.length cc := by have := (blk_cell k1 0).symm.trans c0; simpa using this.symm
  have hp : p < w.heap.size := k5 p k3
  have hs2 : (w2.setCell ⟨p, 0, none⟩ (.slice (some ⟨g, 0, none⟩) (l.length + 1) cap)).heap.size = w2.heap.size := by simp [World.setCell]
  have hsz : w.heap.size ≤ w2.heap.size := Nat.le_trans h1.size hg.size
  have hpb : w2.heap[p]? = some (.cells #[.slice a l.length cc, .int .i64 most] 57 (0, 0)) := by
    rw [hg.block p (Nat.lt_of_lt_of_le hp h1.size) (by intro e; exact (k4 p e.symm).2 rfl), h1.block p hp (fun h => h), k1]
  have hgp : g ≠ p := by rcases hgg with hgg | hgg; exact (k4 g hgg).2; have := h1.size; omega
  have hg2 := (hown.lt g rfl).2
  have hl : (l ++ [(c, x)]).length = l.length + 1 := by simp
  refine ⟨⟨some ⟨g, 0, none⟩, cap, ?_, ?_, .inl k3, ?_, ?_⟩, ?_, by rw [blk_cell hpb]; rfl, blk_free hpb 0⟩
  · rw [hl]; simpa using blk_set hpb 0 (.slice (some ⟨g, 0, none⟩) (l.length + 1) cap)
  · rw [hl, tchV_snoc]
    exact ownsRow_heap hown (fun k hk => by simp [Value.ownBlock] at hk; subst hk; exact Below.heap_setCell _ _ _ _ hgp)
  · intro k hk
    simp [Value.ownBlock] at hk
    subst hk
    refine ⟨?_, hgp⟩
    rcases hgg with hgg | hgg
    · exact .inl (k4 g hgg).1
    · exact .inr ⟨Nat.le_trans h1.size hgg, by rw [hs2]; exact hg2⟩
  · intro k hk
    rw [hs2]
    rcases hk with hk | hk
    · exact Nat.lt_of_lt_of_le (k5 k hk) hsz
    · rw [hs2] at hk; exact hk.2
  · refine Chg.setCell (Chg.grown (h1.mono (fun k _ hk => hk.elim)) hg ?_) (.inr k3) _
    intro k hk
    exact .inr (k4 k hk).1
theorem Rf.cleared (h : Rf w p F l most) : Rf (w.setCell ⟨p, 0, none⟩ (.slice none 0 0)) p F [] most ∧ Chg w (w.setCell ⟨p, 0, none⟩ (.slice none 0 0)) F := by
  obtain ⟨a, c, h1, h2, h3, h4, h5⟩ := h
  exact ⟨⟨none, 0, by simpa using blk_set h1 0 (.slice none 0 0), World.ownsRow_nil _ _ _ _, h3, by simp [Value.ownBlock], fun k hk => by simpa [World.setCell] using h5 k hk⟩, (Chg.refl _ _).setCell (.inr h3) _⟩
end

namespace R7

/-- Where a cell stands, or -1. -/
def placeI (l : List (Int × Nat)) (c : Int) : Int := match pos l c with | some i => i | none => -1
theorem placeI_kn {l : List (Int × Nat)} {c : Int} {i : Nat} (h : Kn l c i) : placeI l c = i := by unfold placeI; rw [h.pos]
theorem placeI_un {l : List (Int × Nat)} {c : Int} (h : Un l c) : placeI l c = -1 := by unfold placeI; rw [h.pos]

theorem place_any (p : Nat) (F : Nat → Prop) (l : List (Int × Nat)) (most c : Int) (w : World) (h : Rf w p F l most) (hl : l.length ≤ 32) :
    Calls Try.prog 26 #[.pointer (some ⟨p, 0, none⟩), .int .i64 c] w fun e w' => e = .returned (.int .i64 (placeI l c)) ∧ w = w' := by
  have H := Lib.hid h
  obtain ⟨a, cc, c0, c1, hown⟩ := h.cells
  clear h hown
  go_enter Try.func26, Try.ntmps26
  go_wp2
  go_loopg [5] l.length (fun k i wr => ∃ n : Nat, n + k = l.length ∧ i = .int .i64 n ∧ (∀ j, j < n → ∀ t, l[j]? = some t → t.1 ≠ c) ∧ wr = w)
  case atStart => exact ⟨0, by simp, rfl, fun j hj => absurd hj (Nat.not_lt_zero _), rfl⟩
  case round =>
    obtain ⟨n, hn, rfl, hb, rfl⟩ := hrel
    by_cases hlt : n < l.length
    · have hd : decide (n < l.length) = true := by simpa using hlt
      obtain ⟨k, y, hy⟩ : ∃ k y, l[n]? = some (k, y) := ⟨_, _, List.getElem?_eq_getElem hlt⟩
      obtain ⟨g, cg, x0, x1, x2, x3⟩ := H.out.at hy
      rw [c0] at x0
      simp at x0
      obtain ⟨rfl, rfl⟩ := x0
      by_cases hk : k = c
      · subst hk
        have hq : (k == k) = true := by simp
        have HP := Lib.hid (placeI_kn (l := l) (c := k) (i := n) ⟨⟨y, hy⟩, hb⟩)
        clear hy hb
        go_wp2
        go_ret
        exact ⟨by rw [HP.out]; rfl, rfl⟩
      · have hq : (k == c) = false := by simpa using hk
        have HB := Lib.hid (show ∀ j, j < n + 1 → ∀ t, l[j]? = some t → t.1 ≠ c from fun j hj t ht => by
          by_cases e : j = n
          · subst e; rw [hy] at ht; cases ht; exact hk
          · exact hb j (by omega) t ht)
        clear hy hb
        go_wp2
        go_roundg (gk - 1)
        case measure => omega
        case rel => exact ⟨n + 1, by omega, by go_num, HB.out, rfl⟩
    · have hd : decide (n < l.length) = false := by simpa using hlt
      have HP := Lib.hid (placeI_un (l := l) (c := c) (fun t ht => by
        obtain ⟨j, hj, rfl⟩ := List.mem_iff_getElem.1 ht
        exact hb j (by omega) _ (List.getElem?_eq_getElem hj)))
      clear hb
      go_wp2
      go_ret
      exact ⟨by rw [HP.out]; rfl, rfl⟩

theorem get_known (p : Nat) (F : Nat → Prop) (l : List (Int × Nat)) (most c : Int) (i y : Nat) (w : World) (h : Rf w p F l most) (hl : l.length ≤ 32) (hn : Kn l c i) (hy : l[i]? = some (c, y)) :
    Calls Try.prog 30 #[.pointer (some ⟨p, 0, none⟩), .int .i64 c] w fun e w' => e = .returned (.tuple #[fl y, .bool true]) ∧ w = w' := by
  have H := Lib.hid h
  obtain ⟨g, cg, x0, x1, x2, x3⟩ := h.at hy
  have hp := Lib.hid (placeI_kn hn)
  have hi := hn.lt
  have hd : decide ((i : Int) < 0) = false := by simp
  clear h hn hy
  go_enter Try.func30, Try.ntmps30
  go_wp2_with fail
  refine (place_any p F l most c w H.out hl).mono ?_
  rintro e w' ⟨rfl, rfl⟩
  rw [hp.out]
  go_wp2_with fail
  go_ret2
  exact ⟨rfl, rfl⟩

theorem get_un (p : Nat) (F : Nat → Prop) (l : List (Int × Nat)) (most c : Int) (w : World) (h : Rf w p F l most) (hl : l.length ≤ 32) (hn : Un l c) :
    Calls Try.prog 30 #[.pointer (some ⟨p, 0, none⟩), .int .i64 c] w fun e w' => e = .returned (.tuple #[fl 0, .bool false]) ∧ w = w' := by
  have H := Lib.hid h
  have hp := Lib.hid (placeI_un hn)
  clear h hn
  go_enter Try.func30, Try.ntmps30
  go_wp2_with fail
  refine (place_any p F l most c w H.out hl).mono ?_
  rintro e w' ⟨rfl, rfl⟩
  rw [hp.out]
  go_wp2_with fail
  go_ret2
  exact ⟨rfl, rfl⟩

theorem len_any (p : Nat) (F : Nat → Prop) (l : List (Int × Nat)) (most : Int) (w : World) (h : Rf w p F l most) :
    Calls Try.prog 22 #[.pointer (some ⟨p, 0, none⟩)] w fun e w' => e = .returned (.int .i64 l.length) ∧ w = w' := by
  obtain ⟨a, c, c0, c1, hown⟩ := h.cells
  clear h hown
  go_enter Try.func22, Try.ntmps22
  go_wp2
  go_ret
  exact ⟨rfl, rfl⟩

theorem clear_any (p : Nat) (F : Nat → Prop) (l : List (Int × Nat)) (most : Int) (w : World) (h : Rf w p F l most) :
    Calls Try.prog 31 #[.pointer (some ⟨p, 0, none⟩)] w fun e w' => e = .returned (.tuple #[]) ∧ Rf w' p F [] most ∧ Chg w w' F := by
  obtain ⟨a, c, c0, c1, hown⟩ := h.cells
  have x2 := h.free 0
  have R := Lib.hid h.cleared
  clear h hown
  go_enter Try.func31, Try.ntmps31
  go_wp2
  go_end0
  exact ⟨rfl, R.out⟩

theorem new_bad (n : Int) (w : World) (h : n < 1 ∨ 32 < n) : Calls Try.prog 15 #[.int .i64 n] w fun e w' => e = .returned (.tuple #[.pointer none, .int .i64 1]) ∧ w = w' := by
  by_cases h1 : n < 1
  · have b1 : decide (n < 1) = true := by simpa using h1
    clear h
    go_enter Try.func15, Try.ntmps15
    go_wp2
    go_ret2
    exact ⟨rfl, rfl⟩
  · have b1 : decide (n < 1) = false := by simpa using h1
    have b2 : decide (32 < n) = true := by simp; omega
    clear h
    go_enter Try.func15, Try.ntmps15
    go_wp2
    go_ret2
    exact ⟨rfl, rfl⟩

theorem new_good (n : Int) (w : World) (h1 : 1 ≤ n) (h2 : n ≤ 32) : Calls Try.prog 15 #[.int .i64 n] w fun e w' => ∃ p, e = .returned (.tuple #[.pointer (some ⟨p, 0, none⟩), .int .i64 0]) ∧ w.heap.size ≤ p ∧
    Rf w' p (Grow Nothing w w') [] n ∧ Chg w w' Nothing := by
  have b1 : decide (n < 1) = false := by simp; omega
  have b2 : decide (32 < n) = false := by simp; omega
  clear h1 h2
  go_enter Try.func15, Try.ntmps15
  go_wp2
  go_ret2
  exact ⟨_, rfl, Nat.le_refl _, ⟨none, 0, heap_alloc_new w _, World.ownsRow_nil _ _ _ _, .inr ⟨Nat.le_refl _, by simp⟩, by simp [Value.ownBlock], fun k hk => by rcases hk with hk | hk; exact hk.elim; exact hk.2⟩, (Chg.refl _ _).alloc _⟩

theorem put_known (p : Nat) (F : Nat → Prop) (l : List (Int × Nat)) (most c : Int) (x i : Nat) (w : World) (h : Rf w p F l most) (hl : l.length ≤ 32) (hn : Kn l c i) :
    Calls Try.prog 16 #[.pointer (some ⟨p, 0, none⟩), .int .i64 c, fl x] w fun e w' => e = .returned (.tuple #[.bool false, .int .i64 0]) ∧ Rf w' p F (l.set i (c, fixB x)) most ∧ Chg w w' F := by
  have H := Lib.hid h
  obtain ⟨⟨y, hy⟩, _⟩ := id hn
  obtain ⟨g, cg, x0, x1, x2, x3⟩ := h.at hy
  have R := Lib.hid (h.stored (x := fixB x) x0 hy)
  have hp := Lib.hid (placeI_kn hn)
  have hi := hn.lt
  have hd : decide ((0 : Int) ≤ (i : Int)) = true := by simp
  clear h hn hy
  go_enter Try.func16, Try.ntmps16
  go_wp2_with fail
  refine (rfix_any _ _).mono ?_
  rintro e w' ⟨rfl, rfl⟩
  go_wp2_with fail
  refine (place_any p F l most c w H.out hl).mono ?_
  rintro e w' ⟨rfl, rfl⟩
  rw [hp.out]
  go_wp2_with fail
  go_ret2
  exact ⟨rfl, R.out⟩

theorem put_full (p : Nat) (F : Nat → Prop) (l : List (Int × Nat)) (most c : Int) (x : Nat) (w : World) (h : Rf w p F l most) (hl : l.length ≤ 32) (hn : Un l c) (hf : (l.length : Int) = most) :
    Calls Try.prog 16 #[.pointer (some ⟨p, 0, none⟩), .int .i64 c, fl x] w fun e w' => e = .returned (.tuple #[.bool false, .int .i64 70]) ∧ ∃ m, w' = w.drewN m := by
  have H := Lib.hid h
  obtain ⟨a, cc, c0, c1, hown⟩ := h.cells
  have hp := Lib.hid (placeI_un hn)
  have hq : decide (most ≤ (l.length : Int)) = true := by simp; omega
  clear h hn hown hf
  go_enter Try.func16, Try.ntmps16
  go_wp2_with fail
  refine (rfix_any _ _).mono ?_
  rintro e w' ⟨rfl, rfl⟩
  go_wp2_with fail
  refine (place_any p F l most c w H.out hl).mono ?_
  rintro e w' ⟨rfl, rfl⟩
  rw [hp.out]
  go_wp2_with fail
  go_quiet (fail)
  go_wp2_with fail
  go_ret2
  exact ⟨rfl, _, rfl⟩

theorem put_new (p : Nat) (F : Nat → Prop) (l : List (Int × Nat)) (most c : Int) (x : Nat) (w : World) (h : Rf w p F l most) (hl : l.length ≤ 32) (hn : Un l c) (hf : (l.length : Int) < most) :
    Calls Try.prog 16 #[.pointer (some ⟨p, 0, none⟩), .int .i64 c, fl x] w fun e w' => e = .returned (.tuple #[.bool true, .int .i64 0]) ∧ Rf w' p (Grow F w w') (l ++ [(c, fixB x)]) most ∧ Chg w w' F := by
  have H := Lib.hid h
  obtain ⟨a, cc, c0, c1, hown⟩ := h.cells
  have HO := Lib.hid hown
  have hp := Lib.hid (placeI_un hn)
  have hq : decide (most ≤ (l.length : Int)) = false := by simp; omega
  have C0 := Lib.hid c0
  clear h hn hown hf
  go_enter Try.func16, Try.ntmps16
  go_wp2_with fail
  refine (rfix_any _ _).mono ?_
  rintro e w' ⟨rfl, rfl⟩
  go_wp2_with fail
  refine (place_any p F l most c w H.out hl).mono ?_
  rintro e w' ⟨rfl, rfl⟩
  rw [hp.out]
  go_wp2_with fail
  go_quiet (fail)
  generalize hzs : tchV l = zs at HO
  have HZ := Lib.hid hzs
  clear hzs
  go_wp2_with (at_builtin; refine append_one rfl _ _ 32 39 rfl (.agg #[.int .i64 0, fl 0]) 2 16 Try.underlying32 (by kernel_rfl) rfl (by decide) _ l.length zs rfl (HO.out.drew.alloc _) w.heap.size 1 rfl [.int .i64 c, fl (fixB x)] rfl ?c1 ?c2 ?c3 ?c4 ?c5)
  case c1 => intro j u hj; match j, hj with | 0, hj => (simp at hj; subst hj; exact blk_cell (heap_alloc_new (w.drewN nq) _) 0) | 1, hj => (simp at hj; subst hj; exact blk_cell (heap_alloc_new (w.drewN nq) _) 1)
  case c2 => intro u hu; simp at hu; rcases hu with rfl | rfl <;> rfl
  case c3 => unfold maxLen; omega
  case c4 => omega
  case c5 =>
    intro g cap w2 hown2 hg2 hgg
    have hc1 : Chg w ((w.drewN nq).alloc (.cells #[.int .i64 c, fl (fixB x)] 39)) Nothing := ((Chg.refl _ _).drewN _).alloc _
    obtain ⟨r1, r2, r3, r4⟩ := H.out.pushed (w2 := w2) (g := g) (cap := cap) (x := fixB x) (c := c) C0.out hc1 hg2 (by rw [HZ.out]; exact hown2) (hgg.imp id (fun h => by simpa using h))
    have R1 := Lib.hid r1
    have R2 := Lib.hid r2
    clear hown2 hg2 hgg hc1 r1 r2 c0 c1
    go_wp2_with fail
    go_ret2
    exact ⟨rfl, R1.out, R2.out⟩

theorem all_any (p : Nat) (F : Nat → Prop) (l : List (Int × Nat)) (most : Int) (w : World) (h : Rf w p F l most) (hl : l.length ≤ 32) :
    Calls Try.prog 17 #[.pointer (some ⟨p, 0, none⟩)] w fun e w' => ∃ a c, e = .returned (.slice a l.length c) ∧ w'.ownsRow w.heap.size 39 2 (.slice a l.length c) l.length (tchV l) ∧ Chg w w' Nothing := by
  have H := Lib.hid h
  clear h
  go_enter Try.func17, Try.ntmps17
  go_wp2
  go_loopg [3, 4] l.length (fun k v i wr => ∃ n : Nat, n + k = l.length ∧ i = .int .i64 n ∧ wr.ownsRow w.heap.size 39 2 v n (tchV (l.take n)) ∧ Chg w wr Nothing)
  case atStart => exact ⟨0, by simp, rfl, World.ownsRow_nil _ _ _ _, Chg.refl _ _⟩
  case round =>
    obtain ⟨n, hn, rfl, hown, hchg⟩ := hrel
    have H1 := Lib.hid (H.out.chg hchg (fun _ _ h => h))
    by_cases hlt : n < l.length
    · have hd : decide (n < l.length) = true := by simpa using hlt
      obtain ⟨k, y, hy⟩ : ∃ k y, l[n]? = some (k, y) := ⟨_, _, List.getElem?_eq_getElem hlt⟩
      obtain ⟨g, cg, x0, x1, x2, x3⟩ := H1.out.at hy
      have TK := Lib.hid (show tchV (l.take n) ++ [.int .i64 k, fl y] = tchV (l.take (n + 1)) by
        obtain ⟨h1, h2⟩ := List.getElem?_eq_some_iff.1 hy
        rw [List.take_succ_eq_append_getElem hlt, h2, tchV_snoc])
      clear hy
      have HCHG := Lib.hid hchg
      have HO := Lib.hid hown
      clear hchg hown
      generalize tchV (l.take n) = zs at HO TK
      go_wp2_with (at_builtin; refine append_one rfl _ _ 32 39 rfl (.agg #[.int .i64 0, fl 0]) 2 16 Try.underlying32 (by kernel_rfl) rfl (by decide) _ n zs rfl (ownsRow_base (HO.out.alloc _) (Nat.zero_le _)) wr.heap.size 1 rfl [.int .i64 k, fl y] rfl ?c1 ?c2 ?c3 ?c4 ?c5)
      case c2 => first | exact ⟨rfl, rfl⟩ | (intro u hu; simp at hu; rcases hu with rfl | rfl <;> rfl)
      case c3 => unfold maxLen; omega
      case c4 => omega
      case c5 =>
        intro g' cap w2 hown2 hg2 hgg
        have R := Lib.hid (show w2.ownsRow w.heap.size 39 2 (.slice (some ⟨g', 0, none⟩) (n + 1) cap) (n + 1) (tchV (l.take (n + 1))) ∧ Chg w w2 Nothing from by
          refine ⟨?_, (HCHG.out.alloc _).grown hg2 (fun k hk => .inl (HO.out.lt k hk).1)⟩
          rw [← TK.out]
          refine ownsRow_rebase hown2 fun g hg' => ?_
          simp [Value.ownBlock] at hg'
          subst hg'
          rcases hgg with h | h
          · exact (HO.out.lt _ h).1
          · have := HCHG.out.size; (try simp at h); omega)
        clear hown2 hg2 hgg x0 x1 x2 x3
        go_wp2
        go_roundg (gk - 1)
        case measure => omega
        case rel => exact ⟨n + 1, by omega, by go_num, R.out⟩
    · have hd : decide (n < l.length) = false := by simpa using hlt
      obtain rfl : n = l.length := by omega
      obtain ⟨⟨a', c', rfl⟩, _⟩ := ownsRow_shape hown
      have HO := Lib.hid (show wr.ownsRow w.heap.size 39 2 (.slice a' l.length c') l.length (tchV l) from by rwa [List.take_length] at hown)
      obtain ⟨a, c, c0, c1, _⟩ := H1.out.cells
      clear hown
      go_wp2
      go_ret
      exact ⟨_, _, rfl, HO.out, hchg⟩

end R7
end Go.Proofs.Ytpigcmedkljonac
