/- The document's builder: its rows grow; its small methods. -/
import Derived.Test.YthgcmafeahlmpaaA8
namespace Go.Proofs.Ythgcmafeahlmpaa
open Go Go.RowKit
set_option linter.unusedVariables false
set_option linter.unusedSimpArgs false

section
variable {w w1 w2 w' : World} {r : Nat} {T T' : Nat → Nat} {tag : Int} {cs : List Ins} {ls : List Int} {ts : List Bool} {many : Nat} {ms : List (Int × Nat)} {a1 a2 a3 a4 : Option Addr} {c1 c2 c3 c4 : Nat}
theorem RbAt.coded (h : RbAt w r T tag cs ls ts many ms a1 c1 a2 c2 a3 c3 a4 c4) {g cap : Nat} {x : Ins} (hc : Chg w w1 Nothing) (hg : w1.grownBy w2 (Value.slice a1 cs.length c1).ownBlock)
    (hown : w2.ownsRow 0 42 3 (.slice (some ⟨g, 0, none⟩) (cs.length + 1) cap) (cs.length + 1) (insV cs ++ [.int .i64 x.1, .int .i64 x.2.1, fl x.2.2])) (hgg : (Value.slice a1 cs.length c1).ownBlock = some g ∨ w1.heap.size ≤ g) :
    RbAt (w2.setCell ⟨r, 1, none⟩ (.slice (some ⟨g, 0, none⟩) (cs.length + 1) cap)) r (fun k => if k = g then 2 else T k) tag (cs ++ [x]) ls ts many ms (some ⟨g, 0, none⟩) cap a2 c2 a3 c3 a4 c4 ∧
      Chg w (w2.setCell ⟨r, 1, none⟩ (.slice (some ⟨g, 0, none⟩) (cs.length + 1) cap)) (fun k => T k ≠ 0) ∧ (∀ k, (if k = g then 2 else T k) ≠ 0 → T k ≠ 0 ∨ w.heap.size ≤ k) := by
  obtain ⟨s1, s2, s3, s4, s5, s6, s7⟩ := rb_step (r := r) (j := 1) (x := .slice (some ⟨g, 0, none⟩) (cs.length + 1) cap) hc hg hgg (hown.lt g rfl).2 h.code.2 (by decide) h.lt h.tr
  have mv : ∀ i, i ≠ 0 → i ≠ 2 → i ≠ 1 → ∀ b, T b = i → _ ∧ (if b = g then 2 else T b) = i := fun i h0 h1 h2 b hb => by
    have := s1 b (by omega) (by omega) (fun e => by rw [e, h.tr] at hb; omega)
    exact ⟨this.1, this.2.trans hb⟩
  have e1 : (cs ++ [x]).length = cs.length + 1 := by simp
  refine ⟨⟨?_, s4, ⟨?_, fun b hb => ?_⟩, h.labels.move (mv 3 (by decide) (by decide) (by decide)), h.tos.move (mv 4 (by decide) (by decide) (by decide)), h.marks.move (mv 5 (by decide) (by decide) (by decide)), s5, h.most⟩, s6, s7⟩
  · have := blk_set (s2.trans h.blk) 1 (.slice (some ⟨g, 0, none⟩) (cs.length + 1) cap)
    rw [e1]
    simpa using this
  · rw [e1, insV_snoc]
    exact ownsRow_heap hown (fun k hk => by injection hk with hk; have hk : g = k := hk; exact Below.heap_setCell _ _ _ _ (by rw [← hk]; exact s3))
  · injection hb with hb
    have hb : g = b := hb
    exact if_pos hb.symm
theorem RbAt.laid (h : RbAt w r T tag cs ls ts many ms a1 c1 a2 c2 a3 c3 a4 c4) {g cap : Nat} {x : Int} (hc : Chg w w1 Nothing) (hg : w1.grownBy w2 (Value.slice a2 ls.length c2).ownBlock)
    (hown : w2.ownsRow 0 3 1 (.slice (some ⟨g, 0, none⟩) (ls.length + 1) cap) (ls.length + 1) (labV ls ++ [.int .i64 x])) (hgg : (Value.slice a2 ls.length c2).ownBlock = some g ∨ w1.heap.size ≤ g) :
    RbAt (w2.setCell ⟨r, 2, none⟩ (.slice (some ⟨g, 0, none⟩) (ls.length + 1) cap)) r (fun k => if k = g then 3 else T k) tag cs (ls ++ [x]) ts many ms a1 c1 (some ⟨g, 0, none⟩) cap a3 c3 a4 c4 ∧
      Chg w (w2.setCell ⟨r, 2, none⟩ (.slice (some ⟨g, 0, none⟩) (ls.length + 1) cap)) (fun k => T k ≠ 0) ∧ (∀ k, (if k = g then 3 else T k) ≠ 0 → T k ≠ 0 ∨ w.heap.size ≤ k) := by
  obtain ⟨s1, s2, s3, s4, s5, s6, s7⟩ := rb_step (r := r) (j := 2) (x := .slice (some ⟨g, 0, none⟩) (ls.length + 1) cap) hc hg hgg (hown.lt g rfl).2 h.labels.2 (by decide) h.lt h.tr
  have mv : ∀ i, i ≠ 0 → i ≠ 3 → i ≠ 1 → ∀ b, T b = i → _ ∧ (if b = g then 3 else T b) = i := fun i h0 h1 h2 b hb => by
    have := s1 b (by omega) (by omega) (fun e => by rw [e, h.tr] at hb; omega)
    exact ⟨this.1, this.2.trans hb⟩
  have e1 : (ls ++ [x]).length = ls.length + 1 := by simp
  refine ⟨⟨?_, s4, h.code.move (mv 2 (by decide) (by decide) (by decide)), ⟨?_, fun b hb => ?_⟩, h.tos.move (mv 4 (by decide) (by decide) (by decide)), h.marks.move (mv 5 (by decide) (by decide) (by decide)), s5, h.most⟩, s6, s7⟩
  · have := blk_set (s2.trans h.blk) 2 (.slice (some ⟨g, 0, none⟩) (ls.length + 1) cap)
    rw [e1]
    simpa using this
  · rw [e1, show labV (ls ++ [x]) = labV ls ++ [.int .i64 x] by simp [labV]]
    exact ownsRow_heap hown (fun k hk => by injection hk with hk; have hk : g = k := hk; exact Below.heap_setCell _ _ _ _ (by rw [← hk]; exact s3))
  · injection hb with hb
    have hb : g = b := hb
    exact if_pos hb.symm
theorem RbAt.told (h : RbAt w r T tag cs ls ts many ms a1 c1 a2 c2 a3 c3 a4 c4) {g cap : Nat} {x : Bool} (hc : Chg w w1 Nothing) (hg : w1.grownBy w2 (Value.slice a3 ts.length c3).ownBlock)
    (hown : w2.ownsRow 0 4 1 (.slice (some ⟨g, 0, none⟩) (ts.length + 1) cap) (ts.length + 1) (toV ts ++ [.bool x])) (hgg : (Value.slice a3 ts.length c3).ownBlock = some g ∨ w1.heap.size ≤ g) :
    RbAt (w2.setCell ⟨r, 3, none⟩ (.slice (some ⟨g, 0, none⟩) (ts.length + 1) cap)) r (fun k => if k = g then 4 else T k) tag cs ls (ts ++ [x]) many ms a1 c1 a2 c2 (some ⟨g, 0, none⟩) cap a4 c4 ∧
      Chg w (w2.setCell ⟨r, 3, none⟩ (.slice (some ⟨g, 0, none⟩) (ts.length + 1) cap)) (fun k => T k ≠ 0) ∧ (∀ k, (if k = g then 4 else T k) ≠ 0 → T k ≠ 0 ∨ w.heap.size ≤ k) := by
  obtain ⟨s1, s2, s3, s4, s5, s6, s7⟩ := rb_step (r := r) (j := 3) (x := .slice (some ⟨g, 0, none⟩) (ts.length + 1) cap) hc hg hgg (hown.lt g rfl).2 h.tos.2 (by decide) h.lt h.tr
  have mv : ∀ i, i ≠ 0 → i ≠ 4 → i ≠ 1 → ∀ b, T b = i → _ ∧ (if b = g then 4 else T b) = i := fun i h0 h1 h2 b hb => by
    have := s1 b (by omega) (by omega) (fun e => by rw [e, h.tr] at hb; omega)
    exact ⟨this.1, this.2.trans hb⟩
  have e1 : (ts ++ [x]).length = ts.length + 1 := by simp
  refine ⟨⟨?_, s4, h.code.move (mv 2 (by decide) (by decide) (by decide)), h.labels.move (mv 3 (by decide) (by decide) (by decide)), ⟨?_, fun b hb => ?_⟩, h.marks.move (mv 5 (by decide) (by decide) (by decide)), s5, h.most⟩, s6, s7⟩
  · have := blk_set (s2.trans h.blk) 3 (.slice (some ⟨g, 0, none⟩) (ts.length + 1) cap)
    rw [e1]
    simpa using this
  · rw [e1, show toV (ts ++ [x]) = toV ts ++ [.bool x] by simp [toV]]
    exact ownsRow_heap hown (fun k hk => by injection hk with hk; have hk : g = k := hk; exact Below.heap_setCell _ _ _ _ (by rw [← hk]; exact s3))
  · injection hb with hb
    have hb : g = b := hb
    exact if_pos hb.symm
theorem RbAt.marked (h : RbAt w r T tag cs ls ts many ms a1 c1 a2 c2 a3 c3 a4 c4) {g cap : Nat} {x : Int × Nat} (hc : Chg w w1 Nothing) (hg : w1.grownBy w2 (Value.slice a4 ms.length c4).ownBlock)
    (hown : w2.ownsRow 0 67 2 (.slice (some ⟨g, 0, none⟩) (ms.length + 1) cap) (ms.length + 1) (mkV ms ++ [.int .i64 x.1, .int .i64 (x.2 : Int)])) (hgg : (Value.slice a4 ms.length c4).ownBlock = some g ∨ w1.heap.size ≤ g) :
    RbAt (w2.setCell ⟨r, 5, none⟩ (.slice (some ⟨g, 0, none⟩) (ms.length + 1) cap)) r (fun k => if k = g then 5 else T k) tag cs ls ts many (ms ++ [x]) a1 c1 a2 c2 a3 c3 (some ⟨g, 0, none⟩) cap ∧
      Chg w (w2.setCell ⟨r, 5, none⟩ (.slice (some ⟨g, 0, none⟩) (ms.length + 1) cap)) (fun k => T k ≠ 0) ∧ (∀ k, (if k = g then 5 else T k) ≠ 0 → T k ≠ 0 ∨ w.heap.size ≤ k) := by
  obtain ⟨s1, s2, s3, s4, s5, s6, s7⟩ := rb_step (r := r) (j := 5) (x := .slice (some ⟨g, 0, none⟩) (ms.length + 1) cap) hc hg hgg (hown.lt g rfl).2 h.marks.2 (by decide) h.lt h.tr
  have mv : ∀ i, i ≠ 0 → i ≠ 5 → i ≠ 1 → ∀ b, T b = i → _ ∧ (if b = g then 5 else T b) = i := fun i h0 h1 h2 b hb => by
    have := s1 b (by omega) (by omega) (fun e => by rw [e, h.tr] at hb; omega)
    exact ⟨this.1, this.2.trans hb⟩
  have e1 : (ms ++ [x]).length = ms.length + 1 := by simp
  refine ⟨⟨?_, s4, h.code.move (mv 2 (by decide) (by decide) (by decide)), h.labels.move (mv 3 (by decide) (by decide) (by decide)), h.tos.move (mv 4 (by decide) (by decide) (by decide)), ⟨?_, fun b hb => ?_⟩, s5, h.most⟩, s6, s7⟩
  · have := blk_set (s2.trans h.blk) 5 (.slice (some ⟨g, 0, none⟩) (ms.length + 1) cap)
    rw [e1]
    simpa using this
  · rw [e1, show mkV (ms ++ [x]) = mkV ms ++ [.int .i64 x.1, .int .i64 (x.2 : Int)] by simp [mkV]]
    exact ownsRow_heap hown (fun k hk => by injection hk with hk; have hk : g = k := hk; exact Below.heap_setCell _ _ _ _ (by rw [← hk]; exact s3))
  · injection hb with hb
    have hb : g = b := hb
    exact if_pos hb.symm
end

/-- The document's builder at block r, whose blocks lie in F. -/
def Rb (w : World) (r : Nat) (F : Nat → Prop) (s : Asm) : Prop :=
  (∀ k, F k → k < w.heap.size) ∧ s.code.length = s.tos.length ∧ ∃ T a1 c1 a2 c2 a3 c3 a4 c4, RbAt w r T s.tag s.code (s.tos.map (·.getD 0)) (s.tos.map Option.isSome) s.labels s.marks a1 c1 a2 c2 a3 c3 a4 c4 ∧ ∀ k, T k ≠ 0 → F k
theorem Rb.lt {w : World} {r : Nat} {F : Nat → Prop} {s : Asm} (h : Rb w r F s) : ∀ k, F k → k < w.heap.size := h.1
theorem Rb.chg {w w' : World} {r : Nat} {F S : Nat → Prop} {s : Asm} (h : Rb w r F s) (hc : Chg w w' S) (hd : ∀ k, F k → ¬ S k) : Rb w' r F s := by
  obtain ⟨h1, h2, T, a1, c1, a2, c2, a3, c3, a4, c4, h3, h4⟩ := h
  exact ⟨fun k hk => Nat.lt_of_lt_of_le (h1 k hk) hc.size, h2, T, a1, c1, a2, c2, a3, c3, a4, c4, h3.frame hc.size (fun b hb => hc.block b (h1 b (h4 b hb)) (hd b (h4 b hb))), h4⟩
theorem Rb.grow {w w' : World} {r : Nat} {F : Nat → Prop} {s : Asm} (h : Rb w' r F s) : Rb w' r (Grow F w w') s := by
  obtain ⟨h1, h2, T, a1, c1, a2, c2, a3, c3, a4, c4, h3, h4⟩ := h
  exact ⟨fun k hk => by rcases hk with hk | hk; exact h1 k hk; exact hk.2, h2, T, a1, c1, a2, c2, a3, c3, a4, c4, h3, fun k hk => .inl (h4 k hk)⟩
/-- What a step leaves, as a builder. -/
theorem Rb.step {w w' : World} {r : Nat} {F : Nat → Prop} {T T' : Nat → Nat} {s' : Asm} {a1 a2 a3 a4 : Option Addr} {c1 c2 c3 c4 : Nat} (hF : ∀ k, F k → k < w.heap.size) (hT : ∀ k, T k ≠ 0 → F k) (hl : s'.code.length = s'.tos.length)
    (hB : RbAt w' r T' s'.tag s'.code (s'.tos.map (·.getD 0)) (s'.tos.map Option.isSome) s'.labels s'.marks a1 c1 a2 c2 a3 c3 a4 c4) (hc : Chg w w' (fun k => T k ≠ 0)) (hn : ∀ k, T' k ≠ 0 → T k ≠ 0 ∨ w.heap.size ≤ k) : Rb w' r (Grow F w w') s' ∧ Chg w w' F :=
  ⟨⟨fun k hk => by
      rcases hk with hk | hk
      · exact Nat.lt_of_lt_of_le (hF k hk) hc.size
      · exact hk.2, hl, T', a1, c1, a2, c2, a3, c3, a4, c4, hB, fun k hk => by
      rcases hn k hk with h | h
      · exact .inl (hT k h)
      · exact .inr ⟨h, hB.lt k hk⟩⟩, hc.mono (fun k _ hk => hT k hk)⟩

theorem rnew_any (tag : Int) (w : World) : Calls Try.prog 8 #[.int .i64 tag] w fun e w' => ∃ r, e = .returned (.pointer (some ⟨r, 0, none⟩)) ∧ w.heap.size ≤ r ∧ Rb w' r (Grow Nothing w w') ⟨tag, [], [], 0, []⟩ ∧ Chg w w' Nothing := by
  go_enter Try.func8, Try.ntmps8
  go_wp2
  go_ret
  have hlt : ∀ k, (if k = w.heap.size then 1 else 0) ≠ 0 → k = w.heap.size := fun k hk => by
    by_cases e : k = w.heap.size
    · exact e
    · rw [if_neg e] at hk; exact absurd rfl hk
  have nil2 : ∀ (i : Nat) (b : Nat), (Value.slice none 0 0).ownBlock = some b → (if b = w.heap.size then 1 else 0) = i := fun i b hb => by simp [Value.ownBlock] at hb
  refine ⟨_, rfl, Nat.le_refl _, ⟨fun k hk => ?_, rfl, fun k => if k = w.heap.size then 1 else 0, none, 0, none, 0, none, 0, none, 0, ⟨heap_alloc_new w _, if_pos rfl, ⟨World.ownsRow_nil _ _ _ _, nil2 2⟩, ⟨World.ownsRow_nil _ _ _ _, nil2 3⟩, ⟨World.ownsRow_nil _ _ _ _, nil2 4⟩, ⟨World.ownsRow_nil _ _ _ _, nil2 5⟩, fun k hk => ?_, Nat.zero_le _⟩, fun k hk => .inr ?_⟩, (Chg.refl _ _).alloc _⟩
  · rcases hk with hk | hk
    · exact hk.elim
    · exact hk.2
  · rw [hlt k hk]; simp
  · rw [hlt k hk]; simp
theorem rlabel_more (r : Nat) (F : Nat → Prop) (s : Asm) (w : World) (h : Rb w r F s) (hs : s.labels < 256) :
    Calls Try.prog 23 #[.pointer (some ⟨r, 0, none⟩)] w fun e w' => e = .returned (.int .i64 (s.labels : Int)) ∧ Rb w' r (Grow F w w') { s with labels := s.labels + 1 } ∧ Chg w w' F := by
  obtain ⟨hF, hl, T, a1, k1, a2, k2, a3, k3, a4, k4, hB, hT⟩ := h
  obtain ⟨c0, c1, c2, c3, c4, c5⟩ := hB.cells
  have z4 : w.frozen? ⟨r, 4, none⟩ = false := blk_free hB.blk 4
  have hrF : T r ≠ 0 := by rw [hB.tr]; decide
  have far : ∀ b, T b ≠ 0 → T b ≠ 1 → (w.setCell ⟨r, 4, none⟩ (.int .i64 ((s.labels + 1 : Nat) : Int))).heap[b]? = w.heap[b]? := fun b _ hb => Below.heap_setCell _ _ _ _ (fun (e : b = r) => hb (by rw [e]; exact hB.tr))
  have hC : Chg w (w.setCell ⟨r, 4, none⟩ (.int .i64 ((s.labels + 1 : Nat) : Int))) (fun k => T k ≠ 0) := (Chg.refl w _).setCell (.inr hrF) _
  have hB2 : RbAt (w.setCell ⟨r, 4, none⟩ (.int .i64 ((s.labels + 1 : Nat) : Int))) r T s.tag s.code (s.tos.map (·.getD 0)) (s.tos.map Option.isSome) (s.labels + 1) s.marks a1 k1 a2 k2 a3 k3 a4 k4 :=
    ⟨by have := blk_set hB.blk 4 (.int .i64 ((s.labels + 1 : Nat) : Int)); simpa using this, hB.tr, hB.code.move (fun b hb => ⟨far b (by omega) (by omega), hb⟩), hB.labels.move (fun b hb => ⟨far b (by omega) (by omega), hb⟩), hB.tos.move (fun b hb => ⟨far b (by omega) (by omega), hb⟩), hB.marks.move (fun b hb => ⟨far b (by omega) (by omega), hb⟩), fun k hk => by simpa using hB.lt k hk, hs⟩
  have R := Lib.hid (Rb.step (s' := { s with labels := s.labels + 1 }) hF hT hl hB2 hC (fun k hk => .inl hk))
  have hq : ((s.labels : Int) == 256) = false := by rw [beq_eq_false_iff_ne]; omega
  clear hB hF hT hl hB2 hC far hrF c0 c1 c2 c3 c5
  go_enter Try.func23, Try.ntmps23
  go_wp2
  go_ret
  exact ⟨by go_num, R.out⟩
theorem rlabel_full (r : Nat) (F : Nat → Prop) (s : Asm) (w : World) (h : Rb w r F s) (hs : s.labels = 256) :
    Calls Try.prog 23 #[.pointer (some ⟨r, 0, none⟩)] w fun e w' => e = .returned (.int .i64 (-1)) ∧ w = w' := by
  obtain ⟨hF, hl, T, a1, k1, a2, k2, a3, k3, a4, k4, hB, hT⟩ := h
  obtain ⟨c0, c1, c2, c3, c4, c5⟩ := hB.cells
  have hq : ((s.labels : Int) == 256) = true := by rw [beq_iff_eq]; omega
  clear hB hF hT hl c0 c1 c2 c3 c5 hs
  go_enter Try.func23, Try.ntmps23
  go_wp2
  go_ret
  exact ⟨rfl, rfl⟩
end Go.Proofs.Ythgcmafeahlmpaa
