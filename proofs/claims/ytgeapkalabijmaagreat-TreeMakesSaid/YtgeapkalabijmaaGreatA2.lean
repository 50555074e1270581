/- The builder's small methods: contracts. -/
import Derived.Test.YtgeapkalabijmaaGreatA1
namespace Go.Proofs.YtgeapkalabijmaaGreat
open Go Go.RowKit
set_option maxRecDepth 100000
set_option maxHeartbeats 1000000
set_option linter.unusedVariables false
set_option linter.unusedSimpArgs false

/-- A builder at block p, whose blocks lie in F. -/
def Bd (w : World) (p : Nat) (F : Nat → Prop) (s : Asm) : Prop :=
  (∀ k, F k → k < w.heap.size) ∧ s.code.length = s.tos.length ∧ ∃ T ac cc al cl mb fs ents, BdAt w p T s.tag s.code (laterOf 0 s.tos) s.labels (groupOf s.marks) ac cc al cl mb fs ents ∧ ∀ k, T k ≠ 0 → F k
theorem Bd.lt {w : World} {p : Nat} {F : Nat → Prop} {s : Asm} (h : Bd w p F s) : ∀ k, F k → k < w.heap.size := h.1
theorem Bd.chg {w w' : World} {p : Nat} {F S : Nat → Prop} {s : Asm} (h : Bd w p F s) (hc : Chg w w' S) (hd : ∀ k, F k → ¬ S k) : Bd w' p F s := by
  obtain ⟨h1, h2, T, ac, cc, al, cl, mb, fs, ents, h3, h4⟩ := h
  exact ⟨fun k hk => Nat.lt_of_lt_of_le (h1 k hk) hc.size, h2, T, ac, cc, al, cl, mb, fs, ents, h3.frame hc.size (fun b hb => hc.block b (h1 b (h4 b hb)) (hd b (h4 b hb))), h4⟩
theorem Bd.grow {w w' : World} {p : Nat} {F : Nat → Prop} {s : Asm} (h : Bd w' p F s) : Bd w' p (Grow F w w') s := by
  obtain ⟨h1, h2, T, ac, cc, al, cl, mb, fs, ents, h3, h4⟩ := h
  exact ⟨fun k hk => by rcases hk with hk | hk; exact h1 k hk; exact hk.2, h2, T, ac, cc, al, cl, mb, fs, ents, h3, fun k hk => .inl (h4 k hk)⟩

theorem new_any (tag : Int) (w : World) : Calls Tryz.prog 31 #[.int .i64 tag] w fun e w' => ∃ p, e = .returned (.pointer (some ⟨p, 0, none⟩)) ∧ w.heap.size ≤ p ∧ Bd w' p (Grow Nothing w w') ⟨tag, [], [], 0, []⟩ ∧ Chg w w' Nothing := by
  have R := Lib.hid (BdAt.made w tag)
  have hmm := @run_makeMap Tryz.prog
  go_enter Tryz.func31, Tryz.ntmps31
  go_wp2
  go_ret
  refine ⟨_, rfl, by simp, ⟨fun k hk => ?_, rfl, _, _, _, _, _, _, _, _, R.out, fun k hk => .inr ?_⟩, ((Chg.refl _ _).alloc _).alloc _⟩
  · rcases hk with hk | hk
    · exact hk.elim
    · exact hk.2
  · have := R.out.lt k hk
    refine ⟨?_, this⟩
    by_cases e : k = w.heap.size
    · omega
    · by_cases e2 : k = w.heap.size + 1
      · omega
      · simp only [if_neg e, if_neg e2] at hk
        exact absurd rfl hk

theorem new3 {w : World} {x y z : Value} {T : TypeId} : ∀ j u, [x, y, z][j]? = some u → (w.alloc (.cells #[x, y, z] T)).cell? ⟨w.heap.size, j, none⟩ = some u := by
  intro j u hj
  rw [blk_cell (heap_alloc_new w _)]
  simpa using hj
theorem one3 {k1 k2 : IntKind} {a b : Int} {c : Nat} : ∀ u ∈ [Value.int k1 a, Value.int k2 b, fl c], u.oneCell' = true := by
  intro u hu
  simp at hu
  rcases hu with rfl | rfl | rfl <;> rfl

/-- What a step leaves, as a builder. -/
theorem Bd.step {w w' : World} {p : Nat} {F : Nat → Prop} {T T' : Nat → Nat} {s' : Asm} {ac al : Option Addr} {cc cl mb : Nat} {fs : List Value} {ents : List (Int × Value)} (hF : ∀ k, F k → k < w.heap.size) (hT : ∀ k, T k ≠ 0 → F k) (hl : s'.code.length = s'.tos.length)
    (hB : BdAt w' p T' s'.tag s'.code (laterOf 0 s'.tos) s'.labels (groupOf s'.marks) ac cc al cl mb fs ents) (hc : Chg w w' (fun k => T k ≠ 0)) (hn : ∀ k, T' k ≠ 0 → T k ≠ 0 ∨ w.heap.size ≤ k) : Bd w' p (Grow F w w') s' ∧ Chg w w' F :=
  ⟨⟨fun k hk => by
      rcases hk with hk | hk
      · exact Nat.lt_of_lt_of_le (hF k hk) hc.size
      · exact hk.2, hl, T', ac, cc, al, cl, mb, fs, ents, hB, fun k hk => by
      rcases hn k hk with h | h
      · exact .inl (hT k h)
      · exact .inr ⟨h, hB.lt k hk⟩⟩, hc.mono (fun k _ hk => hT k hk)⟩
theorem grew {w w1 : World} {T : Nat → Nat} {v : Value} {n i : Nat} (hi : i ≠ 0) (ht : ∀ b, v.ownBlock = some b → T b = i) (h1 : w.heap.size ≤ w1.heap.size) (hgg : v.ownBlock = some n ∨ w1.heap.size ≤ n) : ∀ k, (if k = n then i else T k) ≠ 0 → T k ≠ 0 ∨ w.heap.size ≤ k := fun k hk => by
  by_cases e : k = n
  · subst e
    rcases hgg with h | h
    · exact .inl (by rw [ht k h]; exact hi)
    · exact .inr (Nat.le_trans h1 h)
  · rw [if_neg e] at hk
    exact .inl hk

set_option maxHeartbeats 1000000 in
theorem add_any (p : Nat) (F : Nat → Prop) (s : Asm) (op n : Int) (w : World) (h : Bd w p F s) (hb : s.code.length < 4398046511103) :
    Calls Tryz.prog 92 #[.pointer (some ⟨p, 0, none⟩), .int .i64 op, .int .i64 n] w fun e w' => e = .returned (.tuple #[]) ∧ Bd w' p (Grow F w w') { s with code := s.code ++ [(op, n, 0)], tos := s.tos ++ [none] } ∧ Chg w w' F := by
  obtain ⟨hF, hl, T, ac, cc, al, cl, mb, fs, ents, hB, hT⟩ := h
  obtain ⟨c0, c1, c2, c3, c4⟩ := hB.cells
  have HB := Lib.hid hB
  have HO := Lib.hid hB.code
  have HF := Lib.hid hF
  have HT := Lib.hid hT
  have HL := Lib.hid hl
  have HN := Lib.hid hb
  clear hB hF hT hl hb c0 c2 c3 c4
  go_enter Tryz.func92, Tryz.ntmps92
  go_wp2_with (at_builtin; refine append_one rfl _ _ 24 73 rfl (.agg #[.int .i64 0, .int .i64 0, fl 0]) 3 24 Tryz.underlying24 (by kernel_rfl) rfl (by decide) _ s.code.length (insV s.code) rfl (HO.out.alloc _) w.heap.size 1 rfl [.int .i64 op, .int .i64 n, fl 0] rfl ?c1 ?c2 ?c3 ?c4 ?c5)
  case c1 => exact new3
  case c2 => exact one3
  case c3 => have := HN.out; unfold maxLen; omega
  case c4 => have := HN.out; omega
  case c5 =>
    intro g cap w2 hown2 hg2 hgg
    have hgg : _ ∨ (w.alloc (.cells #[.int .i64 op, .int .i64 n, fl 0] 73)).heap.size ≤ g := hgg.imp id (fun h => by simpa using h)
    obtain ⟨A1, A2, x1, x2⟩ := HB.out.added (x := ((op, n, 0))) (n := g) (cap := cap) ((Chg.refl w Nothing).alloc _) hg2 hown2 hgg
    have R := Lib.hid (Bd.step (s' := { s with code := s.code ++ [(op, n, 0)], tos := s.tos ++ [none] }) HF.out HT.out (by simp [HL.out]) (by rw [laterOf_none]; exact A1) A2 (grew (by decide) HB.out.tc ((Chg.refl w Nothing).alloc _).size hgg))
    clear A1 A2 hown2 hg2 hgg c1
    go_wp2
    go_end0
    exact ⟨rfl, R.out⟩
set_option maxHeartbeats 1000000 in
theorem push_any (p : Nat) (F : Nat → Prop) (s : Asm) (x : Nat) (w : World) (h : Bd w p F s) (hb : s.code.length < 4398046511103) :
    Calls Tryz.prog 95 #[.pointer (some ⟨p, 0, none⟩), fl x] w fun e w' => e = .returned (.tuple #[]) ∧ Bd w' p (Grow F w w') { s with code := s.code ++ [(1, 0, x)], tos := s.tos ++ [none] } ∧ Chg w w' F := by
  obtain ⟨hF, hl, T, ac, cc, al, cl, mb, fs, ents, hB, hT⟩ := h
  obtain ⟨c0, c1, c2, c3, c4⟩ := hB.cells
  have HB := Lib.hid hB
  have HO := Lib.hid hB.code
  have HF := Lib.hid hF
  have HT := Lib.hid hT
  have HL := Lib.hid hl
  have HN := Lib.hid hb
  clear hB hF hT hl hb c0 c2 c3 c4
  go_enter Tryz.func95, Tryz.ntmps95
  go_wp2_with (at_builtin; refine append_one rfl _ _ 24 73 rfl (.agg #[.int .i64 0, .int .i64 0, fl 0]) 3 24 Tryz.underlying24 (by kernel_rfl) rfl (by decide) _ s.code.length (insV s.code) rfl (HO.out.alloc _) w.heap.size 1 rfl [.int .i64 1, .int .i64 0, fl x] rfl ?c1 ?c2 ?c3 ?c4 ?c5)
  case c1 => exact new3
  case c2 => exact one3
  case c3 => have := HN.out; unfold maxLen; omega
  case c4 => have := HN.out; omega
  case c5 =>
    intro g cap w2 hown2 hg2 hgg
    have hgg : _ ∨ (w.alloc (.cells #[.int .i64 1, .int .i64 0, fl x] 73)).heap.size ≤ g := hgg.imp id (fun h => by simpa using h)
    obtain ⟨A1, A2, x1, x2⟩ := HB.out.added (x := ((1, 0, x))) (n := g) (cap := cap) ((Chg.refl w Nothing).alloc _) hg2 hown2 hgg
    have R := Lib.hid (Bd.step (s' := { s with code := s.code ++ [(1, 0, x)], tos := s.tos ++ [none] }) HF.out HT.out (by simp [HL.out]) (by rw [laterOf_none]; exact A1) A2 (grew (by decide) HB.out.tc ((Chg.refl w Nothing).alloc _).size hgg))
    clear A1 A2 hown2 hg2 hgg c1
    go_wp2
    go_end0
    exact ⟨rfl, R.out⟩

theorem label_more (p : Nat) (F : Nat → Prop) (s : Asm) (w : World) (h : Bd w p F s) (hs : s.labels < 256) :
    Calls Tryz.prog 70 #[.pointer (some ⟨p, 0, none⟩)] w fun e w' => e = .returned (.int .i64 (s.labels : Int)) ∧ Bd w' p (Grow F w w') { s with labels := s.labels + 1 } ∧ Chg w w' F := by
  obtain ⟨hF, hl, T, ac, cc, al, cl, mb, fs, ents, hB, hT⟩ := h
  obtain ⟨c0, c1, c2, c3, c4⟩ := hB.cells
  have z3 := hB.free 3
  obtain ⟨A1, A2⟩ := hB.labeled hs
  have R := Lib.hid (Bd.step (s' := { s with labels := s.labels + 1 }) hF hT hl A1 A2 (fun k hk => .inl hk))
  have hq : ((s.labels : Int) == 256) = false := by rw [beq_eq_false_iff_ne]; omega
  clear hB hF hT hl A1 A2 c0 c1 c2 c4
  go_enter Tryz.func70, Tryz.ntmps70
  go_wp2
  go_ret
  exact ⟨by go_num, R.out⟩
theorem label_full (p : Nat) (F : Nat → Prop) (s : Asm) (w : World) (h : Bd w p F s) (hs : s.labels = 256) :
    Calls Tryz.prog 70 #[.pointer (some ⟨p, 0, none⟩)] w fun e w' => e = .returned (.int .i64 (-1)) ∧ w = w' := by
  obtain ⟨hF, hl, T, ac, cc, al, cl, mb, fs, ents, hB, hT⟩ := h
  obtain ⟨c0, c1, c2, c3, c4⟩ := hB.cells
  have hq : ((s.labels : Int) == 256) = true := by rw [beq_iff_eq]; omega
  clear hB hF hT hl c0 c1 c2 c4 hs
  go_enter Tryz.func70, Tryz.ntmps70
  go_wp2
  go_ret
  exact ⟨rfl, rfl⟩
end Go.Proofs.YtgeapkalabijmaaGreat
