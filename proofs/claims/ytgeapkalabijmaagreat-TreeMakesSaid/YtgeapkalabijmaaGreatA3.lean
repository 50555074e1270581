/- The builder's To and Mark: contracts. -/
import Derived.Test.YtgeapkalabijmaaGreatA2
namespace Go.Proofs.YtgeapkalabijmaaGreat
open Go Go.RowKit
set_option maxRecDepth 100000
set_option maxHeartbeats 1000000
set_option linter.unusedVariables false
set_option linter.unusedSimpArgs false

theorem new1 {w : World} {x : Value} {T : TypeId} : ∀ j u, [x][j]? = some u → (w.alloc (.cells #[x] T)).cell? ⟨w.heap.size, j, none⟩ = some u := by
  intro j u hj
  rw [blk_cell (heap_alloc_new w _)]
  simpa using hj

set_option maxHeartbeats 2000000 in
theorem to_any (p : Nat) (F : Nat → Prop) (s : Asm) (op l : Int) (w : World) (h : Bd w p F s) (hb : s.code.length < 4398046511103) :
    Calls Tryz.prog 97 #[.pointer (some ⟨p, 0, none⟩), .int .i64 op, .int .i64 l] w fun e w' => e = .returned (.tuple #[]) ∧ Bd w' p (Grow F w w') { s with code := s.code ++ [(op, 0, 0)], tos := s.tos ++ [some l] } ∧ Chg w w' F := by
  obtain ⟨hF, hl, T, ac, cc, al, cl, mb, fs, ents, hB, hT⟩ := h
  have hT0 : ∀ k, w.heap.size ≤ k → T k = 0 := fun k hk => by
    rcases Nat.eq_zero_or_pos (T k) with h | h
    · exact h
    · have := hB.lt k (by omega); omega
  have hLs := laterOf_len 0 s.tos
  have HLS := Lib.hid hLs
  have hp : p < w.heap.size := hB.lt p (by rw [hB.tp]; decide)
  obtain ⟨wA, hwA⟩ : ∃ wA, wA = (w.alloc (.cells #[.int .i64 l] 3)).alloc (.cells #[.int .i64 (s.code.length : Int)] 3) := ⟨_, rfl⟩
  have cA : Chg w wA Nothing := by rw [hwA]; exact ((Chg.refl _ _).alloc _).alloc _
  have sA : wA.heap.size = w.heap.size + 2 := by rw [hwA]; simp
  have bx : wA.heap[w.heap.size]? = some (.cells #[.int .i64 l] 3 (0, 0)) := by rw [hwA]; exact heap_alloc2_old w _ _
  have by' : wA.heap[w.heap.size + 1]? = some (.cells #[.int .i64 (s.code.length : Int)] 3 (0, 0)) := by rw [hwA]; exact heap_alloc2_new w _ _
  have hBA := hB.frame (w' := wA) cA.size (fun b hb => cA.block b (hB.lt b hb) id)
  have d0 := hB.cells
  obtain ⟨c0, c1, c2, c3, c4⟩ := hBA.cells
  obtain ⟨q0, q1, q2, q3, q4⟩ := d0
  have HB := Lib.hid hBA
  have HO := Lib.hid hBA.code
  have HF := Lib.hid hF
  have HT := Lib.hid hT
  have HT0 := Lib.hid hT0
  have HL := Lib.hid hl
  have HN := Lib.hid hb
  have CA := Lib.hid cA
  have SA := Lib.hid sA
  have BX := Lib.hid bx
  have BY := Lib.hid by'
  have HWA := Lib.hid hwA
  have hmf : ∀ (fn : Fn) (first cap : Array Value) (w : World), (Instr.makeFunc fn first cap).run Tryz.prog w = .ok (.func fn first cap) w := fun _ _ _ _ => rfl
  clear hB hBA hF hT hT0 hl hb c0 c2 c3 c4 q0 q2 q3 q4 cA sA bx by' hLs hwA
  go_enter Tryz.func97, Tryz.ntmps97
  go_upto_region 2 with fail
  rw [← HWA.out]
  go_wp2_with (at_builtin; refine append_one rfl _ _ 24 73 rfl (.agg #[.int .i64 0, .int .i64 0, fl 0]) 3 24 Tryz.underlying24 (by kernel_rfl) rfl (by decide) _ s.code.length (insV s.code) rfl (HO.out.alloc _) wA.heap.size 1 rfl [.int .i64 op, .int .i64 0, fl 0] rfl ?c1 ?c2 ?c3 ?c4 ?c5)
  case c1 => exact new3
  case c2 => exact one3
  case c3 => have := HN.out; unfold maxLen; omega
  case c4 => have := HN.out; omega
  case c5 =>
    intro g cap w2 hown2 hg2 hgg
    have hgg : _ ∨ (wA.alloc (.cells #[.int .i64 op, .int .i64 0, fl 0] 73)).heap.size ≤ g := hgg.imp id (fun h => by simpa using h)
    obtain ⟨A1, A2, x1, x2⟩ := HB.out.added (x := (op, 0, 0)) (n := g) (cap := cap) ((Chg.refl wA Nothing).alloc _) hg2 hown2 hgg
    have gr := grew (w := wA) (T := T) (by decide) HB.out.tc ((Chg.refl wA Nothing).alloc (.cells #[.int .i64 op, .int .i64 0, fl 0] 73)).size hgg
    obtain ⟨w3, hw3⟩ : ∃ w3, w3 = w2.setCell ⟨p, 1, none⟩ (.slice (some ⟨g, 0, none⟩) (s.code.length + 1) cap) := ⟨_, rfl⟩
    rw [← hw3] at A1 A2
    obtain ⟨T1, hT1⟩ : ∃ T1 : Nat → Nat, T1 = fun k => if k = g then 3 else T k := ⟨_, rfl⟩
    have gr1 : ∀ k, T1 k ≠ 0 → T k ≠ 0 ∨ wA.heap.size ≤ k := by rw [hT1]; exact gr
    rw [← hT1] at A1
    have s1 := HT0.out w.heap.size (Nat.le_refl _)
    have s2 := HT0.out (w.heap.size + 1) (by omega)
    have s3 := SA.out
    have t1 : T1 w.heap.size = 0 := by
      rcases Nat.eq_zero_or_pos (T1 w.heap.size) with h | h
      · exact h
      · have := gr1 _ (Nat.ne_of_gt h); omega
    have t2 : T1 (w.heap.size + 1) = 0 := by
      rcases Nat.eq_zero_or_pos (T1 (w.heap.size + 1)) with h | h
      · exact h
      · have := gr1 _ (Nat.ne_of_gt h); omega
    have BX3 := Lib.hid ((A2.block w.heap.size (by omega) (fun h => h s1)).trans BX.out)
    have BY3 := Lib.hid ((A2.block (w.heap.size + 1) (by omega) (fun h => h s2)).trans BY.out)
    have T1x := Lib.hid t1
    have T1y := Lib.hid t2
    have HB3 := Lib.hid A1
    have C3 := Lib.hid A2
    have G1 := Lib.hid gr1
    have HO3 := Lib.hid A1.later
    have f2 := A1.cells.2.2.1
    have W3 := Lib.hid hw3
    clear A1 A2 hown2 hg2 hgg c1 q1 gr gr1 s1 s2 s3 t1 t2 hT1 hw3
    go_upto_region 3 with fail
    rw [← W3.out]
    go_wp2_with (at_builtin; refine append_one rfl _ _ 111 115 rfl .nilFunc 1 8 Tryz.underlying111 (by kernel_rfl) rfl (by decide) _ (laterOf 0 s.tos).length fs rfl (HO3.out.alloc _) w3.heap.size 1 rfl [.func (.func 136) #[] #[.pointer (some ⟨w.heap.size, 0, none⟩), .pointer (some ⟨w.heap.size + 1, 0, none⟩)]] rfl ?c6 ?c7 ?c8 ?c9 ?c10)
    case c6 => exact new1
    case c7 => intro u hu; simp at hu; subst hu; rfl
    case c8 => have := HN.out; have := HLS.out; have := HL.out; unfold maxLen; omega
    case c9 => have := HN.out; have := HLS.out; have := HL.out; omega
    case c10 =>
      intro g4 cap4 w5 hown5 hg5 hgg5
      have hgg5 : _ ∨ (w3.alloc (.cells #[.func (.func 136) #[] #[.pointer (some ⟨w.heap.size, 0, none⟩), .pointer (some ⟨w.heap.size + 1, 0, none⟩)]] 115)).heap.size ≤ g4 := hgg5.imp id (fun h => by simpa using h)
      obtain ⟨A1, A2, x3, x4⟩ := HB3.out.latered (t := (s.code.length, l)) (n := g4) (cap := cap4) ((Chg.refl w3 Nothing).alloc _) hg5 rfl BX3.out BY3.out (.inl T1x.out) (.inl T1y.out) hown5 hgg5
      have gr2 := grew (w := w3) (T := T1) (by decide) HB3.out.tl ((Chg.refl w3 Nothing).alloc (.cells #[.func (.func 136) #[] #[.pointer (some ⟨w.heap.size, 0, none⟩), .pointer (some ⟨w.heap.size + 1, 0, none⟩)]] 115)).size hgg5
      have s3 := SA.out
      have hc3 := C3.out.size
      have CT : Chg w w3 (fun k => T k ≠ 0) := (CA.out.mono (S' := fun k => T k ≠ 0) (fun _ _ h => h.elim)).trans C3.out (fun _ _ h => h)
      have CF : Chg w (w5.setCell ⟨p, 2, none⟩ (.slice (some ⟨g4, 0, none⟩) ((laterOf 0 s.tos).length + 1) cap4)) (fun k => T k ≠ 0) := CT.trans A2 (fun k hk h => (G1.out k h).resolve_right (by omega))
      have hn : ∀ k, (if k = g4 then 4 else if k = w.heap.size ∨ k = w.heap.size + 1 then 5 else T1 k) ≠ 0 → T k ≠ 0 ∨ w.heap.size ≤ k := fun k hk => by
        have back : T1 k ≠ 0 → T k ≠ 0 ∨ w.heap.size ≤ k := fun h => (G1.out k h).imp id (fun h => by omega)
        by_cases e : k = g4
        · have := gr2 k (by rw [if_pos e]; decide)
          rcases this with h | h
          · exact back h
          · exact .inr (by omega)
        · rw [if_neg e] at hk
          by_cases e2 : k = w.heap.size ∨ k = w.heap.size + 1
          · exact .inr (by omega)
          · rw [if_neg e2] at hk
            exact back hk
      have R := Lib.hid (Bd.step (s' := { s with code := s.code ++ [(op, 0, 0)], tos := s.tos ++ [some l] }) HF.out HT.out (by simp [HL.out]) (by
        have e := laterOf_some 0 s.tos l
        rw [Nat.zero_add, ← HL.out] at e
        rw [e]; exact A1) CF hn)
      clear A1 A2 hown5 hg5 hgg5 gr2 s3 hc3 CT CF hn f2
      go_wp2
      go_end0
      exact ⟨rfl, R.out⟩
end Go.Proofs.YtgeapkalabijmaaGreat
