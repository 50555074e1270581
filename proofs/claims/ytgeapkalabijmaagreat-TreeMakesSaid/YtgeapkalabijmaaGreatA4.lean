/- The builder's Mark: its contract. -/
import Derived.Test.YtgeapkalabijmaaGreatA3
namespace Go.Proofs.YtgeapkalabijmaaGreat
open Go Go.RowKit
set_option maxRecDepth 100000
set_option maxHeartbeats 1000000
set_option linter.unusedVariables false
set_option linter.unusedSimpArgs false

theorem addMark_known {m : List (Int × List Nat)} {k : Int} {n i : Nat} {ps : List Nat} (h : Kn m k i) (hi : m[i]? = some (k, ps)) : addMark m k n = m.set i (k, ps ++ [n]) := by
  unfold addMark
  rw [h.pos]
  simp only [List.getD_eq_getElem?_getD, hi, Option.getD_some]
theorem addMark_new {m : List (Int × List Nat)} {k : Int} {n : Nat} (h : Un m k) : addMark m k n = m ++ [(k, [n])] := by
  unfold addMark
  rw [h.pos]
theorem MarksIn.kn {w : World} {T : Nat → Nat} {ents : List (Int × Value)} {g : List (Int × List Nat)} {k : Int} {i : Nat} (h : MarksIn w T ents g) (hk : Kn g k i) : Kn ents k i := by
  obtain ⟨⟨ps, hp⟩, h2⟩ := hk
  obtain ⟨a, c, e1, _⟩ := h.2 i k ps hp
  refine ⟨⟨_, e1⟩, fun j hj t ht => ?_⟩
  have hj' : j < g.length := by have := (List.getElem?_eq_some_iff.1 hp).1; omega
  obtain ⟨k', ps', hq⟩ : ∃ k' ps', g[j]? = some (k', ps') := ⟨_, _, List.getElem?_eq_getElem hj'⟩
  obtain ⟨a', c', e2, _⟩ := h.2 j k' ps' hq
  rw [e2] at ht
  cases ht
  exact h2 j hj _ hq
theorem MarksIn.un {w : World} {T : Nat → Nat} {ents : List (Int × Value)} {g : List (Int × List Nat)} {k : Int} (h : MarksIn w T ents g) (hk : Un g k) : Un ents k := by
  intro t ht
  obtain ⟨j, hj⟩ := List.getElem?_of_mem ht
  have hj' : j < g.length := by have := (List.getElem?_eq_some_iff.1 hj).1; have := h.1; omega
  obtain ⟨k', ps', hq⟩ : ∃ k' ps', g[j]? = some (k', ps') := ⟨_, _, List.getElem?_eq_getElem hj'⟩
  obtain ⟨a', c', e2, _⟩ := h.2 j k' ps' hq
  rw [e2] at hj
  cases hj
  exact hk _ (List.mem_of_getElem? hq)

/-- What Mark meets: the label's places, its row, and what becomes of them. -/
structure Marking (w : World) (mb : Nat) (T : Nat → Nat) (ents : List (Int × Value)) (g : List (Int × List Nat)) (k : Int) (x : Nat) (i : Nat) (ps : List Nat) (a : Option Addr) (c : Nat) : Prop where
  look : ∀ y : World, y.heap[mb]? = w.heap[mb]? → (Instr.lookup 110 (.map (some mb)) (.int .i64 k) false).run Tryz.prog y = .ok (.slice a ps.length c) y
  own : w.ownsRow 0 3 1 (.slice a ps.length c) ps.length (natV ps)
  tags : ∀ b, (Value.slice a ps.length c).ownBlock = some b → T b = 10 + i
  put : ∀ (y : World) (n cap : Nat), y.heap[mb]? = w.heap[mb]? → ∃ ents' w', (Instr.mapUpdate 110 (.map (some mb)) (.int .i64 k) (.slice (some ⟨n, 0, none⟩) (ps.length + 1) cap)).run Tryz.prog y = .ok () w' ∧ MapS w' mb ents' ∧ Chg y w' (fun j => j = mb) ∧
    ((g[i]? = some (k, ps) ∧ ents[i]? = some (k, .slice a ps.length c) ∧ addMark g k x = g.set i (k, ps ++ [x]) ∧ ents' = ents.set i (k, .slice (some ⟨n, 0, none⟩) (ps.length + 1) cap)) ∨ (i = g.length ∧ ps = [] ∧ addMark g k x = g ++ [(k, [x])] ∧ ents' = ents ++ [(k, .slice (some ⟨n, 0, none⟩) (ps.length + 1) cap)]))
theorem marking {w : World} {mb : Nat} {T : Nat → Nat} {ents : List (Int × Value)} {g : List (Int × List Nat)} (k : Int) (x : Nat) (hm : MapS w mb ents) (hM : MarksIn w T ents g) : ∃ i ps a c, Marking w mb T ents g k x i ps a c := by
  cases hp : pos g k with
  | some i =>
    have hk := Kn.of_pos hp
    obtain ⟨⟨ps, hi⟩, _⟩ := id hk
    obtain ⟨a, c, e1, e2, e3⟩ := hM.2 i k ps hi
    refine ⟨i, ps, a, c, fun y hy => ?_, e2, e3, fun y n cap hy => ?_⟩
    · exact (hm.frame hy).toI.look_kn (P := Tryz.prog) Tryz.underlying110 Tryz.underlying3 (hM.kn hk) false e1
    · obtain ⟨w', h1, h2, h3⟩ := (hm.frame hy).put_kn (P := Tryz.prog) Tryz.underlying110 Tryz.underlying3 (hM.kn hk) (.slice (some ⟨n, 0, none⟩) (ps.length + 1) cap)
      exact ⟨_, w', h1, h2, h3, .inl ⟨hi, e1, addMark_known hk hi, rfl⟩⟩
  | none =>
    have hk := Un.of_pos hp
    refine ⟨g.length, [], none, 0, fun y hy => ?_, World.ownsRow_nil _ _ _ _, by simp [Value.ownBlock], fun y n cap hy => ?_⟩
    · exact (hm.frame hy).toI.look_un (P := Tryz.prog) Tryz.underlying110 Tryz.underlying3 (hM.un hk) false (z := .slice none 0 0) (by rfl)
    · obtain ⟨w', h1, h2, h3⟩ := (hm.frame hy).put_un (P := Tryz.prog) Tryz.underlying110 Tryz.underlying3 (hM.un hk) (.slice (some ⟨n, 0, none⟩) 1 cap)
      exact ⟨_, w', h1, h2, h3, .inr ⟨rfl, rfl, addMark_new hk, rfl⟩⟩

theorem placesOf_len (l : List (Int × Nat)) (k : Int) : (placesOf l k).length ≤ l.length := by
  unfold placesOf
  rw [List.length_map]
  exact List.length_filter_le _ _

set_option maxRecDepth 100000 in
set_option maxHeartbeats 3200000 in
theorem mark_any (p : Nat) (F : Nat → Prop) (s : Asm) (k : Int) (w : World) (h : Bd w p F s) (hb : s.marks.length < 4398046511103) :
    Calls Tryz.prog 98 #[.pointer (some ⟨p, 0, none⟩), .int .i64 k] w fun e w' => e = .returned (.tuple #[]) ∧ Bd w' p (Grow F w w') { s with marks := s.marks ++ [(k, s.code.length)] } ∧ Chg w w' F := by
  obtain ⟨hF, hl, T, ac, cc, al, cl, mb, fs, ents, hB, hT⟩ := h
  obtain ⟨i, ps, a, c, M⟩ := marking k s.code.length hB.map hB.marks
  have hps : ps.length ≤ s.marks.length := by
    obtain ⟨_, _, _, _, _, q⟩ := M.put w 0 0 rfl
    rcases q with ⟨q, _⟩ | ⟨_, q, _⟩
    · have := ((groupOf_ok s.marks).2.1 _ (List.mem_of_getElem? q)).1
      simp only at this
      rw [this]
      exact placesOf_len _ _
    · rw [q]; simp
  obtain ⟨i0, hi0, hz0, hz1, hz2⟩ := info_parts (show (Tryz.prog.info? 3).map (fun i => (i.zero, i.size, i.bytes)) = some (some (.int .i64 0), 1, 8) by kernel_rfl)
  obtain ⟨c0, c1, c2, c3, c4⟩ := hB.cells
  have hp : p < w.heap.size := hB.lt p (by rw [hB.tp]; decide)
  have hmb : mb < w.heap.size := hB.lt mb (by rw [hB.tm]; decide)
  have op : (Value.slice a ps.length c).ownBlock ≠ some p := fun e => by have := M.tags p e; rw [hB.tp] at this; omega
  have om : (Value.slice a ps.length c).ownBlock ≠ some mb := fun e => by have := M.tags mb e; rw [hB.tm] at this; omega
  have hlook := M.look w rfl
  have HB := Lib.hid hB
  have HM := Lib.hid M
  have HO := Lib.hid M.own
  have HF := Lib.hid hF
  have HT := Lib.hid hT
  have HL := Lib.hid hl
  have HN := Lib.hid (show ps.length + 1 ≤ 4398046511103 by omega)
  have HI := Lib.hid (And.intro hi0 (And.intro hz0 (And.intro hz1 hz2)))
  clear hB M hF hT hl hb hps c0 c2 c3 hi0 hz0 hz1 hz2
  go_enter Tryz.func98, Tryz.ntmps98
  go_wp2_with fail
  have hpm : ¬ (fun j => j = mb) (⟨p, 4, none⟩ : Addr).block := fun (e : p = mb) => by have := HB.out.tp; have := HB.out.tm; rw [e] at *; omega
  have l1 := HM.out.look w.drew rfl
  have l2 := HM.out.look ((w.alloc (.cells #[.int .i64 (s.code.length : Int)] 3)).drew) (Below.heap_alloc _ _ _ hmb)
  go_region_held3 (fun w' => w'.cell? ⟨p, 4, none⟩ = some (.map (some mb)) ∧ w'.cell? ⟨p, 1, none⟩ = some (.slice ac s.code.length cc))
    (first
      | (go_split_ands
         exact ⟨by go_keep, by go_keep⟩)
      | (go_split_ands
         refine ⟨?_, ?_⟩
         · (rw [hgrow.cell_far _ (by simp; omega) (Ne.symm op)]; assumption)
         · (rw [hgrow.cell_far _ (by simp; omega) (Ne.symm op)]; assumption))
      | (go_split_ands
         exact ⟨hc4.cell (by assumption) hpm, hc4.cell (by assumption) hpm⟩))
    ((refine step_append_lies _ (by rfl) _ _ _ (by rfl) 0 3 i0 _ 1 8 Tryz.underlying114 HI.out.1 HI.out.2.1 HI.out.2.2.1 HI.out.2.2.2 rfl (by omega) (.slice a ps.length c) ps.length (natV ps) (by rfl) ((HO.out.alloc _).drew)
        ⟨w.heap.size, 0, none⟩ 1 1 [.int .i64 (s.code.length : Int)] (by rfl) (by rfl) (World.news_of_block (cs := #[.int .i64 (s.code.length : Int)]) (t := 3) (fr := (0, 0)) (heap_alloc_new w _)) (by simp [Value.oneCell'])
        (by omega) (by have := HN.out; unfold maxLen; omega) (by have := HN.out; omega) (by simp) (w.heap.size + 1) (by simp) ?_; intro gg cap w1 hown1 hgrow hat hlt; obtain ⟨ents', w4, hput, hm4, hc4, hcase⟩ := HM.out.put w1 gg cap (by rw [hgrow.block mb (by simp; omega) (Ne.symm om)]; exact Below.heap_alloc _ _ _ hmb)))
  all_goals
    have h1 : Chg w ((w.alloc (.cells #[.int .i64 (s.code.length : Int)] 3)).drew) Nothing := ((Chg.refl w Nothing).alloc _).drew
    have hgg : (Value.slice a ps.length c).ownBlock = some gg ∨ ((w.alloc (.cells #[.int .i64 (s.code.length : Int)] 3)).drew).heap.size ≤ gg := hat.imp id (fun h => by rw [h]; simp)
    have hu : ((addMark (groupOf s.marks) k s.code.length).map (·.1)).Nodup := by rw [← groupOf_snoc]; exact (groupOf_ok _).1
    obtain ⟨A1, A2⟩ := HB.out.marked (g' := addMark (groupOf s.marks) k s.code.length) (ents' := ents') (n := gg) (cap := cap) (i := i) (x := s.code.length) (k := k) (ps := ps) hcase HM.out.tags hu h1 hgrow hown1 hgg hm4 hc4
    have R := Lib.hid (Bd.step (s' := { s with marks := s.marks ++ [(k, s.code.length)] }) HF.out HT.out HL.out (by rw [groupOf_snoc]; exact A1) A2 (grew (by omega) HM.out.tags h1.size hgg))
    clear h1 hgg hu A1 A2 hm4 hc4 hcase hown1 hgrow hat hlt hput
    go_wp2
    go_end0
    exact ⟨rfl, R.out⟩
end Go.Proofs.YtgeapkalabijmaaGreat
