/- A table's Make where it fits: what it answers. Printed by gen/table3.py. -/
import Derived.Test.YtgeapkalabijmaaGreatD8
namespace Go.Proofs.YtgeapkalabijmaaGreat
open Go Go.RowKit
set_option maxRecDepth 100000
set_option maxHeartbeats 1000000
set_option linter.unusedVariables false
set_option linter.unusedSimpArgs false

theorem new2b {w : World} {o : Obj} {x y : Value} {T : TypeId} : ∀ j u, [x, y][j]? = some u → ((w.alloc o).alloc (.cells #[x, y] T)).cell? ⟨w.heap.size + 1, j, none⟩ = some u := by
  intro j u hj
  have h := heap_alloc_new (w.alloc o) (.cells #[x, y] T)
  rw [show (w.alloc o).heap.size = w.heap.size + 1 by simp] at h
  rw [blk_cell h]
  simpa using hj
theorem tbmk_results {tmps : Array Value} {W : World} {r0 : Nat} {ee : Int} {t0 : Int} {a0 : Option Addr} {l0 c0 : Nat} {t1 : Int} {a1 : Option Addr} {l1 c1 : Nat} {t2 : Int} {a2 : Option Addr} {l2 c2 : Nat} {t3 : Int} {a3 : Option Addr} {l3 c3 : Nat} {t4 : Int} {a4 : Option Addr} {l4 c4 : Nat} {T : TypeId} {fr : Nat × Nat} (h2 : tmps.getD 4 undef = .pointer (some ⟨r0, 0, none⟩)) (h3 : tmps.getD 5 undef = .int .i64 ee)
    (hb : W.heap[r0]? = some (.cells #[.int .i64 t0, .slice a0 l0 c0, .int .i64 t1, .slice a1 l1 c1, .int .i64 t2, .slice a2 l2 c2, .int .i64 t3, .slice a3 l3 c3, .int .i64 t4, .slice a4 l4 c4] T fr)) :
    (results Tryz.f22 tmps).run Tryz.prog W = .ok (.tuple #[.agg #[.int .i64 t0, .slice a0 l0 c0, .int .i64 t1, .slice a1 l1 c1, .int .i64 t2, .slice a2 l2 c2, .int .i64 t3, .slice a3 l3 c3, .int .i64 t4, .slice a4 l4 c4], .int .i64 ee]) W := by
  have h2' : tmps[4]?.getD undef = .pointer (some ⟨r0, 0, none⟩) := by simpa using h2
  have h3' : tmps[5]?.getD undef = .int .i64 ee := by simpa using h3
  have hl := run_loadVar_row (P := Tryz.prog) W r0 T 43 _ fr _ hb Tryz.underlying43 rfl (by kernel_rfl)
  have k0 : W.cell? ⟨r0, 0, none⟩ = some (.int .i64 t0) := by rw [blk_cell hb]; rfl
  have k1 : W.cell? ⟨r0, 1, none⟩ = some (.slice a0 l0 c0) := by rw [blk_cell hb]; rfl
  have k2 : W.cell? ⟨r0, 2, none⟩ = some (.int .i64 t1) := by rw [blk_cell hb]; rfl
  have k3 : W.cell? ⟨r0, 3, none⟩ = some (.slice a1 l1 c1) := by rw [blk_cell hb]; rfl
  have k4 : W.cell? ⟨r0, 4, none⟩ = some (.int .i64 t2) := by rw [blk_cell hb]; rfl
  have k5 : W.cell? ⟨r0, 5, none⟩ = some (.slice a2 l2 c2) := by rw [blk_cell hb]; rfl
  have k6 : W.cell? ⟨r0, 6, none⟩ = some (.int .i64 t3) := by rw [blk_cell hb]; rfl
  have k7 : W.cell? ⟨r0, 7, none⟩ = some (.slice a3 l3 c3) := by rw [blk_cell hb]; rfl
  have k8 : W.cell? ⟨r0, 8, none⟩ = some (.int .i64 t4) := by rw [blk_cell hb]; rfl
  have k9 : W.cell? ⟨r0, 9, none⟩ = some (.slice a4 l4 c4) := by rw [blk_cell hb]; rfl
  simp [results, Tryz.results22, h2', h3', asAddr, hl, k0, k1, k2, k3, k4, k5, k6, k7, k8, k9, go_sem]

set_option maxRecDepth 100000 in
set_option maxHeartbeats 8000000 in
theorem tbmake_good (w : World) (base cells : Int) (h0 : 0 ≤ base) (h1 : 11 ≤ cells) (h2 : cells ≤ 256) (h3 : base ≤ 256 - cells) :
    Calls Tryz.prog 22 #[.int .i64 base, .int .i64 cells] w fun e w' => ∃ t0 a0 l0 c0 t1 a1 l1 c1 t2 a2 l2 c2 t3 a3 l3 c3 t4 a4 l4 c4, e = .returned (.tuple #[.agg #[.int .i64 t0, .slice a0 l0 c0, .int .i64 t1, .slice a1 l1 c1, .int .i64 t2, .slice a2 l2 c2, .int .i64 t3, .slice a3 l3 c3, .int .i64 t4, .slice a4 l4 c4], .int .i64 0]) ∧ Chg w w' Nothing ∧ TbMade w' w.heap.size base (tbRoom cells) [(t0, a0, l0, c0), (t1, a1, l1, c1), (t2, a2, l2, c2), (t3, a3, l3, c3), (t4, a4, l4, c4)] := by
  have hr1 : 1 ≤ tbRoom cells ∧ tbRoom cells ≤ 16 := by unfold tbRoom; split <;> (try split) <;> omega
  obtain ⟨room, hroom⟩ : ∃ r, r = tbRoom cells := ⟨_, rfl⟩
  rw [← hroom] at hr1 ⊢
  have t1 : (room == 0) = false := by simp; omega
  have t2 : decide (base < 0) = false := by simp; omega
  have t3 : decide (256 < cells) = false := by simp; omega
  have t4 : wrap64 (256 - cells) = 256 - cells := IntWalk.wrap64_in _ ⟨by omega, by omega⟩
  have t5 : decide (256 - cells < base) = false := by simp; omega
  have HR := Lib.hid hroom
  have H1 := Lib.hid (And.intro h1 h2)
  clear h0 h1 h2 h3 hr1 hroom
  obtain ⟨wB, hwB⟩ : ∃ wB, wB = w.alloc (.cells #[.int .i64 0, .slice none 0 0, .int .i64 0, .slice none 0 0, .int .i64 0, .slice none 0 0, .int .i64 0, .slice none 0 0, .int .i64 0, .slice none 0 0] 43) := ⟨_, rfl⟩
  have CB := Lib.hid (show Chg w wB Nothing from by rw [hwB]; exact (Chg.refl _ _).alloc _)
  have ZB := Lib.hid (show wB.heap.size = w.heap.size + 1 from by rw [hwB]; simp)
  have BZ := Lib.hid (show wB.heap[w.heap.size]? = some (.cells #[.int .i64 0, .slice none 0 0, .int .i64 0, .slice none 0 0, .int .i64 0, .slice none 0 0, .int .i64 0, .slice none 0 0, .int .i64 0, .slice none 0 0] 43 (0, 0)) from by rw [hwB]; exact heap_alloc_new w _)
  have WB := Lib.hid hwB
  clear hwB
  go_enter Tryz.func22, Tryz.ntmps22
  go_upto_region 1 with fail
  rw [← WB.out]
  go_wp2_with fail
  refine (tbroom_any _ cells (by have := H1.out; omega) (by have := H1.out; omega)).mono ?_
  rintro e w1 ⟨he, rfl⟩
  rw [← HR.out] at he
  subst he
  go_wp2_with fail
  refine (tbrecipes_any _).mono ?_
  rintro e wR ⟨rfl, hc, hb, hl⟩
  have CR := Lib.hid hc
  have BR := Lib.hid hb
  have LR := Lib.hid hl
  clear hc hb hl t1 t2 t3 t4 t5
  go_wp2_with fail
  go_loopg [7, 34] 5 (fun k l v wr => ∃ i : Nat, i + k = 5 ∧ v = .int .i64 (i : Int) ∧ TbInv wR wr base room i l)
  case atStart => exact ⟨0, rfl, rfl, TbInv.zero wR base room⟩
  case round =>
    obtain ⟨i, hk, rfl, hinv⟩ := hrel
    have HK := Lib.hid hk
    obtain ⟨a, c, vs, rfl, i1, i2, i3, i4⟩ := hinv
    by_cases hlt : i < 5
    · have HI := Lib.hid hlt
      have q1 : decide ((i : Int) < 5) = true := decide_eq_true (by omega)
      obtain ⟨⟨tag, kf, f⟩, ht⟩ : ∃ t, tbRec[i]? = some t := ⟨_, List.getElem?_eq_getElem (show i < tbRec.length from hlt)⟩
      obtain ⟨d1, d2⟩ := tbRec_cells i _ ht
      have hblk := (i4.block _ LR.out id).trans BR.out
      have e1 : wr.cell? ⟨w1.heap.size, i * 2, none⟩ = some (.int .i64 tag) := by rw [blk_cell hblk]; simpa using d1
      have e2 : wr.cell? ⟨w1.heap.size, i * 2 + 1, none⟩ = some (.func (.func kf) #[] #[]) := by rw [blk_cell hblk]; simpa using d2
      have HD := Lib.hid (tb_does base room _ (List.mem_of_getElem? ht))
      have HT := Lib.hid ht
      have I1 := Lib.hid i1
      have I2 := Lib.hid i2
      have I3 := Lib.hid i3
      have I4 := Lib.hid i4
      clear hk d1 d2 hblk ht i1 i2 i3 i4
      go_wp2_with fail
      refine (new_any tag _).mono ?_
      rintro e wn ⟨p, rfl, hp, b1, c1⟩
      have CN := Lib.hid (((Chg.refl wr Nothing).alloc _).trans c1 (fun _ _ h => h))
      have hbk := (c1.block _ (by simp) id).trans (heap_alloc_new wr (.cells #[.int .i64 tag, .func (.func kf) #[] #[]] 88))
      have g1 : wn.cell? ⟨wr.heap.size, 1, none⟩ = some (.func (.func kf) #[] #[]) := blk_cell hbk 1
      have g0 := cell_lt g1
      simp only at g0
      have MK := Lib.hid (Mk.ofNew (tag := tag) b1 hp c1 base room 91)
      have hcf := HD.out.1
      clear hbk hp b1 c1 e1 e2
      go_wp2_with fail
      refine (HD.out.2 _ _ _ _ MK.out).mono ?_
      clear g0 g1 hcf
      rintro e w2 ⟨rfl, h⟩
      have c0 := h.c0
      have H2 := Lib.hid h
      clear h
      go_wp2_with fail
      refine (mk_program H2.out (by decide)).mono ?_
      clear c0
      rintro e w3 ⟨v, rfl, h, hp⟩
      obtain ⟨x1, y1, y2, y3, rfl⟩ := hp.two
      have C3 := Lib.hid (((Chg.refl wr Nothing).alloc _).trans h.old (fun _ _ h => h))
      have HP := Lib.hid (hp.low (Nat.le_trans I4.out.size (Nat.le_trans (by simp) H2.out.old.size)))
      have HO := Lib.hid (ownsRow_base (ownsRow_heap (w' := w3) I1.out (fun k hk => C3.out.block k (I1.out.lt k hk).2 id)) (Nat.zero_le _))
      clear h hp
      go_wp2_with (at_builtin; refine append_one rfl _ _ 83 26 rfl (.agg #[.int .i64 0, .slice none 0 0]) 2 32 Tryz.underlying83 (by kernel_rfl) rfl (by decide) _ i (pvL vs) rfl ((HO.out.alloc _).alloc _) (w3.heap.size + 1) 1 rfl [.int .i64 x1, .slice y1 y2 y3] rfl ?c1 ?c2 ?c3 ?c4 ?c5)
      case c1 => exact new2b
      case c2 => intro u hu; simp at hu; rcases hu with rfl | rfl <;> rfl
      case c3 => have := HI.out; unfold maxLen; omega
      case c4 => have := HI.out; omega
      case c5 =>
        intro g cap w5 hown2 hg2 hgg
        have R := Lib.hid (TbInv.snoc (q := (x1, y1, y2, y3)) I1.out I2.out I3.out I4.out HT.out HP.out (((Chg.refl w3 Nothing).alloc _).alloc _) ((C3.out.alloc _).alloc _) hown2 hg2 (hgg.imp id (fun h => by simpa using h)))
        clear hown2 hg2 hgg
        go_wp2_with fail
        go_roundg (gk - 1)
        case measure => have := HK.out; omega
        case rel => exact ⟨i + 1, by have := HK.out; omega, rfl, R.out⟩
    · have q1 : decide ((i : Int) < 5) = false := decide_eq_false (by omega)
      have he : i = 5 := by omega
      subst he
      have I1 := Lib.hid i1
      have I3 := Lib.hid i3
      have I4 := Lib.hid i4
      obtain ⟨⟨u0, b0, n0, k0⟩, v0, p0⟩ := i3 0 _ (by decide) rfl
      obtain ⟨⟨u1, b1, n1, k1⟩, v1, p1⟩ := i3 1 _ (by decide) rfl
      obtain ⟨⟨u2, b2, n2, k2⟩, v2, p2⟩ := i3 2 _ (by decide) rfl
      obtain ⟨⟨u3, b3, n3, k3⟩, v3, p3⟩ := i3 3 _ (by decide) rfl
      obtain ⟨⟨u4, b4, n4, k4⟩, v4, p4⟩ := i3 4 _ (by decide) rfl
      have hvs : vs = [(u0, b0, n0, k0), (u1, b1, n1, k1), (u2, b2, n2, k2), (u3, b3, n3, k3), (u4, b4, n4, k4)] := by
        match vs, i2, v0, v1, v2, v3, v4 with
        | [x0, x1, x2, x3, x4], _, v0, v1, v2, v3, v4 =>
          simp only [List.getElem?_cons_zero, List.getElem?_cons_succ, Option.some.injEq] at v0 v1 v2 v3 v4
          rw [v0, v1, v2, v3, v4]
      subst hvs
      obtain ⟨g, c', e4⟩ := (ownsRow_shape I1.out).2 (by decide)
      injection e4 with e5 e6 e7
      subst e5 e7
      have d0 : wr.cell? ⟨g, 0, none⟩ = some (.int .i64 u0) := I1.out.cellAt 0 (by decide)
      have d1 : wr.cell? ⟨g, 1, none⟩ = some (.slice b0 n0 k0) := I1.out.cellAt 1 (by decide)
      have d2 : wr.cell? ⟨g, 2, none⟩ = some (.int .i64 u1) := I1.out.cellAt 2 (by decide)
      have d3 : wr.cell? ⟨g, 3, none⟩ = some (.slice b1 n1 k1) := I1.out.cellAt 3 (by decide)
      have d4 : wr.cell? ⟨g, 4, none⟩ = some (.int .i64 u2) := I1.out.cellAt 4 (by decide)
      have d5 : wr.cell? ⟨g, 5, none⟩ = some (.slice b2 n2 k2) := I1.out.cellAt 5 (by decide)
      have d6 : wr.cell? ⟨g, 6, none⟩ = some (.int .i64 u3) := I1.out.cellAt 6 (by decide)
      have d7 : wr.cell? ⟨g, 7, none⟩ = some (.slice b3 n3 k3) := I1.out.cellAt 7 (by decide)
      have d8 : wr.cell? ⟨g, 8, none⟩ = some (.int .i64 u4) := I1.out.cellAt 8 (by decide)
      have d9 : wr.cell? ⟨g, 9, none⟩ = some (.slice b4 n4 k4) := I1.out.cellAt 9 (by decide)
      have hbs := (I4.out.block _ (by have := CR.out.size; have := ZB.out; omega) id).trans ((CR.out.block _ (by have := ZB.out; omega) id).trans BZ.out)
      have e0 : wr.cell? ⟨w.heap.size, 0, none⟩ = some (.int .i64 0) := blk_cell hbs 0
      have f0 : wr.frozen? ⟨w.heap.size, 0, none⟩ = false := blk_free hbs 0
      have e1 : wr.cell? ⟨w.heap.size, 1, none⟩ = some (.slice none 0 0) := blk_cell hbs 1
      have f1 : wr.frozen? ⟨w.heap.size, 1, none⟩ = false := blk_free hbs 1
      have e2 : wr.cell? ⟨w.heap.size, 2, none⟩ = some (.int .i64 0) := blk_cell hbs 2
      have f2 : wr.frozen? ⟨w.heap.size, 2, none⟩ = false := blk_free hbs 2
      have e3 : wr.cell? ⟨w.heap.size, 3, none⟩ = some (.slice none 0 0) := blk_cell hbs 3
      have f3 : wr.frozen? ⟨w.heap.size, 3, none⟩ = false := blk_free hbs 3
      have e4 : wr.cell? ⟨w.heap.size, 4, none⟩ = some (.int .i64 0) := blk_cell hbs 4
      have f4 : wr.frozen? ⟨w.heap.size, 4, none⟩ = false := blk_free hbs 4
      have e5 : wr.cell? ⟨w.heap.size, 5, none⟩ = some (.slice none 0 0) := blk_cell hbs 5
      have f5 : wr.frozen? ⟨w.heap.size, 5, none⟩ = false := blk_free hbs 5
      have e6 : wr.cell? ⟨w.heap.size, 6, none⟩ = some (.int .i64 0) := blk_cell hbs 6
      have f6 : wr.frozen? ⟨w.heap.size, 6, none⟩ = false := blk_free hbs 6
      have e7 : wr.cell? ⟨w.heap.size, 7, none⟩ = some (.slice none 0 0) := blk_cell hbs 7
      have f7 : wr.frozen? ⟨w.heap.size, 7, none⟩ = false := blk_free hbs 7
      have e8 : wr.cell? ⟨w.heap.size, 8, none⟩ = some (.int .i64 0) := blk_cell hbs 8
      have f8 : wr.frozen? ⟨w.heap.size, 8, none⟩ = false := blk_free hbs 8
      have e9 : wr.cell? ⟨w.heap.size, 9, none⟩ = some (.slice none 0 0) := blk_cell hbs 9
      have f9 : wr.frozen? ⟨w.heap.size, 9, none⟩ = false := blk_free hbs 9
      have BS := Lib.hid hbs
      clear hbs hk i1 i2 i3 i4 v0 v1 v2 v3 v4 p0 p1 p2 p3 p4
      go_upto_region 13 with fail
      go_still_tail 16, (by kernel_rfl)
      go_wp2_with fail
      have hfin := setAll_block (T := 43) (b := w.heap.size) [.int .i64 u0, .slice b0 n0 k0, .int .i64 u1, .slice b1 n1 k1, .int .i64 u2, .slice b2 n2 k2, .int .i64 u3, .slice b3 n3 k3, .int .i64 u4, .slice b4 n4 k4] wr [] [.int .i64 0, .slice none 0 0, .int .i64 0, .slice none 0 0, .int .i64 0, .slice none 0 0, .int .i64 0, .slice none 0 0, .int .i64 0, .slice none 0 0] BS.out rfl
      have cf : Chg wr (setAll wr w.heap.size 0 [.int .i64 u0, .slice b0 n0 k0, .int .i64 u1, .slice b1 n1 k1, .int .i64 u2, .slice b2 n2 k2, .int .i64 u3, .slice b3 n3 k3, .int .i64 u4, .slice b4 n4 k4]) (fun k => k = w.heap.size) := setAll_chg (S := fun k => k = w.heap.size) _ (.inr rfl) _ _ _ (Chg.refl _ _)
      have cw := setAll_chg w.heap.size (.inl (Nat.le_refl _)) [.int .i64 u0, .slice b0 n0 k0, .int .i64 u1, .slice b1 n1 k1, .int .i64 u2, .slice b2 n2 k2, .int .i64 u3, .slice b3 n3 k3, .int .i64 u4, .slice b4 n4 k4] wr 0 ((CB.out.trans CR.out (fun _ _ h => h)).trans I4.out (fun _ _ h => h))
      change bodyPost _ _ _ _ _ ((setAll wr w.heap.size 0 [.int .i64 u0, .slice b0 n0 k0, .int .i64 u1, .slice b1 n1 k1, .int .i64 u2, .slice b2 n2 k2, .int .i64 u3, .slice b3 n3 k3, .int .i64 u4, .slice b4 n4 k4]).drew)
      have hfin : (setAll wr w.heap.size 0 [.int .i64 u0, .slice b0 n0 k0, .int .i64 u1, .slice b1 n1 k1, .int .i64 u2, .slice b2 n2 k2, .int .i64 u3, .slice b3 n3 k3, .int .i64 u4, .slice b4 n4 k4]).heap[w.heap.size]? = some (.cells #[.int .i64 u0, .slice b0 n0 k0, .int .i64 u1, .slice b1 n1 k1, .int .i64 u2, .slice b2 n2 k2, .int .i64 u3, .slice b3 n3 k3, .int .i64 u4, .slice b4 n4 k4] 43 (0, 0)) := hfin
      generalize setAll wr w.heap.size 0 [.int .i64 u0, .slice b0 n0 k0, .int .i64 u1, .slice b1 n1 k1, .int .i64 u2, .slice b2 n2 k2, .int .i64 u3, .slice b3 n3 k3, .int .i64 u4, .slice b4 n4 k4] = wz at hfin cf cw ⊢
      refine bodyPost_ret (tbmk_results rfl rfl (W := wz.drew) hfin) rfl ?_
      exact ⟨_, _, _, _, _, _, _, _, _, _, _, _, _, _, _, _, _, _, _, _, rfl, cw.drew, TbMade.of I3.out cf.drew (by have := CR.out.size; have := ZB.out; omega) (by have := CR.out.size; have := ZB.out; omega)⟩
end Go.Proofs.YtgeapkalabijmaaGreat
