/- AloneTag: the walk. -/
import Derived.Test.YthgllaomafhdkaaGreatM4A
namespace Go.Proofs.YthgllaomafhdkaaGreat
open Go Go.RowKit
set_option maxRecDepth 100000
set_option maxHeartbeats 1000000
set_option linter.unusedVariables false
set_option linter.unusedSimpArgs false

theorem sees_take {w : World} {a : Option Addr} {xs ys : List Value} (h : Sees w a (xs ++ ys)) : Sees w a xs := by
  rcases h with h | ⟨b, o, rfl, h⟩
  · exact .inl (List.append_eq_nil_iff.1 h).1
  · exact .inr ⟨b, o, rfl, fun j u hu => h j u (by rw [List.getElem?_append_left (List.getElem?_eq_some_iff.1 hu).1]; exact hu)⟩
theorem tchV_app (a b : List (Int × Nat)) : tchV (a ++ b) = tchV a ++ tchV b := by unfold tchV; rw [List.flatMap_append]
set_option maxRecDepth 100000 in
set_option maxHeartbeats 8000000 in
theorem tag_walk (c t f r : Int) (tag : Int) (ac : Option Addr) (cc : Nat) (code : List Ins) (aa : Option Addr) (na : Nat) (args : List Nat) (af : Option Addr) (nf : Nat) (start : List Nat) (w : World)
    (hb : code.length * 24 ≤ 140737488355328) (hs : Sees w ac (insV code)) (ha : Sees w aa (args.map fl)) (hf : Sees w af (start.map fl)) (hfl : start.length ≤ 9223372036854775807)
    (hx : ∀ i ∈ code, i.2.2 < 18446744073709551616) (hax : ∀ y ∈ args, y < 18446744073709551616) (hfx : ∀ y ∈ start, y < 18446744073709551616) :
    Calls Tryz.prog 10 #[.agg #[.int .i64 c, .int .i64 t, .int .i64 f, .int .i64 r], .agg #[.int .i64 tag, .slice ac code.length cc], .slice aa args.length na, .slice af start.length nf] w fun e w' => e = .returned (.bool true) ∧ Chg w w' Nothing := by
  have HB := Lib.hid hb
  have HS := Lib.hid hs
  have HA := Lib.hid ha
  have HF := Lib.hid hf
  have HFL := Lib.hid hfl
  have HX := Lib.hid hx
  have HAX := Lib.hid hax
  have HFX := Lib.hid hfx
  clear hb hs ha hf hfl hx hax hfx
  go_enter Tryz.func10, Tryz.ntmps10
  go_wp2_with fail
  with_reducible refine (live09_any _).mono ?_
  rintro e w1 ⟨rfl, hc1⟩
  have C1 : Hid (Chg ((w.alloc (cfgBx c t f r)).alloc (prgBx tag ac code.length cc)) w1 Nothing) := Lib.hid hc1
  clear hc1
  go_wp2_with fail
  by_cases hl : 1 ≤ start.length ∧ start.length ≤ 256
  case neg =>
    have HL := Lib.hid (show start.length < 1 ∨ 256 < start.length by omega)
    clear hl
    with_reducible refine (given09_bad af start.length nf _ HL.out HFL.out).mono ?_
    rintro e w2 ⟨rfl, rfl⟩
    go_wp2_with fail
    go_ret
    exact ⟨rfl, law_old C1.out⟩
  have H1 := Lib.hid hl.1
  have H2 := Lib.hid hl.2
  clear hl
  with_reducible refine (given09_good af nf start _ (HF.out.chg (law_old C1.out)) H1.out H2.out).mono ?_
  rintro e w2 ⟨p, F, rfl, hL⟩
  have R2 := Lib.hid (hL.under C1.out)
  clear hL C1
  have NL := Lib.hid (show (start.map fixB).length = start.length from List.length_map ..)
  have NX := Lib.hid (show ∀ y ∈ start.map fixB, y < 18446744073709551616 from fun y hy => by obtain ⟨z, hz, rfl⟩ := List.mem_map.1 hy; exact fixB_lt (HFX.out z hz))
  generalize start.map fixB = fs at R2 NL NX
  have N2 := Lib.hid (show fs.length ≤ 256 by rw [NL.out]; exact H2.out)
  obtain ⟨i0, i1, i2, i3, j0, j1, z0, z1⟩ := law_cells R2.out.chg
  go_wp2_with fail
  with_reducible refine (T6.all_any p F fs _ R2.out.st N2.out).mono ?_
  rintro e w3 ⟨a3, c3, rfl, ho, hc⟩
  obtain ⟨rl, bx, hF2⟩ := R2.out.law
  have R3 := Lib.hid (rl.quiet hc)
  have B3 := Lib.hid (bx.quiet hc)
  have O3 := Lib.hid ho
  have LT := Lib.hid R2.out.st.lt
  have F2 := Lib.hid hF2
  have Z23 := Lib.hid hc.size
  have Z2 := Lib.hid (blk_lt bx.p)
  clear ho hc rl bx hF2 i0 i1 i2 i3 j0 j1 z0 z1 R2
  obtain ⟨i0, i1, i2, i3, j0, j1, z0, z1⟩ := B3.out.cells
  have g0 := blk_free B3.out.p 0
  go_upto_region 7 with fail
  have R4 := Lib.hid (R3.out.store (b := w.heap.size + 1) (o := 0) (by omega) (fun h => by have := F2.out _ h; omega) (.int .i64 2))
  have B4 := Lib.hid (B3.out.tagged 2)
  have O4 := Lib.hid (row_chg O3.out ((Chg.refl w3 (fun k => k = w.heap.size + 1)).setCell (a := ⟨w.heap.size + 1, 0, none⟩) (.inr rfl) (.int .i64 2)) (fun k hk e => by have := Z2.out; omega))
  have Z4 := Lib.hid (show w3.heap.size = (w3.setCell ⟨w.heap.size + 1, 0, none⟩ (.int .i64 2)).heap.size by simp)
  clear i0 i1 i2 i3 j0 j1 z0 z1 g0 R3 B3 O3
  generalize w3.setCell ⟨w.heap.size + 1, 0, none⟩ (.int .i64 2) = w4 at *
  obtain ⟨i0, i1, i2, i3, j0, j1, z0, z1⟩ := B4.out.cells
  have ine : ¬ w.heap.size = w4.heap.size := by omega
  have ine1 : ¬ w.heap.size + 1 = w4.heap.size := by omega
  by_cases hok : RunOk c t f r args.length fs.length
  case neg =>
    have NOK := Lib.hid hok
    clear hok
    go_cut [13, 14] (fun v e wx => ∃ rb, v = .pointer (some ⟨rb, 0, none⟩) ∧ e = .int .i64 1 ∧ wx.heap[rb]? = some (resO (0, 0, 0) (none, 0, 0) (none, 0, 0) (none, 0, 0) 0) ∧ w4.heap.size ≤ rb ∧ Chg w4 wx Nothing)
    case first =>
      go_region_held3 (fun w' => w'.cell? ⟨w.heap.size, 0, none⟩ = some (.int .i64 c) ∧ w'.cell? ⟨w.heap.size, 1, none⟩ = some (.int .i64 t) ∧ w'.cell? ⟨w.heap.size, 2, none⟩ = some (.int .i64 f) ∧ w'.cell? ⟨w.heap.size, 3, none⟩ = some (.int .i64 r) ∧ w'.cell? ⟨w.heap.size + 1, 0, none⟩ = some (.int .i64 2) ∧ w'.cell? ⟨w.heap.size + 1, 1, none⟩ = some (.slice ac code.length cc))
        (first | (with_reducible refine ⟨keep7 y0 ?_, keep7 y1 ?_, keep7 y2 ?_, keep7 y3 ?_, keep7 y4 ?_, keep7 y5 ?_⟩ <;> first | exact ine | exact kne | exact yne | exact ine1 | exact kne1 | exact yne1) | go_keep)
        (first
          | (go_at_call 47; refine (T6.clone_any p F fs _ (by first | exact R4.out.st | exact (R4.out.box _).st) N2.out).mono ?_; rintro e wa ⟨q, rfl, hq, hst, hca⟩; have ca : Chg w4 wa Nothing := (by first | exact ⟨hca.os, hca.tape, hca.output, hca.size, hca.block⟩ | exact Chg.trans (w1 := World.alloc w4 _) ((Chg.refl w4 Nothing).alloc _) ⟨hca.os, hca.tape, hca.output, hca.size, hca.block⟩ (fun _ _ h => h)); have k0 := ca.cell i0 id; have k1 := ca.cell i1 id; have k2 := ca.cell i2 id; have k3 := ca.cell i3 id; have k4 := ca.cell j0 id; have k5 := ca.cell j1 id; have kz : w.heap.size + 1 < wa.heap.size := cell_lt k4; have kne : ¬ w.heap.size = wa.heap.size := (by omega); have kne1 : ¬ w.heap.size + 1 = wa.heap.size := (by omega); (first | (have hG1 : ∃ G, LW2 w wa p F fs q G fs ∧ ∀ k, G k → w4.heap.size ≤ k := ⟨_, R4.out.two hst ⟨hca.os, hca.tape, hca.output, hca.size, hca.block⟩, fun k hk => hk.elim (fun h => h.elim) (fun h => h.1)⟩; obtain ⟨G, la, hGb⟩ := hG1) | (have hG1 : ∃ G, LW2 w wa p F fs q G fs ∧ ∀ k, G k → w4.heap.size + 1 ≤ k := ⟨_, (R4.out.box (.cells #[.int .i64 0, .int .i64 0, .int .i64 0, .slice none 0 0, .slice none 0 0, .slice none 0 0, .int .i64 0] 69)).two hst ⟨hca.os, hca.tape, hca.output, hca.size, hca.block⟩, fun k hk => hk.elim (fun h => h.elim) (fun h => by have h1 : (World.alloc w4 (.cells #[.int .i64 0, .int .i64 0, .int .i64 0, .slice none 0 0, .slice none 0 0, .slice none 0 0, .int .i64 0] 69)).heap.size ≤ k := h.1; rw [World.size_alloc] at h1; exact h1)⟩; obtain ⟨G, la, hGb⟩ := hG1; have ha0 := (hca.block w4.heap.size (by simp) id).trans (heap_alloc_new w4 _); have nf1 : ¬ G w4.heap.size := (fun h => by have := hGb _ h; omega))); have nfa : ¬ G wa.heap.size := (fun h => by have := la.b.st.lt _ h; omega); have nG : ¬ G w.heap.size ∧ ¬ G (w.heap.size + 1) := ⟨fun h => by have := hGb _ h; omega, fun h => by have := hGb _ h; omega⟩)
          | (go_at_call 40; refine (run_bad c t f r 2 ac code.length cc aa args.length na q G fs _ (by first | exact la.b.st | exact (la.box _).b.st) NOK.out).mono ?_; rintro e wb ⟨rfl, hcb0⟩; rw [resA_lit]; have hcb := hcb0.mono (S' := G) (fun _ _ h => h.elim); have cb : Chg wa wb G := (by first | exact ⟨hcb.os, hcb.tape, hcb.output, hcb.size, hcb.block⟩ | exact Chg.trans (w1 := World.alloc wa _) ((Chg.refl wa G).alloc _) ⟨hcb.os, hcb.tape, hcb.output, hcb.size, hcb.block⟩ (fun _ _ h => h)); have y0 := cb.cell k0 nG.1; have y1 := cb.cell k1 nG.1; have y2 := cb.cell k2 nG.1; have y3 := cb.cell k3 nG.1; have y4 := cb.cell k4 nG.2; have y5 := cb.cell k5 nG.2; have yz : w.heap.size + 1 < wb.heap.size := cell_lt y4; have yne : ¬ w.heap.size = wb.heap.size := (by omega); have yne1 : ¬ w.heap.size + 1 = wb.heap.size := (by omega); have cc4 : Chg w4 wb Nothing := ca.trans cb (fun k hk hG => by have := hGb k hG; omega); (first | (have hz := (hcb.block _ (by have := blk_lt ha0; simp; omega) nf1).trans ha0; have hzl := Nat.le_refl w4.heap.size) | (have hz := (hcb.block _ (by have := blk_lt ha0; omega) nf1).trans ha0; have hzl := Nat.le_refl w4.heap.size) | (have hz := (hcb.block wa.heap.size (by simp) nfa).trans (heap_alloc_new wa _); have hzl := ca.size) | skip); (first | (have z0 : wb.cell? ⟨_, 0, none⟩ = some (.int .i64 0) := blk_cell hz 0; have z1 : wb.cell? ⟨_, 1, none⟩ = some (.int .i64 0) := blk_cell hz 1; have z2 : wb.cell? ⟨_, 2, none⟩ = some (.int .i64 0) := blk_cell hz 2; have z3 : wb.cell? ⟨_, 3, none⟩ = some (.slice none 0 0) := blk_cell hz 3; have z4 : wb.cell? ⟨_, 4, none⟩ = some (.slice none 0 0) := blk_cell hz 4; have z5 : wb.cell? ⟨_, 5, none⟩ = some (.slice none 0 0) := blk_cell hz 5; have z6 : wb.cell? ⟨_, 6, none⟩ = some (.int .i64 0) := blk_cell hz 6; have v0 := blk_free hz 0; have v1 := blk_free hz 1; have v2 := blk_free hz 2; have v3 := blk_free hz 3; have v4 := blk_free hz 4; have v5 := blk_free hz 5; have v6 := blk_free hz 6; have vz := blk_lt hz) | skip)))
      all_goals
        go_wp2_with fail
        go_meet
        first
          | (have hz' := hz; exact ⟨_, rfl, rfl, seven_set (v0 := .int .i64 0) (v1 := .int .i64 0) (v2 := .int .i64 0) (v3 := .slice none 0 0) (v4 := .slice none 0 0) (v5 := .slice none 0 0) (v6 := .int .i64 0) hz rfl, hzl, seven_chg (v0 := .int .i64 0) (v1 := .int .i64 0) (v2 := .int .i64 0) (v3 := .slice none 0 0) (v4 := .slice none 0 0) (v5 := .slice none 0 0) (v6 := .int .i64 0) cc4 (.inl hzl)⟩)
          | exact ⟨_, rfl, rfl, heap_alloc_new wb _, cc4.size, cc4.alloc _⟩
    case rest =>
      obtain ⟨rb, rfl, rfl, hT, hrl, hcx⟩ := hcut
      have R5 := Lib.hid (R4.out.quiet hcx)
      have B5 := Lib.hid (B4.out.quiet hcx)
      have O5 := Lib.hid (row_chg O4.out hcx (fun _ _ h => h))
      have T5 := Lib.hid hT
      have Z5 := Lib.hid (And.intro hcx.size hrl)
      clear hT hrl hcx i0 i1 i2 i3 j0 j1 z0 z1 ine ine1 R4 B4 O4
      obtain ⟨i0, i1, i2, i3, j0, j1, z0, z1⟩ := B5.out.cells
      have g0 := blk_free B5.out.p 0
      have ST := Lib.hid (fun W => (Chg.refl W (fun k => k = w.heap.size + 1)).setCell (a := ⟨w.heap.size + 1, 0, none⟩) (.inr rfl) (.int .i64 1))
      have R6 := Lib.hid (R5.out.store (b := w.heap.size + 1) (o := 0) (by omega) (fun h => by have := F2.out _ h; omega) (.int .i64 1))
      have O6 := Lib.hid (row_chg O5.out (ST.out _) (fun k hk e => by have := Z2.out; omega))
      have T6 := Lib.hid (((ST.out _).block _ (blk_lt T5.out) (by have := Z2.out; have := Z23.out; have := Z4.out; have := Z5.out; omega)).trans T5.out)
      clear R5 B5 O5 T5 ST
      go_wp2_with fail
      refine (run_bad c t f r 1 ac code.length cc aa args.length na p F fs _ R6.out.st NOK.out).mono ?_
      rintro e w7 ⟨rfl, hc2⟩
      rw [resA_lit]
      have R7 := Lib.hid (R6.out.quiet hc2)
      have O7 := Lib.hid (Sees.of_owns (row_chg O6.out hc2 (fun _ _ h => h)))
      have T7 := Lib.hid ((hc2.block _ (blk_lt T6.out) id).trans T6.out)
      clear hc2 i0 i1 i2 i3 j0 j1 z0 z1 g0 R6 O6 T6
      go_wp2_with fail
      with_reducible refine (T6.all_any p F fs _ (R7.out.box _).st N2.out).mono ?_
      rintro e w8 ⟨a8, c8, rfl, ho, hc⟩
      have hc8 : Chg w7 w8 Nothing := ((Chg.refl w7 Nothing).alloc (resO (0, 0, 0) (none, 0, 0) (none, 0, 0) (none, 0, 0) 0)).trans hc (fun _ _ h => h)
      have hb8 := (hc.block _ (by simp) id).trans (heap_alloc_new w7 (resO (0, 0, 0) (none, 0, 0) (none, 0, 0) (none, 0, 0) 0))
      have R8 := Lib.hid (R7.out.quiet hc8)
      have O8 := Lib.hid (O7.out.chg hc8)
      have T8 := Lib.hid ((hc8.block _ (blk_lt T7.out) id).trans T7.out)
      have S8 := Lib.hid (Sees.of_owns ho)
      have B8 := Lib.hid hb8
      clear ho hc hc8 hb8 R7 O7 T7
      go_wp2_with fail
      with_reducible refine (exact09_true a3 a8 c3 c8 fs _ O8.out S8.out (by have := N2.out; omega)).mono ?_
      rintro e w9 ⟨rfl, m9, rfl⟩
      have R9 := Lib.hid (R8.out.quiet ((Chg.refl _ Nothing).drewN m9))
      have T9 := Lib.hid (show (w8.drewN m9).heap[rb]? = some (resO (0, 0, 0) (none, 0, 0) (none, 0, 0) (none, 0, 0) 0) from T8.out)
      have B9 := Lib.hid (show (w8.drewN m9).heap[w7.heap.size]? = some (resO (0, 0, 0) (none, 0, 0) (none, 0, 0) (none, 0, 0) 0) from B8.out)
      clear R8 O8 T8 S8 B8
      generalize w8.drewN m9 = w9 at *
      have x0 : w9.cell? ⟨rb, 0, none⟩ = some (.int .i64 0) := blk_cell T9.out 0
      have x1 : w9.cell? ⟨rb, 1, none⟩ = some (.int .i64 0) := blk_cell T9.out 1
      have x2 : w9.cell? ⟨rb, 2, none⟩ = some (.int .i64 0) := blk_cell T9.out 2
      have x3 : w9.cell? ⟨rb, 3, none⟩ = some (.slice none 0 0) := blk_cell T9.out 3
      have x4 : w9.cell? ⟨rb, 4, none⟩ = some (.slice none 0 0) := blk_cell T9.out 4
      have x5 : w9.cell? ⟨rb, 5, none⟩ = some (.slice none 0 0) := blk_cell T9.out 5
      have x6 : w9.cell? ⟨rb, 6, none⟩ = some (.int .i64 0) := blk_cell T9.out 6
      have xz := blk_lt T9.out
      have y0 : w9.cell? ⟨w7.heap.size, 0, none⟩ = some (.int .i64 0) := blk_cell B9.out 0
      have y1 : w9.cell? ⟨w7.heap.size, 1, none⟩ = some (.int .i64 0) := blk_cell B9.out 1
      have y2 : w9.cell? ⟨w7.heap.size, 2, none⟩ = some (.int .i64 0) := blk_cell B9.out 2
      have y3 : w9.cell? ⟨w7.heap.size, 3, none⟩ = some (.slice none 0 0) := blk_cell B9.out 3
      have y4 : w9.cell? ⟨w7.heap.size, 4, none⟩ = some (.slice none 0 0) := blk_cell B9.out 4
      have y5 : w9.cell? ⟨w7.heap.size, 5, none⟩ = some (.slice none 0 0) := blk_cell B9.out 5
      have y6 : w9.cell? ⟨w7.heap.size, 6, none⟩ = some (.int .i64 0) := blk_cell B9.out 6
      have yz := blk_lt B9.out
      go_wp2_with fail
      refine (result09_true (0, 0, 0) 0 [] [] [] none none none none none none 0 0 0 0 0 0 _ (.inl rfl) (.inl rfl) (.inl rfl) (.inl rfl) (.inl rfl) (.inl rfl) (by decide) (by decide) (by decide)).mono ?_
      rintro e w10 ⟨rfl, hc10⟩
      have x5' := hc10.cell x5 id
      have C10 := Lib.hid (R9.out.chg.trans hc10 (fun _ _ h => h))
      clear hc10 x0 x1 x2 x3 x4 x5 x6 xz y0 y1 y2 y3 y4 y5 y6 yz
      go_wp2_with fail
      go_ret
      exact ⟨rfl, C10.out⟩
  have OK := Lib.hid hok
  clear hok
  go_cut [13, 14] (fun v e wx => ∃ rb s h1 h2 h3 ao ar aw co cr cw, v = .pointer (some ⟨rb, 0, none⟩) ∧ e = .int .i64 0 ∧ Told wx w4.heap.size rb s h1 h2 h3 ao ar aw co cr cw ∧ s = runP (mc0 c t f r 2 code args) fs ∧ Over s (mc0 c t f r 2 code args) ∧ s.Fine ∧ s.buf.length ≤ 32 ∧ Chg w4 wx Nothing)
  case first =>
    go_region_held3 (fun w' => w'.cell? ⟨w.heap.size, 0, none⟩ = some (.int .i64 c) ∧ w'.cell? ⟨w.heap.size, 1, none⟩ = some (.int .i64 t) ∧ w'.cell? ⟨w.heap.size, 2, none⟩ = some (.int .i64 f) ∧ w'.cell? ⟨w.heap.size, 3, none⟩ = some (.int .i64 r) ∧ w'.cell? ⟨w.heap.size + 1, 0, none⟩ = some (.int .i64 2) ∧ w'.cell? ⟨w.heap.size + 1, 1, none⟩ = some (.slice ac code.length cc))
      (first | (with_reducible refine ⟨keep7 y0 ?_, keep7 y1 ?_, keep7 y2 ?_, keep7 y3 ?_, keep7 y4 ?_, keep7 y5 ?_⟩ <;> first | exact ine | exact kne | exact yne | exact ine1 | exact kne1 | exact yne1) | go_keep)
      (first
        | (go_at_call 47; refine (T6.clone_any p F fs _ (by first | exact R4.out.st | exact (R4.out.box _).st) N2.out).mono ?_; rintro e wa ⟨q, rfl, hq, hst, hca⟩; have ca : Chg w4 wa Nothing := (by first | exact ⟨hca.os, hca.tape, hca.output, hca.size, hca.block⟩ | exact Chg.trans (w1 := World.alloc w4 _) ((Chg.refl w4 Nothing).alloc _) ⟨hca.os, hca.tape, hca.output, hca.size, hca.block⟩ (fun _ _ h => h)); have k0 := ca.cell i0 id; have k1 := ca.cell i1 id; have k2 := ca.cell i2 id; have k3 := ca.cell i3 id; have k4 := ca.cell j0 id; have k5 := ca.cell j1 id; have kz : w.heap.size + 1 < wa.heap.size := cell_lt k4; have kne : ¬ w.heap.size = wa.heap.size := (by omega); have kne1 : ¬ w.heap.size + 1 = wa.heap.size := (by omega); (first | (have hG1 : ∃ G, LW2 w wa p F fs q G fs ∧ ∀ k, G k → w4.heap.size ≤ k := ⟨_, R4.out.two hst ⟨hca.os, hca.tape, hca.output, hca.size, hca.block⟩, fun k hk => hk.elim (fun h => h.elim) (fun h => h.1)⟩; obtain ⟨G, la, hGb⟩ := hG1) | (have hG1 : ∃ G, LW2 w wa p F fs q G fs ∧ ∀ k, G k → w4.heap.size + 1 ≤ k := ⟨_, (R4.out.box (.cells #[.int .i64 0, .int .i64 0, .int .i64 0, .slice none 0 0, .slice none 0 0, .slice none 0 0, .int .i64 0] 69)).two hst ⟨hca.os, hca.tape, hca.output, hca.size, hca.block⟩, fun k hk => hk.elim (fun h => h.elim) (fun h => by have h1 : (World.alloc w4 (.cells #[.int .i64 0, .int .i64 0, .int .i64 0, .slice none 0 0, .slice none 0 0, .slice none 0 0, .int .i64 0] 69)).heap.size ≤ k := h.1; rw [World.size_alloc] at h1; exact h1)⟩; obtain ⟨G, la, hGb⟩ := hG1; have ha0 := (hca.block w4.heap.size (by simp) id).trans (heap_alloc_new w4 _); have nf1 : ¬ G w4.heap.size := (fun h => by have := hGb _ h; omega))); have nfa : ¬ G wa.heap.size := (fun h => by have := la.b.st.lt _ h; omega); have nG : ¬ G w.heap.size ∧ ¬ G (w.heap.size + 1) := ⟨fun h => by have := hGb _ h; omega, fun h => by have := hGb _ h; omega⟩)
        | (go_at_call 40; refine (run_good c t f r 2 ac cc code aa na args q G fs _ (by first | exact la.b.st | exact (la.box _).b.st) OK.out HB.out (by first | exact HS.out.chg la.a.chg | exact HS.out.chg (la.box _).a.chg) (by first | exact HA.out.chg la.a.chg | exact HA.out.chg (la.box _).a.chg) HX.out HAX.out NX.out).mono ?_; rintro e wb ⟨s, ao, co, ar, cr, aw, cw, hs, hov, hfin, hbl, rfl, ho, hr, hw, hst2, hcb⟩; obtain ⟨h1, h2, h3, hh⟩ : ∃ h1 h2 h3, s.how = (h1, h2, h3) := ⟨s.how.1, s.how.2.1, s.how.2.2, rfl⟩; rw [hh, resA_lit]; have QH := Lib.hid hh; have QS := Lib.hid hs; have QO := Lib.hid hov; have QF := Lib.hid hfin; have QB := Lib.hid hbl; clear hh hs hov hfin hbl; have cb : Chg wa wb G := (by first | exact ⟨hcb.os, hcb.tape, hcb.output, hcb.size, hcb.block⟩ | exact Chg.trans (w1 := World.alloc wa _) ((Chg.refl wa G).alloc _) ⟨hcb.os, hcb.tape, hcb.output, hcb.size, hcb.block⟩ (fun _ _ h => h)); have y0 := cb.cell k0 nG.1; have y1 := cb.cell k1 nG.1; have y2 := cb.cell k2 nG.1; have y3 := cb.cell k3 nG.1; have y4 := cb.cell k4 nG.2; have y5 := cb.cell k5 nG.2; have yz : w.heap.size + 1 < wb.heap.size := cell_lt y4; have yne : ¬ w.heap.size = wb.heap.size := (by omega); have yne1 : ¬ w.heap.size + 1 = wb.heap.size := (by omega); have cc4 : Chg w4 wb Nothing := ca.trans cb (fun k hk hG => by have := hGb k hG; omega); (first | (have hz := (hcb.block _ (by have := blk_lt ha0; simp; omega) nf1).trans ha0; have hzl := Nat.le_refl w4.heap.size) | (have hz := (hcb.block _ (by have := blk_lt ha0; omega) nf1).trans ha0; have hzl := Nat.le_refl w4.heap.size) | (have hz := (hcb.block wa.heap.size (by simp) nfa).trans (heap_alloc_new wa _); have hzl := ca.size) | skip); (first | (have z0 : wb.cell? ⟨_, 0, none⟩ = some (.int .i64 0) := blk_cell hz 0; have z1 : wb.cell? ⟨_, 1, none⟩ = some (.int .i64 0) := blk_cell hz 1; have z2 : wb.cell? ⟨_, 2, none⟩ = some (.int .i64 0) := blk_cell hz 2; have z3 : wb.cell? ⟨_, 3, none⟩ = some (.slice none 0 0) := blk_cell hz 3; have z4 : wb.cell? ⟨_, 4, none⟩ = some (.slice none 0 0) := blk_cell hz 4; have z5 : wb.cell? ⟨_, 5, none⟩ = some (.slice none 0 0) := blk_cell hz 5; have z6 : wb.cell? ⟨_, 6, none⟩ = some (.int .i64 0) := blk_cell hz 6; have v0 := blk_free hz 0; have v1 := blk_free hz 1; have v2 := blk_free hz 2; have v3 := blk_free hz 3; have v4 := blk_free hz 4; have v5 := blk_free hz 5; have v6 := blk_free hz 6; have vz := blk_lt hz) | skip)))
    all_goals
      go_wp2_with fail
      go_meet
      first
        | (have hz' := hz; exact ⟨_, s, h1, h2, h3, ao, ar, aw, co, cr, cw, rfl, rfl, Told.old hz rfl QH.out ho hr hw (by first | exact blk_lt ha0 | simp) hzl, QS.out, QO.out, QF.out, QB.out, seven_chg (v0 := .int .i64 h1) (v1 := .int .i64 h2) (v2 := .int .i64 h3) (v3 := .slice ao s.out.length co) (v4 := .slice ar s.reads.length cr) (v5 := .slice aw s.buf.length cw) (v6 := .int .i64 (s.used : Int)) cc4 (.inl hzl)⟩)
        | exact ⟨_, s, h1, h2, h3, ao, ar, aw, co, cr, cw, rfl, rfl, Told.new QH.out ho hr hw ca.size cc4.size, QS.out, QO.out, QF.out, QB.out, cc4.alloc _⟩
  case rest =>
    obtain ⟨rb, s, h1, h2, h3, ao, ar, aw, co, cr, cw, rfl, rfl, hT, hs, hov, hfin, hbl, hcx⟩ := hcut
    have QS := Lib.hid hs
    have QF := Lib.hid hfin
    have QB := Lib.hid hbl
    have R5 := Lib.hid (R4.out.quiet hcx)
    have B5 := Lib.hid (B4.out.quiet hcx)
    have O5 := Lib.hid (row_chg O4.out hcx (fun _ _ h => h))
    have T5 := Lib.hid hT
    have Z5 := Lib.hid hcx.size
    clear hT hs hov hfin hbl hcx i0 i1 i2 i3 j0 j1 z0 z1 ine ine1 R4 B4 O4
    obtain ⟨i0, i1, i2, i3, j0, j1, z0, z1⟩ := B5.out.cells
    have g0 := blk_free B5.out.p 0
    have ST := Lib.hid (fun W => (Chg.refl W (fun k => k = w.heap.size + 1)).setCell (a := ⟨w.heap.size + 1, 0, none⟩) (.inr rfl) (.int .i64 1))
    have R6 := Lib.hid (R5.out.store (b := w.heap.size + 1) (o := 0) (by omega) (fun h => by have := F2.out _ h; omega) (.int .i64 1))
    have O6 := Lib.hid (row_chg O5.out (ST.out _) (fun k hk e => by have := Z2.out; omega))
    have T6 := Lib.hid (T5.out.chg (ST.out _) (fun k hk e => by have := Z2.out; have := Z23.out; have := Z4.out; omega))
    clear R5 B5 O5 T5 ST
    go_wp2_with fail
    refine (run_good c t f r 1 ac cc code aa na args p F fs _ R6.out.st OK.out HB.out (HS.out.chg R6.out.chg) (HA.out.chg R6.out.chg) HX.out HAX.out NX.out).mono ?_
    rintro e w7 ⟨s2, ao2, co2, ar2, cr2, aw2, cw2, hs2, hov2, hfin2, hbl2, rfl, ho2, hr2, hw2, hst2, hc2⟩
    have hbf : s2.buf = [] := hov2.tag (by show (1 : Int) ≠ 2; decide)
    rw [after_same (.inr hbf)] at hst2
    obtain ⟨g1, g2, g3, hg⟩ : ∃ g1 g2 g3, s2.how = (g1, g2, g3) := ⟨s2.how.1, s2.how.2.1, s2.how.2.2, rfl⟩
    rw [hg, resA_lit]
    have PC := Lib.hid (show Pre s2 s ∧ (g3 ≠ 81 → s2 = s.rd) from by
      have h := tag_cases c t f r code args fs
      rw [← hs2, ← QS.out] at h
      exact ⟨h.1, fun h81 => h.2 (by rw [hg]; exact h81)⟩)
    have R7 := Lib.hid (R6.out.next hst2 hc2)
    have O7 := Lib.hid (Sees.of_owns (row_chg O6.out hc2 (fun k hk hF => by have := LT.out k hF; omega)))
    have T7 := Lib.hid (T6.out.chg hc2 (fun k hk hF => by have := LT.out k hF; have := Z23.out; have := Z4.out; omega))
    have P7 := Lib.hid (And.intro (Sees.of_owns ho2) (Sees.of_owns hr2))
    have HG := Lib.hid hg
    have HBF := Lib.hid hbf
    have QF2 := Lib.hid hfin2
    clear hs2 hov2 hfin2 hbl2 ho2 hr2 hw2 hst2 hc2 hbf hg i0 i1 i2 i3 j0 j1 z0 z1 R6 O6 T6 QS
    obtain ⟨x0, x1, x2, x3, x4, x5, x6, xz⟩ := T7.out.cells
    go_wp2_with fail
    with_reducible refine (T6.all_any p F fs _ (R7.out.box _).st N2.out).mono ?_
    rintro e w8 ⟨a8, c8, rfl, ho, hc⟩
    have hc8 : Chg w7 w8 Nothing := ((Chg.refl w7 Nothing).alloc (resO (g1, g2, g3) (ao2, s2.out.length, co2) (ar2, s2.reads.length, cr2) (aw2, s2.buf.length, cw2) (s2.used : Int))).trans hc (fun _ _ h => h)
    have hb8 := (hc.block _ (by simp) id).trans (heap_alloc_new w7 (resO (g1, g2, g3) (ao2, s2.out.length, co2) (ar2, s2.reads.length, cr2) (aw2, s2.buf.length, cw2) (s2.used : Int)))
    have R8 := Lib.hid (R7.out.quiet hc8)
    have O8 := Lib.hid (O7.out.chg hc8)
    have T8 := Lib.hid (T7.out.quiet hc8)
    have P8 := Lib.hid (And.intro (P7.out.1.chg hc8) (P7.out.2.chg hc8))
    have S8 := Lib.hid (Sees.of_owns ho)
    have B8 := Lib.hid hb8
    clear ho hc hc8 hb8 x0 x1 x2 x3 x4 x5 x6 xz R7 O7 T7 P7
    go_wp2_with fail
    with_reducible refine (exact09_true a3 a8 c3 c8 fs _ O8.out S8.out (by have := N2.out; omega)).mono ?_
    rintro e w9 ⟨rfl, m9, rfl⟩
    have R9 := Lib.hid (R8.out.quiet ((Chg.refl _ Nothing).drewN m9))
    have T9 := Lib.hid (T8.out.quiet ((Chg.refl _ Nothing).drewN m9))
    have P9 := Lib.hid (And.intro (P8.out.1.drewN m9) (P8.out.2.drewN m9))
    have B9 := Lib.hid (show (w8.drewN m9).heap[w7.heap.size]? = some (resO (g1, g2, g3) (ao2, s2.out.length, co2) (ar2, s2.reads.length, cr2) (aw2, s2.buf.length, cw2) (s2.used : Int)) from B8.out)
    clear R8 O8 T8 P8 S8 B8
    generalize w8.drewN m9 = w9 at *
    obtain ⟨x0, x1, x2, x3, x4, x5, x6, xz⟩ := T9.out.cells
    have y0 : w9.cell? ⟨w7.heap.size, 0, none⟩ = some (.int .i64 g1) := blk_cell B9.out 0
    have y1 : w9.cell? ⟨w7.heap.size, 1, none⟩ = some (.int .i64 g2) := blk_cell B9.out 1
    have y2 : w9.cell? ⟨w7.heap.size, 2, none⟩ = some (.int .i64 g3) := blk_cell B9.out 2
    have y3 : w9.cell? ⟨w7.heap.size, 3, none⟩ = some (.slice ao2 s2.out.length co2) := blk_cell B9.out 3
    have y4 : w9.cell? ⟨w7.heap.size, 4, none⟩ = some (.slice ar2 s2.reads.length cr2) := blk_cell B9.out 4
    have y5 : w9.cell? ⟨w7.heap.size, 5, none⟩ = some (.slice aw2 s2.buf.length cw2) := blk_cell B9.out 5
    have y6 : w9.cell? ⟨w7.heap.size, 6, none⟩ = some (.int .i64 (s2.used : Int)) := blk_cell B9.out 6
    have yz := blk_lt B9.out
    have hlo : s2.out.length ≤ 4096 := by have := QF2.out.ok.outs; have := QF2.out.ok.used; have := QF2.out.ok.fuel; omega
    have hlr : s2.reads.length ≤ 4096 := by have := QF2.out.ok.rds; have := QF2.out.ok.used; have := QF2.out.ok.fuel; omega
    have LO := Lib.hid hlo
    have LR := Lib.hid hlr
    clear hlo hlr
    by_cases h81 : g3 = 81
    · have b81 : (g3 == 81) = true := by rw [h81]; rfl
      clear h81
      obtain ⟨l1, l2⟩ := pre_reads PC.out.1
      obtain ⟨l3, l4⟩ := pre_out PC.out.1
      have l5 := PC.out.1.2.2
      have S1 := Lib.hid (show Sees w9 ar (tchV s2.reads) from by
        have h := Sees.of_owns T9.out.reads
        rw [← List.take_append_drop s2.reads.length s.reads, l2, tchV_app] at h
        exact sees_take h)
      have S2 := Lib.hid (show Sees w9 ao (s2.out.map fl) from by
        have h := Sees.of_owns T9.out.out
        rw [← List.take_append_drop s2.out.length s.out, l4, List.map_append] at h
        exact sees_take h)
      have k1 : s.reads.length ≤ cr := (own_cap T9.out.reads ar cr rfl).1
      have k2 : s.out.length ≤ co := (own_cap T9.out.out ao co rfl).1
      have d1 : decide (s2.reads.length ≤ s.reads.length) = true := decide_eq_true l1
      have d2 : decide (s2.out.length ≤ s.out.length) = true := decide_eq_true l3
      have d3 : decide (s2.used ≤ s.used) = true := decide_eq_true l5
      have e1 : (s2.reads.length : Int) ≤ (s.reads.length : Int) := by omega
      have e2 : (s2.out.length : Int) ≤ (s.out.length : Int) := by omega
      have e3 : s2.reads.length ≤ cr := by omega
      have e4 : s2.out.length ≤ co := by omega
      clear l2 l4 PC
      go_wp2_with fail
      go_quiet (first | (go_at_call 49; exact Calls.quiet_of (touches09_true ar2 ar cr2 _ s2.reads _ (P9.out.2.drewN _) (S1.out.drewN _) (by have := LR.out; omega))) | (go_at_call 43; exact Calls.quiet_of (exact09_true ao2 ao co2 _ s2.out _ (P9.out.1.drewN _) (S2.out.drewN _) (by have := LO.out; omega))))
      go_wp2_with fail
      go_ret
      exact ⟨rfl, R9.out.chg.drewN _⟩
    · have b81 : (g3 == 81) = false := beq_eq_false_iff_ne.2 h81
      have es : s2 = s.rd := PC.out.2 h81
      have f1 : s.out = s2.out := by rw [es]; rfl
      have f2 : s.reads = s2.reads := by rw [es]; rfl
      have f3 : s.buf = s2.buf := by rw [es]; rfl
      have f4 : s.used = s2.used := by rw [es]; rfl
      have f5 : (h1, h2, h3) = (g1, g2, g3) := by rw [← T9.out.how, ← HG.out, es]; rfl
      injection f5 with f5 f6
      injection f6 with f6 f7
      subst f5 f6 f7
      have hbl0 : (s.buf.length : Int) = 0 := by rw [f3, HBF.out]; rfl
      have SA := Lib.hid (show Sees w9 ao (s2.out.map fl) from by have := Sees.of_owns T9.out.out; rwa [f1] at this)
      have SB := Lib.hid (show Sees w9 ar (tchV s2.reads) from by have := Sees.of_owns T9.out.reads; rwa [f2] at this)
      have SC := Lib.hid (show Sees w9 aw (tchV s2.buf) from by have := Sees.of_owns T9.out.writes; rwa [f3] at this)
      have SD := Lib.hid (show Sees w9 aw2 (tchV s2.buf) from by rw [HBF.out]; exact .inl rfl)
      have qz : ((s2.buf.length : Int) == 0) = true := by rw [HBF.out]; rfl
      rw [f1] at x3
      rw [f2] at x4
      rw [f3] at x5
      rw [f4] at x6
      have QB2 := Lib.hid (show s2.buf.length ≤ 4096 by rw [HBF.out]; decide)
      clear es f1 f2 f3 f4 h81 hbl0 PC T9
      go_wp2_with fail
      refine (result09_true (h1, h2, h3) (s2.used : Int) s2.out s2.reads s2.buf ao ar aw ao2 ar2 aw2 co cr cw co2 cr2 cw2 _ SA.out SB.out SC.out P9.out.1 P9.out.2 SD.out LO.out LR.out QB2.out).mono ?_
      rintro e w10 ⟨rfl, hc10⟩
      have x5' := hc10.cell x5 id
      have C10 := Lib.hid (R9.out.chg.trans hc10 (fun _ _ h => h))
      clear hc10 x0 x1 x2 x3 x4 x5 x6 xz y0 y1 y2 y3 y4 y5 y6 yz
      go_wp2_with fail
      go_ret
      exact ⟨rfl, C10.out⟩
end Go.Proofs.YthgllaomafhdkaaGreat
