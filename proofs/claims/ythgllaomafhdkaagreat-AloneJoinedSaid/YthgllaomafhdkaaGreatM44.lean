/- live of layer 9. -/
import Derived.Test.YthgllaomafhdkaaGreatM43
import Derived.Test.YthgllaomafhdkaaGreatK9
import Derived.Test.YthgllaomafhdkaaGreatE9
namespace Go.Proofs.YthgllaomafhdkaaGreat
open Go Go.RowKit
set_option maxRecDepth 100000
set_option maxHeartbeats 1000000
set_option linter.unusedVariables false
set_option linter.unusedSimpArgs false

def addsL (x : Ins) : List Ins := [(1, 0, 0), (16, 0, 0), (1, 0, 4607182418800017408), (16, 0, 0), (10, 1, 0), (1, 0, 0), (17, 0, 0), x]
theorem adds_results {tmps : Array Value} {W : World} {r0 : Nat} {tag : Int} {a : Option Addr} {n c : Nat} {T : TypeId} {fr : Nat × Nat} (h : tmps.getD 2 undef = .pointer (some ⟨r0, 0, none⟩)) (hb : W.heap[r0]? = some (.cells #[.int .i64 tag, .slice a n c] T fr)) :
    (results Tryz.f82 tmps).run Tryz.prog W = .ok (.agg #[.int .i64 tag, .slice a n c]) W := by
  have h' : tmps[2]?.getD undef = .pointer (some ⟨r0, 0, none⟩) := by simpa using h
  have hl := run_loadVar_row (P := Tryz.prog) W r0 T 26 #[.int .i64 tag, .slice a n c] fr _ hb Tryz.underlying26 rfl (by kernel_rfl)
  have k0 : W.cell? ⟨r0, 0, none⟩ = some (.int .i64 tag) := blk_cell hb 0
  have k1 : W.cell? ⟨r0, 1, none⟩ = some (.slice a n c) := blk_cell hb 1
  simp [results, Tryz.results82, h', asAddr, hl, k0, k1, go_sem]
theorem adds_any (o n : Int) (x : Nat) (w : World) :
    Calls Tryz.prog 82 #[.agg #[.int .i64 o, .int .i64 n, fl x]] w fun e w' => e = .returned (.agg #[.int .i64 2, .slice (some ⟨w.heap.size + 1 + 1, 0, none⟩) 8 8]) ∧ Sees w' (some ⟨w.heap.size + 1 + 1, 0, none⟩) (insV (addsL (o, n, x))) ∧ Chg w w' Nothing := by
  go_enter Tryz.func82, Tryz.ntmps82
  go_wp2_with fail
  exact bodyPost_ret (adds_results rfl (blk_alloc step_blk _)) rfl ⟨rfl, sees_box three_blk rfl, (((Chg.refl _ _).alloc _).alloc _).alloc _⟩
def lw0 : List Nat := [4613937818241073152, 4616189618054758400]
def lwA : Mc := runP (mc0 2 1 20 2 2 (addsL (19, 5, 0)) []) lw0
def lwB : Mc := runP (mc0 2 1 20 2 2 (addsL (20, 0, 0)) []) lw0
def lwN : List Nat := [4619567317775286272, 4616189618054758400]
def lwR : List (Int × Nat) := [(0, 4613937818241073152), (1, 4616189618054758400)]
theorem lw_ha : lwA.how = (2, 5, 0) := by kernel_rfl
theorem lw_hb : lwB.how = (1, 0, 0) := by kernel_rfl
theorem lw_ub : lwB.used = 8 := by kernel_rfl
theorem lw_rb : lwB.reads = lwR := by kernel_rfl
theorem lw_fa : afterL lwA lw0 = lw0 := by kernel_rfl
theorem lw_fb : afterL lwB lw0 = lwN := by kernel_rfl
theorem lw_fix : lw0.map fixB = lw0 := by kernel_rfl
/-- A state of the call's own, as it stands. -/
structure LW (w wi : World) (p : Nat) (F : Nat → Prop) (fs : List Nat) : Prop where
  st : Sta wi p F (fs.map fl)
  chg : Chg w wi Nothing
  new : ∀ k, F k → w.heap.size ≤ k
section
variable {w wi w' : World} {p : Nat} {F : Nat → Prop} {fs fs' : List Nat}
theorem LW.quiet (h : LW w wi p F fs) (hc : Chg wi w' Nothing) : LW w w' p F fs := ⟨h.st.chg hc (fun _ _ h => h), h.chg.trans hc (fun _ _ h => h), h.new⟩
theorem LW.next (h : LW w wi p F fs) (hs : Sta w' p F (fs'.map fl)) (hc : Chg wi w' F) : LW w w' p F fs' := ⟨hs, h.chg.trans hc (fun k hk hF => by have := h.new k hF; omega), h.new⟩
end
theorem lw_oa : lwA.out.length = 0 := by kernel_rfl
theorem lw_ra : lwA.reads = lwR := by kernel_rfl
theorem lw_la : lwA.buf.length = 1 := by kernel_rfl
theorem lw_ua : lwA.used = 8 := by kernel_rfl
theorem lw_ob : lwB.out.length = 0 := by kernel_rfl
theorem lw_lb : lwB.buf.length = 1 := by kernel_rfl
theorem lwA_eq : lwA = runP (mc0 2 1 20 2 2 (addsL (19, 5, 0)) []) lw0 := by unfold lwA; rfl
theorem lwB_eq : lwB = runP (mc0 2 1 20 2 2 (addsL (20, 0, 0)) []) lw0 := by unfold lwB; rfl
theorem lrun_eq {s : Mc} {h1 h2 h3 : Int} {ao ar aw : Option Addr} {co cr cw : Nat} (h : s.how = (h1, h2, h3)) (o : s.out.length = 0) (r : s.reads = lwR) (b : s.buf.length = 1) (u : s.used = 8) :
    Ending.returned (.tuple #[.agg (resA s.how (ao, s.out.length, co) (ar, s.reads.length, cr) (aw, s.buf.length, cw) (s.used : Int)), .int .i64 0]) = .returned (.tuple #[.agg #[.int .i64 h1, .int .i64 h2, .int .i64 h3, .slice ao 0 co, .slice ar 2 cr, .slice aw 1 cw, .int .i64 8], .int .i64 0]) := by
  rw [h, o, r, b, u]
  rfl
theorem lrunA (p : Nat) (F : Nat → Prop) (ac : Option Addr) (w : World) (h : Sta w p F (lw0.map fl)) (hs : Sees w ac (insV (addsL (19, 5, 0)))) :
    Calls Tryz.prog 40 #[.agg #[.int .i64 2, .int .i64 1, .int .i64 20, .int .i64 2], .agg #[.int .i64 2, .slice ac 8 8], .slice none 0 0, .pointer (some ⟨p, 0, none⟩)] w fun e w' => ∃ ao co ar cr aw cw,
      e = .returned (.tuple #[.agg #[.int .i64 2, .int .i64 5, .int .i64 0, .slice ao 0 co, .slice ar 2 cr, .slice aw 1 cw, .int .i64 8], .int .i64 0]) ∧ Sees w' ar (tchV lwR) ∧ Sta w' p F (lw0.map fl) ∧ Chg w w' F ∧ ∀ b o, ar = some ⟨b, o, none⟩ → w.heap.size ≤ b := by
  refine (run_good 2 1 20 2 2 ac 8 (addsL (19, 5, 0)) none 0 [] p F lw0 w h (by decide) (by decide) hs (.inl rfl) (by decide) (by intro y hy; cases hy) (by decide)).mono ?_
  rintro e w' ⟨s, ao, co, ar, cr, aw, cw, hs, ho, hf, hb, he, h1, h2, h3, hst, hcb⟩
  have es := hs.trans lwA_eq.symm
  clear hs
  rw [es, lw_fa] at hst
  rw [es] at he h2
  clear es
  refine ⟨ao, co, ar, cr, aw, cw, ?_, ?_, hst, hcb, fun b o e => row_low h2 e⟩
  · exact he.trans (lrun_eq lw_ha lw_oa lw_ra lw_la lw_ua)
  · have := Sees.of_owns h2
    rw [lw_ra] at this
    exact this
theorem lrunB (p : Nat) (F : Nat → Prop) (ac : Option Addr) (w : World) (h : Sta w p F (lw0.map fl)) (hs : Sees w ac (insV (addsL (20, 0, 0)))) :
    Calls Tryz.prog 40 #[.agg #[.int .i64 2, .int .i64 1, .int .i64 20, .int .i64 2], .agg #[.int .i64 2, .slice ac 8 8], .slice none 0 0, .pointer (some ⟨p, 0, none⟩)] w fun e w' => ∃ ao co ar cr aw cw,
      e = .returned (.tuple #[.agg #[.int .i64 1, .int .i64 0, .int .i64 0, .slice ao 0 co, .slice ar 2 cr, .slice aw 1 cw, .int .i64 8], .int .i64 0]) ∧ Sees w' ar (tchV lwR) ∧ Sta w' p F (lwN.map fl) ∧ Chg w w' F ∧ ∀ b o, ar = some ⟨b, o, none⟩ → w.heap.size ≤ b := by
  refine (run_good 2 1 20 2 2 ac 8 (addsL (20, 0, 0)) none 0 [] p F lw0 w h (by decide) (by decide) hs (.inl rfl) (by decide) (by intro y hy; cases hy) (by decide)).mono ?_
  rintro e w' ⟨s, ao, co, ar, cr, aw, cw, hs, ho, hf, hb, he, h1, h2, h3, hst, hcb⟩
  have es := hs.trans lwB_eq.symm
  clear hs
  rw [es, lw_fb] at hst
  rw [es] at he h2
  clear es
  refine ⟨ao, co, ar, cr, aw, cw, ?_, ?_, hst, hcb, fun b o e => row_low h2 e⟩
  · exact he.trans (lrun_eq lw_hb lw_ob lw_rb lw_lb lw_ub)
  · have := Sees.of_owns h2
    rw [lw_rb] at this
    exact this
def resL (h1 h2 h3 : Int) (ao ar aw : Option Addr) (co cr cw : Nat) : Obj := .cells #[.int .i64 h1, .int .i64 h2, .int .i64 h3, .slice ao 0 co, .slice ar 2 cr, .slice aw 1 cw, .int .i64 8] 69 (0, 0)
theorem keep7 {W : World} {a : Addr} {b : Nat} {x v0 v1 v2 v3 v4 v5 v6 : Value} (h : W.cell? a = some x) (hne : ¬ a.block = b) :
    (((((((W.setCell ⟨b, 0, none⟩ v0).setCell ⟨b, 1, none⟩ v1).setCell ⟨b, 2, none⟩ v2).setCell ⟨b, 3, none⟩ v3).setCell ⟨b, 4, none⟩ v4).setCell ⟨b, 5, none⟩ v5).setCell ⟨b, 6, none⟩ v6).cell? a = some x := by
  refine (World.cell?_of_block (w := W) ?_).trans h
  iterate 7 (refine (Below.heap_setCell _ _ _ _ hne).trans ?_)
  rfl
theorem LW.store7 {w wi : World} {p rb : Nat} {F : Nat → Prop} {fs : List Nat} {v0 v1 v2 v3 v4 v5 v6 : Value} (h : LW w wi p F fs) (hn : w.heap.size ≤ rb) (hF : ¬ F rb) :
    LW w (((((((wi.setCell ⟨rb, 0, none⟩ v0).setCell ⟨rb, 1, none⟩ v1).setCell ⟨rb, 2, none⟩ v2).setCell ⟨rb, 3, none⟩ v3).setCell ⟨rb, 4, none⟩ v4).setCell ⟨rb, 5, none⟩ v5).setCell ⟨rb, 6, none⟩ v6) p F fs :=
  ⟨h.st.chg (S := fun k => k = rb) (seven_chg (Chg.refl _ _) (.inr rfl)) (fun k hk e => hF (e ▸ hk)), seven_chg h.chg (.inl hn), h.new⟩
theorem LW.box {w wi : World} {p : Nat} {F : Nat → Prop} {fs : List Nat} (h : LW w wi p F fs) (o : Obj) : LW w (wi.alloc o) p F fs := h.quiet ((Chg.refl _ _).alloc o)
theorem blkD1 {w : World} {a : Obj} {m : Nat} {cs : Array Value} {T : TypeId} : (((w.alloc a).drewN m).alloc (.cells cs T)).heap[w.heap.size + 1]? = some (.cells cs T (0, 0)) := by
  have h := heap_alloc_new ((w.alloc a).drewN m) (.cells cs T)
  rw [show ((w.alloc a).drewN m).heap.size = w.heap.size + 1 from by show (w.alloc a).heap.size = _; simp] at h
  exact h
theorem blkD2 {w : World} {a b : Obj} {m m' : Nat} {cs : Array Value} {T : TypeId} : (((((w.alloc a).drewN m).alloc b).drewN m').alloc (.cells cs T)).heap[w.heap.size + 1 + 1]? = some (.cells cs T (0, 0)) := by
  have h := heap_alloc_new ((((w.alloc a).drewN m).alloc b).drewN m') (.cells cs T)
  rw [show ((((w.alloc a).drewN m).alloc b).drewN m').heap.size = w.heap.size + 1 + 1 from by show (((w.alloc a).drewN m).alloc b).heap.size = _; rw [World.size_alloc]; show (w.alloc a).heap.size + 1 = _; simp] at h
  exact h
theorem sees_re {w : World} {b b' : Nat} {xs : List Value} (h : Sees w (some ⟨b, 0, none⟩) xs) (e : b = b') : Sees w (some ⟨b', 0, none⟩) xs := e ▸ h
/-- The config's cells, as they stand. -/
theorem lw_cells {w wi : World} {p : Nat} {F : Nat → Prop} {fs : List Nat} (h : LW (w.alloc (cfgBx 2 1 20 2)) wi p F fs) : wi.cell? ⟨w.heap.size, 0, none⟩ = some (.int .i64 2) ∧ wi.cell? ⟨w.heap.size, 1, none⟩ = some (.int .i64 1) ∧ wi.cell? ⟨w.heap.size, 2, none⟩ = some (.int .i64 20) ∧ wi.cell? ⟨w.heap.size, 3, none⟩ = some (.int .i64 2) ∧ w.heap.size < wi.heap.size ∧ ¬ F w.heap.size := by
  have hcb : wi.heap[w.heap.size]? = some (cfgBx 2 1 20 2) := (h.chg.block _ (by simp) id).trans (heap_alloc_new w _)
  exact ⟨blk_cell hcb 0, blk_cell hcb 1, blk_cell hcb 2, blk_cell hcb 3, blk_lt hcb, fun hF => by have := h.new _ hF; simp at this; omega⟩
theorem sees_keep7 {W : World} {a : Option Addr} {b : Nat} {xs : List Value} {v0 v1 v2 v3 v4 v5 v6 : Value} (h : Sees W a xs) (hne : ∀ o, a ≠ some ⟨b, o, none⟩) :
    Sees (((((((W.setCell ⟨b, 0, none⟩ v0).setCell ⟨b, 1, none⟩ v1).setCell ⟨b, 2, none⟩ v2).setCell ⟨b, 3, none⟩ v3).setCell ⟨b, 4, none⟩ v4).setCell ⟨b, 5, none⟩ v5).setCell ⟨b, 6, none⟩ v6) a xs := by
  rcases h with h | ⟨b', o, rfl, h⟩
  · exact .inl h
  · exact .inr ⟨b', o, rfl, fun j u hu => keep7 (h j u hu) (fun e => hne o (by rw [show b' = b from e]))⟩
set_option maxRecDepth 100000 in
set_option maxHeartbeats 4000000 in
theorem live09_any (w : World) : Calls Tryz.prog 37 #[] w fun e w' => e = .returned (.bool true) ∧ Chg w w' Nothing := by
  go_enter Tryz.func37, Tryz.ntmps37
  go_wp2_with fail
  refine (T6.of_good (some ⟨w.heap.size + 1, 0, none⟩) 2 lw0 _ (sees_box step_blk rfl) (by decide) (by decide)).mono ?_
  rw [lw_fix]
  rintro e w1 ⟨p, rfl, hp, hst, hc⟩
  obtain ⟨F, L1⟩ : ∃ F, Hid (LW (w.alloc (cfgBx 2 1 20 2)) w1 p F lw0) := ⟨_, Lib.hid ⟨hst, ((Chg.refl _ Nothing).alloc _).trans hc (fun _ _ h => h), fun k hk => by rcases hk with hk | hk; exact hk.elim; have := hk.1; simp at this ⊢; omega⟩⟩
  clear hp hst hc
  obtain ⟨i0, i1, i2, i3, iz, hnf⟩ := lw_cells L1.out
  have NF := Lib.hid hnf
  have ine : ¬ w.heap.size = w1.heap.size := by omega
  clear hnf
  go_upto_region 5 with fail
  go_cut [4, 5] (fun v e wx => ∃ rb ao co ar cr aw cw, v = .pointer (some ⟨rb, 0, none⟩) ∧ e = .int .i64 0 ∧ wx.heap[rb]? = some (resL 2 5 0 ao ar aw co cr cw) ∧ ¬ F rb ∧ w1.heap.size ≤ rb ∧ LW (w.alloc (cfgBx 2 1 20 2)) wx p F lw0 ∧ Chg w1 wx F)
  case first =>
    go_region_held3 (fun w' => w'.cell? ⟨w.heap.size, 0, none⟩ = some (.int .i64 2) ∧ w'.cell? ⟨w.heap.size, 1, none⟩ = some (.int .i64 1) ∧ w'.cell? ⟨w.heap.size, 2, none⟩ = some (.int .i64 20) ∧ w'.cell? ⟨w.heap.size, 3, none⟩ = some (.int .i64 2))
      (first | (with_reducible refine ⟨keep7 y0 ?_, keep7 y1 ?_, keep7 y2 ?_, keep7 y3 ?_⟩ <;> first | exact ine | exact kne | exact yne) | go_keep)
      (first
        | (go_at_call 82; refine (adds_any 19 5 0 _).mono ?_; rintro e wa ⟨rfl, hsa, hca⟩; have ca : Chg w1 wa Nothing := (by first | exact ⟨hca.os, hca.tape, hca.output, hca.size, hca.block⟩ | exact Chg.trans (w1 := World.alloc w1 _) ((Chg.refl w1 Nothing).alloc _) ⟨hca.os, hca.tape, hca.output, hca.size, hca.block⟩ (fun _ _ h => h)); have k0 := ca.cell i0 id; have k1 := ca.cell i1 id; have k2 := ca.cell i2 id; have k3 := ca.cell i3 id; have kz : w.heap.size < wa.heap.size := cell_lt k0; have kne : ¬ w.heap.size = wa.heap.size := (by omega); have la := L1.out.quiet ca; have nfa : ¬ F wa.heap.size := (fun h => by have := L1.out.st.lt _ h; have := ca.size; omega); (first | (have ha0 := (hca.block w1.heap.size (by simp) id).trans (heap_alloc_new w1 _); have nf1 : ¬ F w1.heap.size := (fun h => by have := L1.out.st.lt _ h; omega)) | skip))
        | (go_at_call 40; refine (lrunA p F _ _ (by first | exact la.st | exact la.st.drewN _ | exact (la.quiet ((Chg.refl _ Nothing).alloc _)).st) (by first | exact hsa | exact sees_re hsa (by show (World.alloc w1 _).heap.size + 1 + 1 = _; rw [World.size_alloc]) | exact hsa.chg ((Chg.refl _ Nothing).alloc _))).mono ?_; rintro e wb ⟨ao, co, ar, cr, aw, cw, rfl, h2, hst, hcb, hlo⟩; have cb : Chg wa wb F := (by first | exact ⟨hcb.os, hcb.tape, hcb.output, hcb.size, hcb.block⟩ | exact Chg.trans (w1 := World.alloc wa _) ((Chg.refl wa F).alloc _) ⟨hcb.os, hcb.tape, hcb.output, hcb.size, hcb.block⟩ (fun _ _ h => h)); have y0 := cb.cell k0 NF.out; have y1 := cb.cell k1 NF.out; have y2 := cb.cell k2 NF.out; have y3 := cb.cell k3 NF.out; have yz : w.heap.size < wb.heap.size := cell_lt y0; have yne : ¬ w.heap.size = wb.heap.size := (by omega); have lb := la.next hst cb; have cc : Chg w1 wb F := (ca.mono (fun _ _ h => h.elim)).trans cb (fun _ _ h => h); (first | (have hz := (hcb.block _ (by have := blk_lt ha0; simp; omega) nf1).trans ha0; have hzF := nf1; have hzl := Nat.le_refl w1.heap.size) | (have hz := (hcb.block _ (by have := blk_lt ha0; omega) nf1).trans ha0; have hzF := nf1; have hzl := Nat.le_refl w1.heap.size) | (have hz := (hcb.block wa.heap.size (by simp) nfa).trans (heap_alloc_new wa _); have hzF := nfa; have hzl := ca.size) | skip); (first | (have z0 : wb.cell? ⟨_, 0, none⟩ = some (.int .i64 0) := blk_cell hz 0; have z1 : wb.cell? ⟨_, 1, none⟩ = some (.int .i64 0) := blk_cell hz 1; have z2 : wb.cell? ⟨_, 2, none⟩ = some (.int .i64 0) := blk_cell hz 2; have z3 : wb.cell? ⟨_, 3, none⟩ = some (.slice none 0 0) := blk_cell hz 3; have z4 : wb.cell? ⟨_, 4, none⟩ = some (.slice none 0 0) := blk_cell hz 4; have z5 : wb.cell? ⟨_, 5, none⟩ = some (.slice none 0 0) := blk_cell hz 5; have z6 : wb.cell? ⟨_, 6, none⟩ = some (.int .i64 0) := blk_cell hz 6; have v0 := blk_free hz 0; have v1 := blk_free hz 1; have v2 := blk_free hz 2; have v3 := blk_free hz 3; have v4 := blk_free hz 4; have v5 := blk_free hz 5; have v6 := blk_free hz 6; have vz := blk_lt hz) | skip)))
    all_goals
      go_wp2_with fail
      go_meet
      first
        | (have hz' := hz; exact ⟨_, ao, co, ar, cr, aw, cw, rfl, rfl, seven_set (v0 := .int .i64 2) (v1 := .int .i64 5) (v2 := .int .i64 0) (v3 := .slice ao 0 co) (v4 := .slice ar 2 cr) (v5 := .slice aw 1 cw) (v6 := .int .i64 8) hz rfl, hzF, hzl, lb.store7 (v0 := .int .i64 2) (v1 := .int .i64 5) (v2 := .int .i64 0) (v3 := .slice ao 0 co) (v4 := .slice ar 2 cr) (v5 := .slice aw 1 cw) (v6 := .int .i64 8) (by simp; omega) hzF, seven_chg (v0 := .int .i64 2) (v1 := .int .i64 5) (v2 := .int .i64 0) (v3 := .slice ao 0 co) (v4 := .slice ar 2 cr) (v5 := .slice aw 1 cw) (v6 := .int .i64 8) cc (.inl hzl)⟩)
        | exact ⟨_, ao, co, ar, cr, aw, cw, rfl, rfl, heap_alloc_new wb _, (fun h => by have := lb.st.lt _ h; omega), cc.size, lb.box _, cc.alloc _⟩
  case rest =>
    obtain ⟨rb, ao, co, ar, cr, aw, cw, rfl, rfl, hrb, hnf, hrl, hL, hcc⟩ := hcut
    have L2 := Lib.hid hL
    have B2 := Lib.hid (And.intro hrb hnf)
    clear hrb hnf hrl hL hcc i0 i1 i2 i3 iz ine L1
    go_wp2_with fail
    refine (T6.all_any p F lw0 _ L2.out.st (by decide)).mono ?_
    rintro e w2 ⟨a2, c2, rfl, ho, hc⟩
    have L3 := Lib.hid (L2.out.quiet hc)
    have O3 := Lib.hid ho
    have LT := Lib.hid L2.out.st.lt
    have B3 := Lib.hid (And.intro ((hc.block _ (blk_lt B2.out.1) id).trans B2.out.1) B2.out.2)
    clear ho hc L2 B2
    obtain ⟨i0, i1, i2, i3, iz, -⟩ := lw_cells L3.out
    have ine : ¬ w.heap.size = w2.heap.size := by omega
    go_upto_region 7 with fail
    go_cut [7, 8] (fun v e wx => ∃ rb ao co ar cr aw cw, v = .pointer (some ⟨rb, 0, none⟩) ∧ e = .int .i64 0 ∧ wx.heap[rb]? = some (resL 1 0 0 ao ar aw co cr cw) ∧ ¬ F rb ∧ w2.heap.size ≤ rb ∧ LW (w.alloc (cfgBx 2 1 20 2)) wx p F lwN ∧ Chg w2 wx F ∧ Sees wx ar (tchV lwR))
    case first =>
      go_region_held3 (fun w' => w'.cell? ⟨w.heap.size, 0, none⟩ = some (.int .i64 2) ∧ w'.cell? ⟨w.heap.size, 1, none⟩ = some (.int .i64 1) ∧ w'.cell? ⟨w.heap.size, 2, none⟩ = some (.int .i64 20) ∧ w'.cell? ⟨w.heap.size, 3, none⟩ = some (.int .i64 2))
        (first | (with_reducible refine ⟨keep7 y0 ?_, keep7 y1 ?_, keep7 y2 ?_, keep7 y3 ?_⟩ <;> first | exact ine | exact kne | exact yne) | go_keep)
        (first
          | (go_at_call 82; refine (adds_any 20 0 0 _).mono ?_; rintro e wa ⟨rfl, hsa, hca⟩; have ca : Chg w2 wa Nothing := (by first | exact ⟨hca.os, hca.tape, hca.output, hca.size, hca.block⟩ | exact Chg.trans (w1 := World.alloc w2 _) ((Chg.refl w2 Nothing).alloc _) ⟨hca.os, hca.tape, hca.output, hca.size, hca.block⟩ (fun _ _ h => h)); have k0 := ca.cell i0 id; have k1 := ca.cell i1 id; have k2 := ca.cell i2 id; have k3 := ca.cell i3 id; have kz : w.heap.size < wa.heap.size := cell_lt k0; have kne : ¬ w.heap.size = wa.heap.size := (by omega); have la := L3.out.quiet ca; have nfa : ¬ F wa.heap.size := (fun h => by have := L3.out.st.lt _ h; have := ca.size; omega); (first | (have ha0 := (hca.block w2.heap.size (by simp) id).trans (heap_alloc_new w2 _); have nf1 : ¬ F w2.heap.size := (fun h => by have := L3.out.st.lt _ h; omega)) | skip))
          | (go_at_call 40; refine (lrunB p F _ _ (by first | exact la.st | exact la.st.drewN _ | exact (la.quiet ((Chg.refl _ Nothing).alloc _)).st) (by first | exact hsa | exact sees_re hsa (by show (World.alloc w2 _).heap.size + 1 + 1 = _; rw [World.size_alloc]) | exact hsa.chg ((Chg.refl _ Nothing).alloc _))).mono ?_; rintro e wb ⟨ao, co, ar, cr, aw, cw, rfl, h2, hst, hcb, hlo⟩; have cb : Chg wa wb F := (by first | exact ⟨hcb.os, hcb.tape, hcb.output, hcb.size, hcb.block⟩ | exact Chg.trans (w1 := World.alloc wa _) ((Chg.refl wa F).alloc _) ⟨hcb.os, hcb.tape, hcb.output, hcb.size, hcb.block⟩ (fun _ _ h => h)); have y0 := cb.cell k0 NF.out; have y1 := cb.cell k1 NF.out; have y2 := cb.cell k2 NF.out; have y3 := cb.cell k3 NF.out; have yz : w.heap.size < wb.heap.size := cell_lt y0; have yne : ¬ w.heap.size = wb.heap.size := (by omega); have lb := la.next hst cb; have cc : Chg w2 wb F := (ca.mono (fun _ _ h => h.elim)).trans cb (fun _ _ h => h); (first | (have hz := (hcb.block _ (by have := blk_lt ha0; simp; omega) nf1).trans ha0; have hzF := nf1; have hzl := Nat.le_refl w2.heap.size) | (have hz := (hcb.block _ (by have := blk_lt ha0; omega) nf1).trans ha0; have hzF := nf1; have hzl := Nat.le_refl w2.heap.size) | (have hz := (hcb.block wa.heap.size (by simp) nfa).trans (heap_alloc_new wa _); have hzF := nfa; have hzl := ca.size) | skip); (first | (have z0 : wb.cell? ⟨_, 0, none⟩ = some (.int .i64 0) := blk_cell hz 0; have z1 : wb.cell? ⟨_, 1, none⟩ = some (.int .i64 0) := blk_cell hz 1; have z2 : wb.cell? ⟨_, 2, none⟩ = some (.int .i64 0) := blk_cell hz 2; have z3 : wb.cell? ⟨_, 3, none⟩ = some (.slice none 0 0) := blk_cell hz 3; have z4 : wb.cell? ⟨_, 4, none⟩ = some (.slice none 0 0) := blk_cell hz 4; have z5 : wb.cell? ⟨_, 5, none⟩ = some (.slice none 0 0) := blk_cell hz 5; have z6 : wb.cell? ⟨_, 6, none⟩ = some (.int .i64 0) := blk_cell hz 6; have v0 := blk_free hz 0; have v1 := blk_free hz 1; have v2 := blk_free hz 2; have v3 := blk_free hz 3; have v4 := blk_free hz 4; have v5 := blk_free hz 5; have v6 := blk_free hz 6; have vz := blk_lt hz) | skip)))
      all_goals
        go_wp2_with fail
        go_meet
        first
          | (have hz' := hz; exact ⟨_, ao, co, ar, cr, aw, cw, rfl, rfl, seven_set (v0 := .int .i64 1) (v1 := .int .i64 0) (v2 := .int .i64 0) (v3 := .slice ao 0 co) (v4 := .slice ar 2 cr) (v5 := .slice aw 1 cw) (v6 := .int .i64 8) hz rfl, hzF, hzl, lb.store7 (v0 := .int .i64 1) (v1 := .int .i64 0) (v2 := .int .i64 0) (v3 := .slice ao 0 co) (v4 := .slice ar 2 cr) (v5 := .slice aw 1 cw) (v6 := .int .i64 8) (by simp; omega) hzF, seven_chg (v0 := .int .i64 1) (v1 := .int .i64 0) (v2 := .int .i64 0) (v3 := .slice ao 0 co) (v4 := .slice ar 2 cr) (v5 := .slice aw 1 cw) (v6 := .int .i64 8) cc (.inl hzl), sees_keep7 h2 (fun o e => by have := hlo _ _ e; (first | (have := blk_lt ha0; omega) | (simp at this; omega)))⟩)
          | exact ⟨_, ao, co, ar, cr, aw, cw, rfl, rfl, heap_alloc_new wb _, (fun h => by have := lb.st.lt _ h; omega), cc.size, lb.box _, cc.alloc _, h2.chg ((Chg.refl _ Nothing).alloc _)⟩
    case rest =>
      obtain ⟨rb2, ao2, co2, ar2, cr2, aw2, cw2, rfl, rfl, hrb, hnf, hrl, hL, hcc, hsr⟩ := hcut
      have L4 := Lib.hid hL
      have B4 := Lib.hid hrb
      have B5 := Lib.hid ((hcc.block _ (blk_lt B3.out.1) B3.out.2).trans B3.out.1)
      have S4 := Lib.hid (Sees.of_owns (row_chg O3.out hcc (fun k hk hF => by have := LT.out k hF; omega)))
      have T4 := Lib.hid hsr
      clear hrb hnf hrl hL hcc hsr i0 i1 i2 i3 iz ine B3 O3 LT L3
      go_wp2_with fail
      refine (T6.all_any p F lwN _ L4.out.st (by decide)).mono ?_
      rintro e w4 ⟨a4, c4, rfl, ho, hc⟩
      have L5 := Lib.hid (L4.out.quiet hc)
      have N5 := Lib.hid (Sees.of_owns ho)
      have S5 := Lib.hid (S4.out.chg hc)
      have T5 := Lib.hid (T4.out.chg hc)
      have b4 := (hc.block _ (blk_lt B4.out) id).trans B4.out
      have b5 := (hc.block _ (blk_lt B5.out) id).trans B5.out
      have x0 : w4.cell? ⟨rb, 0, none⟩ = some (.int .i64 2) := blk_cell b5 0
      have x1 : w4.cell? ⟨rb, 1, none⟩ = some (.int .i64 5) := blk_cell b5 1
      have x2 : w4.cell? ⟨rb, 2, none⟩ = some (.int .i64 0) := blk_cell b5 2
      have y0 : w4.cell? ⟨rb2, 0, none⟩ = some (.int .i64 1) := blk_cell b4 0
      have y1 : w4.cell? ⟨rb2, 1, none⟩ = some (.int .i64 0) := blk_cell b4 1
      have y2 : w4.cell? ⟨rb2, 2, none⟩ = some (.int .i64 0) := blk_cell b4 2
      have y4 : w4.cell? ⟨rb2, 4, none⟩ = some (.slice ar2 2 cr2) := blk_cell b4 4
      have y6 : w4.cell? ⟨rb2, 6, none⟩ = some (.int .i64 8) := blk_cell b4 6
      have z4 := blk_lt b4
      have z5 := blk_lt b5
      have HL0 : lw0.length = 2 := rfl
      have HLN : lwN.length = 2 := rfl
      rw [HL0, HLN]
      clear ho hc b4 b5 L4 S4 T4 B4 B5
      go_wp2_with fail
      refine (exact09_true a2 _ c2 _ lw0 _ (S5.out.chg ((Chg.refl _ Nothing).alloc _)) (sees_box (heap_alloc_new _ _) rfl) (by decide)).mono ?_
      rintro e w5 ⟨rfl, m5, rfl⟩
      go_wp2_with fail
      refine (exact09_true a4 _ c4 _ lwN _ (N5.out.chg ((((Chg.refl _ Nothing).alloc _).drewN _).alloc _)) (sees_box blkD1 rfl) (by decide)).mono ?_
      rintro e w6 ⟨rfl, m6, rfl⟩
      go_wp2_with fail
      refine (touches09_true ar2 _ cr2 _ lwR _ (T5.out.chg ((((((Chg.refl _ Nothing).alloc _).drewN _).alloc _).drewN _).alloc _)) (sees_box blkD2 rfl) (by decide)).mono ?_
      rintro e w7 ⟨rfl, m7, rfl⟩
      go_wp2_with fail
      go_ret
      exact ⟨rfl, (((((((((Chg.refl w Nothing).alloc _).trans L5.out.chg (fun _ _ h => h)).alloc _).drewN _).alloc _).drewN _).alloc _).drewN _)⟩
end Go.Proofs.YthgllaomafhdkaaGreat
