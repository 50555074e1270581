/- alone.Run: the run. -/
import Derived.Test.YtgeapkalabijmaaGreatM41
namespace Go.Proofs.YtgeapkalabijmaaGreat
open Go Go.RowKit
set_option maxRecDepth 100000
set_option maxHeartbeats 1000000
set_option linter.unusedVariables false
set_option linter.unusedSimpArgs false

/-- A slice, its address, length, capacity. -/
abbrev Slc := Option Addr × Nat × Nat
def slv (v : Slc) : Value := .slice v.1 v.2.1 v.2.2
/-- What a run answers: how it ended, three rows, the fuel. -/
def resA (h : Int × Int × Int) (vo vr vw : Slc) (u : Int) : Array Value := #[.int .i64 h.1, .int .i64 h.2.1, .int .i64 h.2.2, .slice vo.1 vo.2.1 vo.2.2, .slice vr.1 vr.2.1 vr.2.2, .slice vw.1 vw.2.1 vw.2.2, .int .i64 u]
theorem run_results {tmps : Array Value} {W : World} {r0 : Nat} {h1 h2 h3 u ee : Int} {ao ar aw : Option Addr} {no co nr cr nw cw : Nat} {T : TypeId} {fr : Nat × Nat} (h : tmps.getD 8 undef = .pointer (some ⟨r0, 0, none⟩)) (h3' : tmps.getD 9 undef = .int .i64 ee) (hb : W.heap[r0]? = some (.cells #[.int .i64 h1, .int .i64 h2, .int .i64 h3, .slice ao no co, .slice ar nr cr, .slice aw nw cw, .int .i64 u] T fr)) :
    (results Tryz.f28 tmps).run Tryz.prog W = .ok (.tuple #[.agg #[.int .i64 h1, .int .i64 h2, .int .i64 h3, .slice ao no co, .slice ar nr cr, .slice aw nw cw, .int .i64 u], .int .i64 ee]) W := by
  have h' : tmps[8]?.getD undef = .pointer (some ⟨r0, 0, none⟩) := by simpa using h
  have h3'' : tmps[9]?.getD undef = .int .i64 ee := by simpa using h3'
  have hl := run_loadVar_row (P := Tryz.prog) W r0 T 58 #[.int .i64 h1, .int .i64 h2, .int .i64 h3, .slice ao no co, .slice ar nr cr, .slice aw nw cw, .int .i64 u] fr _ hb Tryz.underlying58 rfl (by kernel_rfl)
  have k0 : W.cell? ⟨r0, 0, none⟩ = some (.int .i64 h1) := blk_cell hb 0
  have k1 : W.cell? ⟨r0, 1, none⟩ = some (.int .i64 h2) := blk_cell hb 1
  have k2 : W.cell? ⟨r0, 2, none⟩ = some (.int .i64 h3) := blk_cell hb 2
  have k3 : W.cell? ⟨r0, 3, none⟩ = some (.slice ao no co) := blk_cell hb 3
  have k4 : W.cell? ⟨r0, 4, none⟩ = some (.slice ar nr cr) := blk_cell hb 4
  have k5 : W.cell? ⟨r0, 5, none⟩ = some (.slice aw nw cw) := blk_cell hb 5
  have k6 : W.cell? ⟨r0, 6, none⟩ = some (.int .i64 u) := blk_cell hb 6
  simp [results, Tryz.results28, h', h3'', asAddr, hl, k0, k1, k2, k3, k4, k5, k6, go_sem]
theorem three_blk {w : World} {a b : Obj} {cs : Array Value} {T : TypeId} : (((w.alloc a).alloc b).alloc (.cells cs T)).heap[w.heap.size + 1 + 1]? = some (.cells cs T (0, 0)) := by
  rw [show w.heap.size + 1 + 1 = (w.alloc a).heap.size + 1 by simp]
  exact step_blk
def zeroR : Array Value := #[.int .i64 0, .int .i64 0, .int .i64 0, .slice none 0 0, .slice none 0 0, .slice none 0 0, .int .i64 0]
theorem arr_seven {cs : Array Value} {n : Nat} (h : cs.size = n) (hn : n = 7) : ∃ a0 a1 a2 a3 a4 a5 a6, cs = #[a0, a1, a2, a3, a4, a5, a6] := by
  subst hn
  obtain ⟨l⟩ := cs
  match l, h with
  | [a0, a1, a2, a3, a4, a5, a6], _ => exact ⟨a0, a1, a2, a3, a4, a5, a6, rfl⟩
/-- Seven stores. -/
theorem seven_set {w : World} {b : Nat} {cs : Array Value} {T : TypeId} {v0 v1 v2 v3 v4 v5 v6 : Value} (h : w.heap[b]? = some (.cells cs T (0, 0))) (hs : cs.size = 7) :
    (((((((w.setCell ⟨b, 0, none⟩ v0).setCell ⟨b, 1, none⟩ v1).setCell ⟨b, 2, none⟩ v2).setCell ⟨b, 3, none⟩ v3).setCell ⟨b, 4, none⟩ v4).setCell ⟨b, 5, none⟩ v5).setCell ⟨b, 6, none⟩ v6).heap[b]? = some (.cells #[v0, v1, v2, v3, v4, v5, v6] T (0, 0)) := by
  obtain ⟨a0, a1, a2, a3, a4, a5, a6, rfl⟩ := arr_seven hs rfl
  have := blk_set (blk_set (blk_set (blk_set (blk_set (blk_set (blk_set h 0 v0) 1 v1) 2 v2) 3 v3) 4 v4) 5 v5) 6 v6
  simpa only [List.setIfInBounds_toArray, List.set_cons_zero, List.set_cons_succ] using this
theorem seven_chg {w w1 : World} {S : Nat → Prop} {b : Nat} {v0 v1 v2 v3 v4 v5 v6 : Value} (h : Chg w w1 S) (hb : w.heap.size ≤ b ∨ S b) :
    Chg w (((((((w1.setCell ⟨b, 0, none⟩ v0).setCell ⟨b, 1, none⟩ v1).setCell ⟨b, 2, none⟩ v2).setCell ⟨b, 3, none⟩ v3).setCell ⟨b, 4, none⟩ v4).setCell ⟨b, 5, none⟩ v5).setCell ⟨b, 6, none⟩ v6) S :=
  ((((((h.setCell hb _).setCell hb _).setCell hb _).setCell hb _).setCell hb _).setCell hb _).setCell hb _
theorem run_bad (c t f r tag : Int) (ac : Option Addr) (ln cc : Nat) (aa : Option Addr) (n na : Nat) (p : Nat) (F : Nat → Prop) (fs : List Nat) (w : World) (h : Sta w p F (fs.map fl)) (hno : ¬ RunOk c t f r n fs.length) :
    Calls Tryz.prog 28 #[.agg #[.int .i64 c, .int .i64 t, .int .i64 f, .int .i64 r], .agg #[.int .i64 tag, .slice ac ln cc], .slice aa n na, .pointer (some ⟨p, 0, none⟩)] w fun e w' => e = .returned (.tuple #[.agg (resA (0, 0, 0) (none, 0, 0) (none, 0, 0) (none, 0, 0) 0), .int .i64 1]) ∧ Chg w w' Nothing := by
  by_cases hc : CfgOk c t f r ∧ (fs.length : Int) = c
  · have hn : ¬ n ≤ 8 := fun hn => hno ⟨hc.1, hc.2, hn⟩
    have b1 : decide ((8 : Int) < (n : Int)) = true := decide_eq_true (by omega)
    have HC := Lib.hid hc
    have H := Lib.hid h
    clear h hno hc hn
    go_enter Tryz.func28, Tryz.ntmps28
    go_wp2_with fail
    with_reducible refine (may_good c t f r p F fs _ (H.out.chg ((((Chg.refl w Nothing).alloc _).alloc _).alloc _) (fun _ _ h => h)) HC.out.1 HC.out.2).mono ?_
    rintro e w1 ⟨rfl, hc1⟩
    have e2 : w1.heap[w.heap.size + 1 + 1]? = some (.cells zeroR 58 (0, 0)) := (hc1.block _ (by simp) id).trans three_blk
    have E2 := Lib.hid e2
    have x0 : w1.cell? ⟨w.heap.size + 1 + 1, 0, none⟩ = some (.int .i64 0) := blk_cell e2 0
    have x1 : w1.cell? ⟨w.heap.size + 1 + 1, 1, none⟩ = some (.int .i64 0) := blk_cell e2 1
    have x2 : w1.cell? ⟨w.heap.size + 1 + 1, 2, none⟩ = some (.int .i64 0) := blk_cell e2 2
    have x3 : w1.cell? ⟨w.heap.size + 1 + 1, 3, none⟩ = some (.slice none 0 0) := blk_cell e2 3
    have x4 : w1.cell? ⟨w.heap.size + 1 + 1, 4, none⟩ = some (.slice none 0 0) := blk_cell e2 4
    have x5 : w1.cell? ⟨w.heap.size + 1 + 1, 5, none⟩ = some (.slice none 0 0) := blk_cell e2 5
    have x6 : w1.cell? ⟨w.heap.size + 1 + 1, 6, none⟩ = some (.int .i64 0) := blk_cell e2 6
    have f0 := blk_free e2 0
    have f1 := blk_free e2 1
    have f2 := blk_free e2 2
    have f3 := blk_free e2 3
    have f4 := blk_free e2 4
    have f5 := blk_free e2 5
    have f6 := blk_free e2 6
    have z2 := blk_lt e2
    have C1 := Lib.hid (show Chg w w1 Nothing from ((((Chg.refl w Nothing).alloc _).alloc _).alloc _).trans hc1 (fun _ _ h => h))
    clear e2 hc1
    go_wp2_with fail
    exact bodyPost_ret (run_results rfl rfl (seven_set E2.out rfl)) rfl ⟨rfl, seven_chg C1.out (.inl (by omega))⟩
  · have HC := Lib.hid hc
    have H := Lib.hid h
    clear h hno hc
    go_enter Tryz.func28, Tryz.ntmps28
    go_wp2_with fail
    with_reducible refine (may_bad c t f r p F fs _ (H.out.chg ((((Chg.refl w Nothing).alloc _).alloc _).alloc _) (fun _ _ h => h)) HC.out).mono ?_
    rintro e w1 ⟨rfl, hc1⟩
    have e2 : w1.heap[w.heap.size + 1 + 1]? = some (.cells zeroR 58 (0, 0)) := (hc1.block _ (by simp) id).trans three_blk
    have E2 := Lib.hid e2
    have x0 : w1.cell? ⟨w.heap.size + 1 + 1, 0, none⟩ = some (.int .i64 0) := blk_cell e2 0
    have x1 : w1.cell? ⟨w.heap.size + 1 + 1, 1, none⟩ = some (.int .i64 0) := blk_cell e2 1
    have x2 : w1.cell? ⟨w.heap.size + 1 + 1, 2, none⟩ = some (.int .i64 0) := blk_cell e2 2
    have x3 : w1.cell? ⟨w.heap.size + 1 + 1, 3, none⟩ = some (.slice none 0 0) := blk_cell e2 3
    have x4 : w1.cell? ⟨w.heap.size + 1 + 1, 4, none⟩ = some (.slice none 0 0) := blk_cell e2 4
    have x5 : w1.cell? ⟨w.heap.size + 1 + 1, 5, none⟩ = some (.slice none 0 0) := blk_cell e2 5
    have x6 : w1.cell? ⟨w.heap.size + 1 + 1, 6, none⟩ = some (.int .i64 0) := blk_cell e2 6
    have f0 := blk_free e2 0
    have f1 := blk_free e2 1
    have f2 := blk_free e2 2
    have f3 := blk_free e2 3
    have f4 := blk_free e2 4
    have f5 := blk_free e2 5
    have f6 := blk_free e2 6
    have z2 := blk_lt e2
    have C1 := Lib.hid (show Chg w w1 Nothing from ((((Chg.refl w Nothing).alloc _).alloc _).alloc _).trans hc1 (fun _ _ h => h))
    clear e2 hc1
    go_wp2_with fail
    exact bodyPost_ret (run_results rfl rfl (seven_set E2.out rfl)) rfl ⟨rfl, seven_chg C1.out (.inl (by omega))⟩
end Go.Proofs.YtgeapkalabijmaaGreat
