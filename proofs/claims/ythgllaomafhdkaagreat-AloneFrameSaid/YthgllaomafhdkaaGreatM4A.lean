/- AloneTag: the walk. -/
import Derived.Test.YthgllaomafhdkaaGreatM49
namespace Go.Proofs.YthgllaomafhdkaaGreat
open Go Go.RowKit
set_option maxRecDepth 100000
set_option maxHeartbeats 1000000
set_option linter.unusedVariables false
set_option linter.unusedSimpArgs false

theorem tag_cases (c t f r : Int) (code : List Ins) (args fs : List Nat) : Pre (runP (mc0 c t f r 1 code args) fs) (runP (mc0 c t f r 2 code args) fs) ∧ ((runP (mc0 c t f r 1 code args) fs).how.2.2 ≠ 81 → runP (mc0 c t f r 1 code args) fs = (runP (mc0 c t f r 2 code args) fs).rd) := by
  rcases runP_rd c t f r code args fs with e | e
  · exact ⟨by rw [e]; exact .of rfl rfl rfl, fun _ => e⟩
  · exact ⟨e.2, fun h => absurd (by rw [e.1]) h⟩
theorem pre_out {s m : Mc} (h : Pre s m) : s.out.length ≤ m.out.length ∧ m.out.take s.out.length = s.out := by
  obtain ⟨_, ⟨l, e⟩, _⟩ := h
  rw [e]
  exact ⟨by simp, by simp⟩
theorem pre_reads {s m : Mc} (h : Pre s m) : s.reads.length ≤ m.reads.length ∧ m.reads.take s.reads.length = s.reads := by
  obtain ⟨⟨l, e⟩, _, _⟩ := h
  rw [e]
  exact ⟨by simp, by simp⟩
/-- The two boxes that a law lays first, as they stand. -/
structure Bxs (w wi : World) (c t f r tag : Int) (ac : Option Addr) (n cc : Nat) : Prop where
  c : wi.heap[w.heap.size]? = some (cfgBx c t f r)
  p : wi.heap[w.heap.size + 1]? = some (prgBx tag ac n cc)
section
variable {w wi w' : World} {c t f r tag : Int} {ac : Option Addr} {n cc : Nat} {S : Nat → Prop}
theorem Bxs.chg (h : Bxs w wi c t f r tag ac n cc) (hc : Chg wi w' S) (h1 : ¬ S w.heap.size) (h2 : ¬ S (w.heap.size + 1)) : Bxs w w' c t f r tag ac n cc :=
  ⟨(hc.block _ (blk_lt h.c) h1).trans h.c, (hc.block _ (blk_lt h.p) h2).trans h.p⟩
theorem Bxs.quiet (h : Bxs w wi c t f r tag ac n cc) (hc : Chg wi w' Nothing) : Bxs w w' c t f r tag ac n cc := h.chg hc id id
theorem Bxs.cells (h : Bxs w wi c t f r tag ac n cc) : wi.cell? ⟨w.heap.size, 0, none⟩ = some (.int .i64 c) ∧ wi.cell? ⟨w.heap.size, 1, none⟩ = some (.int .i64 t) ∧ wi.cell? ⟨w.heap.size, 2, none⟩ = some (.int .i64 f) ∧ wi.cell? ⟨w.heap.size, 3, none⟩ = some (.int .i64 r) ∧
      wi.cell? ⟨w.heap.size + 1, 0, none⟩ = some (.int .i64 tag) ∧ wi.cell? ⟨w.heap.size + 1, 1, none⟩ = some (.slice ac n cc) ∧ w.heap.size < wi.heap.size ∧ w.heap.size + 1 < wi.heap.size :=
  ⟨blk_cell h.c 0, blk_cell h.c 1, blk_cell h.c 2, blk_cell h.c 3, blk_cell h.p 0, blk_cell h.p 1, blk_lt h.c, blk_lt h.p⟩
theorem Bxs.tagged (h : Bxs w wi c t f r tag ac n cc) (tag' : Int) : Bxs w (wi.setCell ⟨w.heap.size + 1, 0, none⟩ (.int .i64 tag')) c t f r tag' ac n cc :=
  ⟨(Below.heap_setCell _ _ _ _ (by show w.heap.size ≠ w.heap.size + 1; omega)).trans h.c, blk_set h.p 0 _⟩
end
theorem LW.law {w wi : World} {c t f r tag : Int} {ac : Option Addr} {n cc p : Nat} {F : Nat → Prop} {fs : List Nat} (h : LW ((w.alloc (cfgBx c t f r)).alloc (prgBx tag ac n cc)) wi p F fs) :
    LW w wi p F fs ∧ Bxs w wi c t f r tag ac n cc ∧ ∀ k, F k → w.heap.size + 2 ≤ k := by
  obtain ⟨x0, x1, hz⟩ := law_boxes h.chg
  refine ⟨⟨h.st, law_old h.chg, fun k hk => by have := h.new k hk; simp at this; omega⟩, ⟨x0, x1⟩, fun k hk => by have := h.new k hk; simp at this; omega⟩
theorem LW.store {w wi : World} {p b o : Nat} {F : Nat → Prop} {fs : List Nat} (h : LW w wi p F fs) (hb : w.heap.size ≤ b) (hF : ¬ F b) (v : Value) : LW w (wi.setCell ⟨b, o, none⟩ v) p F fs :=
  ⟨h.st.chg ((Chg.refl wi (fun k => k = b)).setCell (.inr rfl) v) (fun k hk e => hF (e ▸ hk)), h.chg.setCell (.inl hb) v, h.new⟩
/-- What a run of the call's own has told, in memory. -/
structure Told (wx : World) (base rb : Nat) (s : Mc) (h1 h2 h3 : Int) (ao ar aw : Option Addr) (co cr cw : Nat) : Prop where
  blk : wx.heap[rb]? = some (resO (h1, h2, h3) (ao, s.out.length, co) (ar, s.reads.length, cr) (aw, s.buf.length, cw) (s.used : Int))
  lo : base ≤ rb
  how : s.how = (h1, h2, h3)
  out : wx.ownsRow base 33 1 (.slice ao s.out.length co) s.out.length (s.out.map fl)
  reads : wx.ownsRow base 77 2 (.slice ar s.reads.length cr) s.reads.length (tchV s.reads)
  writes : wx.ownsRow base 77 2 (.slice aw s.buf.length cw) s.buf.length (tchV s.buf)
section
variable {wx w' : World} {base rb : Nat} {s : Mc} {h1 h2 h3 : Int} {ao ar aw : Option Addr} {co cr cw : Nat} {S : Nat → Prop}
theorem Told.chg (h : Told wx base rb s h1 h2 h3 ao ar aw co cr cw) (hc : Chg wx w' S) (hS : ∀ k, base ≤ k → ¬ S k) : Told w' base rb s h1 h2 h3 ao ar aw co cr cw :=
  ⟨(hc.block _ (blk_lt h.blk) (hS _ h.lo)).trans h.blk, h.lo, h.how, row_chg h.out hc hS, row_chg h.reads hc hS, row_chg h.writes hc hS⟩
theorem Told.quiet (h : Told wx base rb s h1 h2 h3 ao ar aw co cr cw) (hc : Chg wx w' Nothing) : Told w' base rb s h1 h2 h3 ao ar aw co cr cw := h.chg hc (fun _ _ h => h)
theorem Told.cells (h : Told wx base rb s h1 h2 h3 ao ar aw co cr cw) : wx.cell? ⟨rb, 0, none⟩ = some (.int .i64 h1) ∧ wx.cell? ⟨rb, 1, none⟩ = some (.int .i64 h2) ∧ wx.cell? ⟨rb, 2, none⟩ = some (.int .i64 h3) ∧ wx.cell? ⟨rb, 3, none⟩ = some (.slice ao s.out.length co) ∧ wx.cell? ⟨rb, 4, none⟩ = some (.slice ar s.reads.length cr) ∧ wx.cell? ⟨rb, 5, none⟩ = some (.slice aw s.buf.length cw) ∧ wx.cell? ⟨rb, 6, none⟩ = some (.int .i64 (s.used : Int)) ∧ rb < wx.heap.size :=
  ⟨blk_cell h.blk 0, blk_cell h.blk 1, blk_cell h.blk 2, blk_cell h.blk 3, blk_cell h.blk 4, blk_cell h.blk 5, blk_cell h.blk 6, blk_lt h.blk⟩
/-- Laid into a new box. -/
theorem Told.new {b1 : Nat} (hh : s.how = (h1, h2, h3)) (ho : wx.ownsRow b1 33 1 (.slice ao s.out.length co) s.out.length (s.out.map fl)) (hr : wx.ownsRow b1 77 2 (.slice ar s.reads.length cr) s.reads.length (tchV s.reads)) (hw : wx.ownsRow b1 77 2 (.slice aw s.buf.length cw) s.buf.length (tchV s.buf)) (hb : base ≤ b1) (hz : base ≤ wx.heap.size) :
    Told (wx.alloc (resO (h1, h2, h3) (ao, s.out.length, co) (ar, s.reads.length, cr) (aw, s.buf.length, cw) (s.used : Int))) base wx.heap.size s h1 h2 h3 ao ar aw co cr cw :=
  ⟨heap_alloc_new _ _, hz, hh, ownsRow_base (row_chg ho ((Chg.refl _ Nothing).alloc _) (fun _ _ h => h)) hb, ownsRow_base (row_chg hr ((Chg.refl _ Nothing).alloc _) (fun _ _ h => h)) hb, ownsRow_base (row_chg hw ((Chg.refl _ Nothing).alloc _) (fun _ _ h => h)) hb⟩
/-- Laid into a box that stood there. -/
theorem Told.old {b1 : Nat} {cs : Array Value} (hz : wx.heap[rb]? = some (.cells cs 69 (0, 0))) (h7 : cs.size = 7) (hh : s.how = (h1, h2, h3)) (ho : wx.ownsRow b1 33 1 (.slice ao s.out.length co) s.out.length (s.out.map fl)) (hr : wx.ownsRow b1 77 2 (.slice ar s.reads.length cr) s.reads.length (tchV s.reads)) (hw : wx.ownsRow b1 77 2 (.slice aw s.buf.length cw) s.buf.length (tchV s.buf)) (hb : rb < b1) (hlo : base ≤ rb) :
    Told (((((((wx.setCell ⟨rb, 0, none⟩ (.int .i64 h1)).setCell ⟨rb, 1, none⟩ (.int .i64 h2)).setCell ⟨rb, 2, none⟩ (.int .i64 h3)).setCell ⟨rb, 3, none⟩ (.slice ao s.out.length co)).setCell ⟨rb, 4, none⟩ (.slice ar s.reads.length cr)).setCell ⟨rb, 5, none⟩ (.slice aw s.buf.length cw)).setCell ⟨rb, 6, none⟩ (.int .i64 (s.used : Int))) base rb s h1 h2 h3 ao ar aw co cr cw := by
  have hc := seven_chg (v0 := .int .i64 h1) (v1 := .int .i64 h2) (v2 := .int .i64 h3) (v3 := .slice ao s.out.length co) (v4 := .slice ar s.reads.length cr) (v5 := .slice aw s.buf.length cw) (v6 := .int .i64 (s.used : Int)) (Chg.refl wx (fun k => k = rb)) (.inr rfl)
  exact ⟨seven_set hz h7, hlo, hh, ownsRow_base (row_chg ho hc (fun k hk e => by omega)) (by omega), ownsRow_base (row_chg hr hc (fun k hk e => by omega)) (by omega), ownsRow_base (row_chg hw hc (fun k hk e => by omega)) (by omega)⟩
end
end Go.Proofs.YthgllaomafhdkaaGreat
