/- alone.Run of a program that is well and commits: its answer, leaf by leaf. -/
import Derived.Test.YtgeapkalabijmaaGreatM43
namespace Go.Proofs.YtgeapkalabijmaaGreat
open Go Go.RowKit
set_option maxRecDepth 100000
set_option maxHeartbeats 1000000
set_option linter.unusedVariables false
set_option linter.unusedSimpArgs false

/-- A run's answer, leaf by leaf. -/
theorem arun_lit (tag : Int) (ac : Option Addr) (ln cc : Nat) (code : List Ins) (aa : Option Addr) (n na : Nat) (args : List Nat) (p : Nat) (G : Nat → Prop) (fs out fs' : List Nat) (w : World) (h : Sta w p G (fs.map fl)) (hfl : fs.length = 24) (hl : code.length = ln) (hn : args.length = n)
    (hs : Sees w ac (insV code)) (ha : Sees w aa (args.map fl)) (hk : ln ≤ 1024) (hna : n ≤ 8) (hx : ∀ i ∈ code, i.2.2 < 18446744073709551616) (hax : ∀ y ∈ args, y < 18446744073709551616) (hfx : ∀ y ∈ fs, y < 18446744073709551616)
    (ho : (runP (mc0 24 1 1024 8 tag code args) fs).out = out) (hh : (runP (mc0 24 1 1024 8 tag code args) fs).how.1 = 1) (hf' : afterL (runP (mc0 24 1 1024 8 tag code args) fs) fs = fs') :
    Calls Tryz.prog 28 #[.agg #[.int .i64 24, .int .i64 1, .int .i64 1024, .int .i64 8], .agg #[.int .i64 tag, .slice ac ln cc], .slice aa n na, .pointer (some ⟨p, 0, none⟩)] w fun e w' => ∃ h2 h3 ao co ar nr cr aw nw cw u,
      e = .returned (.tuple #[.agg #[.int .i64 1, .int .i64 h2, .int .i64 h3, .slice ao out.length co, .slice ar nr cr, .slice aw nw cw, .int .i64 u], .int .i64 0]) ∧ w'.ownsRow w.heap.size 61 1 (.slice ao out.length co) out.length (out.map fl) ∧ Sta w' p G (fs'.map fl) ∧ Chg w w' G := by
  subst hl hn
  refine (run_good 24 1 1024 8 tag ac cc code aa na args p G fs w h ⟨by decide, by rw [hfl]; rfl, hna⟩ (by omega) hs ha hx hax hfx).mono ?_
  rintro e w' ⟨s, ao, co, ar, cr, aw, cw, hs, -, -, -, he, h1, -, -, hst, hcb⟩
  rw [← hs] at ho hh hf'
  subst ho hf'
  refine ⟨s.how.2.1, s.how.2.2, ao, co, ar, s.reads.length, cr, aw, s.buf.length, cw, (s.used : Int), ?_, h1, hst, hcb⟩
  rw [he]
  simp only [resA, hh]

theorem lvD1 {w : World} {a : Obj} {m : Nat} {cs : Array Value} {T : TypeId} : (((w.alloc a).drewN m).alloc (.cells cs T)).heap[w.heap.size + 1]? = some (.cells cs T (0, 0)) := by
  have h := heap_alloc_new ((w.alloc a).drewN m) (.cells cs T)
  rw [show ((w.alloc a).drewN m).heap.size = w.heap.size + 1 from by show (w.alloc a).heap.size = _; simp] at h
  exact h
theorem lvD2 {w : World} {a b : Obj} {m m' : Nat} {cs : Array Value} {T : TypeId} : (((((w.alloc a).drewN m).alloc b).drewN m').alloc (.cells cs T)).heap[w.heap.size + 1 + 1]? = some (.cells cs T (0, 0)) := by
  have h := heap_alloc_new ((((w.alloc a).drewN m).alloc b).drewN m') (.cells cs T)
  rw [show ((((w.alloc a).drewN m).alloc b).drewN m').heap.size = w.heap.size + 1 + 1 from by show (((w.alloc a).drewN m).alloc b).heap.size = _; rw [World.size_alloc]; show (w.alloc a).heap.size + 1 = _; simp] at h
  exact h
end Go.Proofs.YtgeapkalabijmaaGreat
