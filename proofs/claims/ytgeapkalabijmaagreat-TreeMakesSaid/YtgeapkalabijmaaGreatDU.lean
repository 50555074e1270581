/- A tree's Make where it fits: its programs, as they are. Printed by gen/lit.py. -/
import Derived.Test.YtgeapkalabijmaaGreatDE
import Derived.Test.YtgeapkalabijmaaGreatDI
import Derived.Test.YtgeapkalabijmaaGreatDN
namespace Go.Proofs.YtgeapkalabijmaaGreat
open Go Go.RowKit
set_option maxRecDepth 100000
set_option maxHeartbeats 1000000
set_option linter.unusedVariables false
set_option linter.unusedSimpArgs false

def trT (base room : Int) : List (Int × List Ins) := [(1, trP_Get base room), (2, trP_Put base room), (2, trP_Del base room), (1, trP_Least base room), (1, trP_After base room), (1, trP_Len base room), (1, trP_All base room)]
theorem trmake_lit (w : World) (base cells : Int) (h0 : 0 ≤ base) (h1 : 7 ≤ cells) (h2 : cells ≤ 256) (h3 : base ≤ 256 - cells) :
    Calls Tryz.prog 8 #[.int .i64 base, .int .i64 cells] w fun e w' => ∃ g0 g1 g2 g3 g4 g5 g6, e = .returned (.tuple #[.agg #[.int .i64 1, .slice (some ⟨g0, 0, none⟩) 45 45, .int .i64 2, .slice (some ⟨g1, 0, none⟩) 117 117, .int .i64 2, .slice (some ⟨g2, 0, none⟩) 77 77, .int .i64 1, .slice (some ⟨g3, 0, none⟩) 22 22, .int .i64 1, .slice (some ⟨g4, 0, none⟩) 41 41, .int .i64 1, .slice (some ⟨g5, 0, none⟩) 4 4, .int .i64 1, .slice (some ⟨g6, 0, none⟩) 32 32], .int .i64 0]) ∧ Chg w w' Nothing ∧ Held w' w.heap.size (trT base (trRoom cells)) [g0, g1, g2, g3, g4, g5, g6] := by
  refine (trmake_good w base cells h0 h1 h2 h3).mono ?_
  rintro e w' ⟨t0, a0, l0, c0, t1, a1, l1, c1, t2, a2, l2, c2, t3, a3, l3, c3, t4, a4, l4, c4, t5, a5, l5, c5, t6, a6, l6, c6, rfl, hc, p0, p1, p2, p3, p4, p5, p6⟩
  obtain ⟨g0, e0, r0⟩ := p0.holds (trE_Get base _) (trF_Get base _)
  obtain ⟨rfl, rfl, rfl, rfl⟩ : t0 = 1 ∧ a0 = some ⟨g0, 0, none⟩ ∧ l0 = 45 ∧ c0 = 45 := by
    have e := e0
    injection e with e
    have h0 : Value.int .i64 t0 = _ := congrArg (fun (x : Array Value) => x.getD 0 undef) e
    have h1 : Value.slice a0 l0 c0 = _ := congrArg (fun (x : Array Value) => x.getD 1 undef) e
    injection h0 with _ h0
    injection h1 with h1 h2 h3
    exact ⟨h0, h1, h2, h3⟩
  obtain ⟨g1, e1, r1⟩ := p1.holds (trE_Put base _) (trF_Put base _)
  obtain ⟨rfl, rfl, rfl, rfl⟩ : t1 = 2 ∧ a1 = some ⟨g1, 0, none⟩ ∧ l1 = 117 ∧ c1 = 117 := by
    have e := e1
    injection e with e
    have h0 : Value.int .i64 t1 = _ := congrArg (fun (x : Array Value) => x.getD 0 undef) e
    have h1 : Value.slice a1 l1 c1 = _ := congrArg (fun (x : Array Value) => x.getD 1 undef) e
    injection h0 with _ h0
    injection h1 with h1 h2 h3
    exact ⟨h0, h1, h2, h3⟩
  obtain ⟨g2, e2, r2⟩ := p2.holds (trE_Del base _) (trF_Del base _)
  obtain ⟨rfl, rfl, rfl, rfl⟩ : t2 = 2 ∧ a2 = some ⟨g2, 0, none⟩ ∧ l2 = 77 ∧ c2 = 77 := by
    have e := e2
    injection e with e
    have h0 : Value.int .i64 t2 = _ := congrArg (fun (x : Array Value) => x.getD 0 undef) e
    have h1 : Value.slice a2 l2 c2 = _ := congrArg (fun (x : Array Value) => x.getD 1 undef) e
    injection h0 with _ h0
    injection h1 with h1 h2 h3
    exact ⟨h0, h1, h2, h3⟩
  obtain ⟨g3, e3, r3⟩ := p3.holds (trE_Least base _) (trF_Least base _)
  obtain ⟨rfl, rfl, rfl, rfl⟩ : t3 = 1 ∧ a3 = some ⟨g3, 0, none⟩ ∧ l3 = 22 ∧ c3 = 22 := by
    have e := e3
    injection e with e
    have h0 : Value.int .i64 t3 = _ := congrArg (fun (x : Array Value) => x.getD 0 undef) e
    have h1 : Value.slice a3 l3 c3 = _ := congrArg (fun (x : Array Value) => x.getD 1 undef) e
    injection h0 with _ h0
    injection h1 with h1 h2 h3
    exact ⟨h0, h1, h2, h3⟩
  obtain ⟨g4, e4, r4⟩ := p4.holds (trE_After base _) (trF_After base _)
  obtain ⟨rfl, rfl, rfl, rfl⟩ : t4 = 1 ∧ a4 = some ⟨g4, 0, none⟩ ∧ l4 = 41 ∧ c4 = 41 := by
    have e := e4
    injection e with e
    have h0 : Value.int .i64 t4 = _ := congrArg (fun (x : Array Value) => x.getD 0 undef) e
    have h1 : Value.slice a4 l4 c4 = _ := congrArg (fun (x : Array Value) => x.getD 1 undef) e
    injection h0 with _ h0
    injection h1 with h1 h2 h3
    exact ⟨h0, h1, h2, h3⟩
  obtain ⟨g5, e5, r5⟩ := p5.holds (trE_Len base _) (trF_Len base _)
  obtain ⟨rfl, rfl, rfl, rfl⟩ : t5 = 1 ∧ a5 = some ⟨g5, 0, none⟩ ∧ l5 = 4 ∧ c5 = 4 := by
    have e := e5
    injection e with e
    have h0 : Value.int .i64 t5 = _ := congrArg (fun (x : Array Value) => x.getD 0 undef) e
    have h1 : Value.slice a5 l5 c5 = _ := congrArg (fun (x : Array Value) => x.getD 1 undef) e
    injection h0 with _ h0
    injection h1 with h1 h2 h3
    exact ⟨h0, h1, h2, h3⟩
  obtain ⟨g6, e6, r6⟩ := p6.holds (trE_All base _) (trF_All base _)
  obtain ⟨rfl, rfl, rfl, rfl⟩ : t6 = 1 ∧ a6 = some ⟨g6, 0, none⟩ ∧ l6 = 32 ∧ c6 = 32 := by
    have e := e6
    injection e with e
    have h0 : Value.int .i64 t6 = _ := congrArg (fun (x : Array Value) => x.getD 0 undef) e
    have h1 : Value.slice a6 l6 c6 = _ := congrArg (fun (x : Array Value) => x.getD 1 undef) e
    injection h0 with _ h0
    injection h1 with h1 h2 h3
    exact ⟨h0, h1, h2, h3⟩
  refine ⟨g0, g1, g2, g3, g4, g5, g6, rfl, hc, fun j t ht => ?_⟩
  match j, ht with
  | 0, ht => obtain rfl := Option.some.inj ht; exact ⟨g0, rfl, r0⟩
  | 1, ht => obtain rfl := Option.some.inj ht; exact ⟨g1, rfl, r1⟩
  | 2, ht => obtain rfl := Option.some.inj ht; exact ⟨g2, rfl, r2⟩
  | 3, ht => obtain rfl := Option.some.inj ht; exact ⟨g3, rfl, r3⟩
  | 4, ht => obtain rfl := Option.some.inj ht; exact ⟨g4, rfl, r4⟩
  | 5, ht => obtain rfl := Option.some.inj ht; exact ⟨g5, rfl, r5⟩
  | 6, ht => obtain rfl := Option.some.inj ht; exact ⟨g6, rfl, r6⟩
  | j + 7, ht => simp [trT] at ht
end Go.Proofs.YtgeapkalabijmaaGreat
