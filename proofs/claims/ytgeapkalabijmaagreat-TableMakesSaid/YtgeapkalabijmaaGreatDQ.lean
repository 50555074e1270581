/- A table's Make where it fits: its programs, as they are. Printed by gen/lit.py. -/
import Derived.Test.YtgeapkalabijmaaGreatD9
import Derived.Test.YtgeapkalabijmaaGreatDH
import Derived.Test.YtgeapkalabijmaaGreatDN
namespace Go.Proofs.YtgeapkalabijmaaGreat
open Go Go.RowKit
set_option maxRecDepth 100000
set_option maxHeartbeats 1000000
set_option linter.unusedVariables false
set_option linter.unusedSimpArgs false

def tbT (base room : Int) : List (Int × List Ins) := [(1, tbP_Get base room), (2, tbP_Put base room), (2, tbP_Del base room), (1, tbP_Len base room), (1, tbP_All base room)]
theorem tbmake_lit (w : World) (base cells : Int) (h0 : 0 ≤ base) (h1 : 11 ≤ cells) (h2 : cells ≤ 256) (h3 : base ≤ 256 - cells) :
    Calls Tryz.prog 22 #[.int .i64 base, .int .i64 cells] w fun e w' => ∃ g0 g1 g2 g3 g4, e = .returned (.tuple #[.agg #[.int .i64 1, .slice (some ⟨g0, 0, none⟩) 41 41, .int .i64 2, .slice (some ⟨g1, 0, none⟩) 105 105, .int .i64 2, .slice (some ⟨g2, 0, none⟩) 73 73, .int .i64 1, .slice (some ⟨g3, 0, none⟩) 4 4, .int .i64 1, .slice (some ⟨g4, 0, none⟩) 166 166], .int .i64 0]) ∧ Chg w w' Nothing ∧ Held w' w.heap.size (tbT base (tbRoom cells)) [g0, g1, g2, g3, g4] := by
  refine (tbmake_good w base cells h0 h1 h2 h3).mono ?_
  rintro e w' ⟨t0, a0, l0, c0, t1, a1, l1, c1, t2, a2, l2, c2, t3, a3, l3, c3, t4, a4, l4, c4, rfl, hc, hp⟩
  obtain ⟨q0, hq0, p0⟩ := hp 0 _ rfl
  obtain rfl := Option.some.inj hq0
  obtain ⟨q1, hq1, p1⟩ := hp 1 _ rfl
  obtain rfl := Option.some.inj hq1
  obtain ⟨q2, hq2, p2⟩ := hp 2 _ rfl
  obtain rfl := Option.some.inj hq2
  obtain ⟨q3, hq3, p3⟩ := hp 3 _ rfl
  obtain rfl := Option.some.inj hq3
  obtain ⟨q4, hq4, p4⟩ := hp 4 _ rfl
  obtain rfl := Option.some.inj hq4
  obtain ⟨g0, e0, r0⟩ := p0.holds (tbE_Get base _) (tbF_Get base _)
  obtain ⟨rfl, rfl, rfl, rfl⟩ : t0 = 1 ∧ a0 = some ⟨g0, 0, none⟩ ∧ l0 = 41 ∧ c0 = 41 := by
    have e := e0
    unfold pvV at e
    injection e with e
    have h0 : Value.int .i64 t0 = _ := congrArg (fun (x : Array Value) => x.getD 0 undef) e
    have h1 : Value.slice a0 l0 c0 = _ := congrArg (fun (x : Array Value) => x.getD 1 undef) e
    injection h0 with _ h0
    injection h1 with h1 h2 h3
    exact ⟨h0, h1, h2, h3⟩
  obtain ⟨g1, e1, r1⟩ := p1.holds (tbE_Put base _) (tbF_Put base _)
  obtain ⟨rfl, rfl, rfl, rfl⟩ : t1 = 2 ∧ a1 = some ⟨g1, 0, none⟩ ∧ l1 = 105 ∧ c1 = 105 := by
    have e := e1
    unfold pvV at e
    injection e with e
    have h0 : Value.int .i64 t1 = _ := congrArg (fun (x : Array Value) => x.getD 0 undef) e
    have h1 : Value.slice a1 l1 c1 = _ := congrArg (fun (x : Array Value) => x.getD 1 undef) e
    injection h0 with _ h0
    injection h1 with h1 h2 h3
    exact ⟨h0, h1, h2, h3⟩
  obtain ⟨g2, e2, r2⟩ := p2.holds (tbE_Del base _) (tbF_Del base _)
  obtain ⟨rfl, rfl, rfl, rfl⟩ : t2 = 2 ∧ a2 = some ⟨g2, 0, none⟩ ∧ l2 = 73 ∧ c2 = 73 := by
    have e := e2
    unfold pvV at e
    injection e with e
    have h0 : Value.int .i64 t2 = _ := congrArg (fun (x : Array Value) => x.getD 0 undef) e
    have h1 : Value.slice a2 l2 c2 = _ := congrArg (fun (x : Array Value) => x.getD 1 undef) e
    injection h0 with _ h0
    injection h1 with h1 h2 h3
    exact ⟨h0, h1, h2, h3⟩
  obtain ⟨g3, e3, r3⟩ := p3.holds (tbE_Len base _) (tbF_Len base _)
  obtain ⟨rfl, rfl, rfl, rfl⟩ : t3 = 1 ∧ a3 = some ⟨g3, 0, none⟩ ∧ l3 = 4 ∧ c3 = 4 := by
    have e := e3
    unfold pvV at e
    injection e with e
    have h0 : Value.int .i64 t3 = _ := congrArg (fun (x : Array Value) => x.getD 0 undef) e
    have h1 : Value.slice a3 l3 c3 = _ := congrArg (fun (x : Array Value) => x.getD 1 undef) e
    injection h0 with _ h0
    injection h1 with h1 h2 h3
    exact ⟨h0, h1, h2, h3⟩
  obtain ⟨g4, e4, r4⟩ := p4.holds (tbE_All base _) (tbF_All base _)
  obtain ⟨rfl, rfl, rfl, rfl⟩ : t4 = 1 ∧ a4 = some ⟨g4, 0, none⟩ ∧ l4 = 166 ∧ c4 = 166 := by
    have e := e4
    unfold pvV at e
    injection e with e
    have h0 : Value.int .i64 t4 = _ := congrArg (fun (x : Array Value) => x.getD 0 undef) e
    have h1 : Value.slice a4 l4 c4 = _ := congrArg (fun (x : Array Value) => x.getD 1 undef) e
    injection h0 with _ h0
    injection h1 with h1 h2 h3
    exact ⟨h0, h1, h2, h3⟩
  refine ⟨g0, g1, g2, g3, g4, rfl, hc, fun j t ht => ?_⟩
  match j, ht with
  | 0, ht => obtain rfl := Option.some.inj ht; exact ⟨g0, rfl, r0⟩
  | 1, ht => obtain rfl := Option.some.inj ht; exact ⟨g1, rfl, r1⟩
  | 2, ht => obtain rfl := Option.some.inj ht; exact ⟨g2, rfl, r2⟩
  | 3, ht => obtain rfl := Option.some.inj ht; exact ⟨g3, rfl, r3⟩
  | 4, ht => obtain rfl := Option.some.inj ht; exact ⟨g4, rfl, r4⟩
  | j + 5, ht => simp [tbT] at ht
end Go.Proofs.YtgeapkalabijmaaGreat
