/- Two may come up. -/
import Derived.Test.YthgllaomafhdkaaGreatHeld
namespace Go.Proofs.YthgllaomafhdkaaGreat
open Go Go.RowKit
set_option maxRecDepth 100000
set_option maxHeartbeats 1000000
set_option linter.unusedVariables false
set_option linter.unusedSimpArgs false
section
variable {P : Program} {ops : Array Oper} {Q : Exit → Act → World → Prop} {md : Region.Mode} {S : World → Prop} {z : Nat}
/-- Two may come up, and neither is z. -/
theorem twoL (i j : Nat) {o1 o2 : Oper} {rest1 rest2 : List Oper} {fuel : Nat} {listed : Array Bool} {a : Act} {w : World} (ho1 : ops.toList.drop i = o1 :: rest1) (ho2 : ops.toList.drop j = o2 :: rest2) (hr : Region.ready md ops listed = [i, j]) (hz1 : (i == z) = false) (hz2 : (j == z) = false)
    (h1 : ∀ K' : Act → World → Prop, Shut (∀ a w, S w → (S w → anyL P md ops Q S z fuel (listed.setIfInBounds i true) a w) → K' a w) → if Region.wanted o1 (yielded ops a.tmps) = true then Oper.wp P o1 a w K' Q else K' (a.put o1.dst undef) w)
    (h2 : ∀ K' : Act → World → Prop, Shut (∀ a w, S w → (S w → anyL P md ops Q S z fuel (listed.setIfInBounds j true) a w) → K' a w) → if Region.wanted o2 (yielded ops a.tmps) = true then Oper.wp P o2 a w K' Q else K' (a.put o2.dst undef) w) :
    anyL P md ops Q S z (fuel + 1) listed a w := by
  refine ⟨fun h0 => (by rw [hr] at h0; cases h0), fun k hk => ?_⟩
  rw [hr] at hk
  have hk : k = i ∨ k = j := by simpa using hk
  rcases hk with rfl | rfl
  · exact wpOp_step (dropped ho1) (fun K' hK => h1 K' (fun a w hS hW => hK a w ⟨fun _ => hS, hW hS⟩))
  · exact wpOp_step (dropped ho2) (fun K' hK => h2 K' (fun a w hS hW => hK a w ⟨fun _ => hS, hW hS⟩))
end
end Go.Proofs.YthgllaomafhdkaaGreat
