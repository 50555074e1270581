/- A script of layer 7's statements, read off memory. -/
import Derived.Test.YtpigcmedkljonacOpen
import Derived.Test.YtpigcmedkljonacLaw7C
namespace Go.Proofs.Ytpigcmedkljonac
open Go Go.RowKit Go.ChangeShapes Go.WideShapes Go.ChangeAt
set_option linter.unusedVariables false
set_option linter.unusedSimpArgs false

theorem script_of {H : Type} {enc : TypeId × Value → H} {w : World} {base : Nat} {spare : Nat → Bool} {held : Bool} {fuel : Nat} {av : Option Addr} {len cap : Nat} {x : DataW H × List MemPlace} (h : DataW.trod enc Try.prog w base spare held fuel 28 [.slice av len cap] = some x) :
    LenOf x.1 len ∧ ∃ l : List (Int × Int × Int), l.length = len ∧ len ≤ cap ∧ cap ≤ maxLen ∧ Script w av l := by
  obtain ⟨hL, l, h1, h2, h3, h4⟩ := open_typed (α := Int × Int × Int) 3 (by kernel_rfl) (by decide) Try.underlying28 (fun y => [.int .i64 y.1, .int .i64 y.2.1, .int .u64 y.2.2]) (fun n cs y hlen hy => by
    obtain ⟨y0, y1, y2, m, _, _, g0, g1, g2⟩ := Deep.trod_struct3 Try.underlying31 hy
    match cs, hlen with
    | [c0, c1, c2], _ =>
      simp [show Try.prog.cellsOf 3 = 1 by kernel_rfl, show Try.prog.cellsOf 29 = 1 by kernel_rfl] at g0 g1 g2
      obtain ⟨n0, e0, _⟩ := DataW.trod_int Try.underlying3 g0
      obtain ⟨n1, e1, _⟩ := DataW.trod_int Try.underlying3 g1
      obtain ⟨n2, e2, _⟩ := DataW.trod_int Try.underlying29 g2
      simp at e0 e1 e2
      exact ⟨(n0, n1, n2), by rw [e0, e1, e2]⟩) h
  refine ⟨hL, l, h1, h2, h3, fun i y hy => ?_⟩
  obtain ⟨b, o, hav, hc⟩ := h4 i y hy
  exact ⟨b, o, hav, hc 0 _ rfl, hc 1 _ rfl, hc 2 _ rfl⟩
/-- .. its numbers' bits being whole numbers that are not negative. -/
theorem script_nat {H : Type} {enc : TypeId × Value → H} {w : World} {base : Nat} {spare : Nat → Bool} {held : Bool} {fuel : Nat} {av : Option Addr} {len cap : Nat} {x : DataW H × List MemPlace} (h : DataW.trod enc Try.prog w base spare held fuel 28 [.slice av len cap] = some x) :
    ∃ l : List (Int × Int × Nat), l.length = len ∧ len ≤ cap ∧ cap ≤ maxLen ∧ Script w av (l.map fun y => (y.1, y.2.1, (y.2.2 : Int))) := by
  obtain ⟨hL, l, h1, h2, h3, h4⟩ := open_typed (α := Int × Int × Nat) 3 (by kernel_rfl) (by decide) Try.underlying28 (fun y => [.int .i64 y.1, .int .i64 y.2.1, .int .u64 y.2.2]) (fun n cs y hlen hy => by
    obtain ⟨y0, y1, y2, m, _, _, g0, g1, g2⟩ := Deep.trod_struct3 Try.underlying31 hy
    match cs, hlen with
    | [c0, c1, c2], _ =>
      simp [show Try.prog.cellsOf 3 = 1 by kernel_rfl, show Try.prog.cellsOf 29 = 1 by kernel_rfl] at g0 g1 g2
      obtain ⟨n0, e0, _⟩ := DataW.trod_int Try.underlying3 g0
      obtain ⟨n1, e1, _⟩ := DataW.trod_int Try.underlying3 g1
      obtain ⟨n2, e2, _, w2⟩ := DataW.trod_int Try.underlying29 g2
      simp at e0 e1 e2
      have h0 : (0 : Int) ≤ n2 := by simp only [Lit.wf, Bool.and_eq_true, decide_eq_true_eq] at w2; exact w2.1
      exact ⟨(n0, n1, n2.toNat), by rw [e0, e1, e2]; simp [Int.toNat_of_nonneg h0]⟩) h
  refine ⟨l, h1, h2, h3, fun i y hy => ?_⟩
  rw [List.getElem?_map, Option.map_eq_some_iff] at hy
  obtain ⟨z, hz, rfl⟩ := hy
  obtain ⟨b, o, hav, hc⟩ := h4 i z hz
  exact ⟨b, o, hav, hc 0 _ rfl, hc 1 _ rfl, hc 2 _ rfl⟩
end Go.Proofs.Ytpigcmedkljonac
