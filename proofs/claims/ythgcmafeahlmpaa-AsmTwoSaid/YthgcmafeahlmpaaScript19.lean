/- A list of moves of layer 19's statements, read off memory. -/
import Derived.Test.YthgcmafeahlmpaaOpen
import Derived.Test.YthgcmafeahlmpaaAC
namespace Go.Proofs.Ythgcmafeahlmpaa
open Go Go.RowKit Go.ChangeShapes Go.WideShapes Go.ChangeAt
set_option linter.unusedVariables false
set_option linter.unusedSimpArgs false

theorem trod_four {H : Type} {enc : TypeId × Value → H} {P : Program} {w : World} {base : Nat} {spare : Nat → Bool} {held : Bool} {t : TypeId} {f0 f1 f2 f3 : Field} {fuel : Nat} {cs : List Value} {x : DataW H × List MemPlace} (ht : P.underlying t = some (.struct #[f0, f1, f2, f3])) (h : DataW.trod enc P w base spare held fuel t cs = some x) :
    ∃ y0 y1 y2 y3 n, cs.length = P.cellsOf t ∧ DataW.trod enc P w base spare held n f0.type ((cs.drop f0.offset).take (P.cellsOf f0.type)) = some y0 ∧
      DataW.trod enc P w base spare held n f1.type ((cs.drop f1.offset).take (P.cellsOf f1.type)) = some y1 ∧ DataW.trod enc P w base spare held n f2.type ((cs.drop f2.offset).take (P.cellsOf f2.type)) = some y2 ∧ DataW.trod enc P w base spare held n f3.type ((cs.drop f3.offset).take (P.cellsOf f3.type)) = some y3 := by
  obtain ⟨xs, n, _, rfl, hl, hlen, hf⟩ := DataW.trod_struct ht h
  match xs, hlen with
  | [y0, y1, y2, y3], _ => exact ⟨y0, y1, y2, y3, n, hl, by simpa using hf 0 f0 rfl, by simpa using hf 1 f1 rfl, by simpa using hf 2 f2 rfl, by simpa using hf 3 f3 rfl⟩

theorem script_of {H : Type} {enc : TypeId × Value → H} {w : World} {base : Nat} {spare : Nat → Bool} {held : Bool} {fuel : Nat} {av : Option Addr} {len cap : Nat} {x : DataW H × List MemPlace} (h : DataW.trod enc Try.prog w base spare held fuel 22 [.slice av len cap] = some x) :
    LenOf x.1 len ∧ ∃ l : List (Int × Int × Int × Nat), l.length = len ∧ len ≤ cap ∧ cap ≤ maxLen ∧ Script w av l := by
  obtain ⟨hL, l, h1, h2, h3, h4⟩ := open_typed (α := Int × Int × Int × Nat) 4 (by kernel_rfl) (by decide) Try.underlying22 (fun y => [.int .i64 y.1, .int .i64 y.2.1, .int .i64 y.2.2.1, fl y.2.2.2]) (fun n cs y hlen hy => by
    obtain ⟨y0, y1, y2, y3, m, _, g0, g1, g2, g3⟩ := trod_four Try.underlying30 hy
    match cs, hlen with
    | [c0, c1, c2, c3], _ =>
      simp [show Try.prog.cellsOf 3 = 1 by kernel_rfl, show Try.prog.cellsOf 28 = 1 by kernel_rfl] at g0 g1 g2 g3
      obtain ⟨n0, e0, _⟩ := DataW.trod_int Try.underlying3 g0
      obtain ⟨n1, e1, _⟩ := DataW.trod_int Try.underlying3 g1
      obtain ⟨n2, e2, _⟩ := DataW.trod_int Try.underlying3 g2
      obtain ⟨n3, e3, _⟩ := trod_float Try.underlying28 g3
      simp at e0 e1 e2 e3
      exact ⟨(n0, n1, n2, n3), by rw [e0, e1, e2, e3]⟩) h
  refine ⟨hL, l, h1, h2, h3, fun i y hy => ?_⟩
  obtain ⟨b, o, hav, hc⟩ := h4 i y hy
  exact ⟨b, o, hav, hc 0 _ rfl, hc 1 _ rfl, hc 2 _ rfl, hc 3 _ rfl⟩
end Go.Proofs.Ythgcmafeahlmpaa
