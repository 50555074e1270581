/- A script of layer 6's statements, read off memory. -/
import Derived.Test.YtpigcmedkljonabOpenW
import Derived.Test.YtpigcmedkljonabLaw6E
namespace Go.Proofs.Ytpigcmedkljonab
open Go Go.RowKit Go.ChangeShapes Go.WideShapes Go.ChangeAt
set_option linter.unusedVariables false
set_option linter.unusedSimpArgs false
set_option linter.unnecessarySimpa false

section
variable {H : Type} {enc : TypeId × Value → H} {w : World} {base : Nat} {spare : Nat → Bool} {held : Bool} {fuel : Nat}

theorem puts_of {cs : List Value} {x : DataW H × List MemPlace} (h : DataW.trod enc Try.prog w base spare held fuel 59 cs = some x) (hw : FitsW Try.prog 59 x.1) :
    ∃ av, ∃ ps : List (Int × Int), ∃ cap, cs = [.slice av ps.length cap] ∧ ps.length * 16 ≤ 140737488351232 ∧ Pts w av ps ∧ ∀ y ∈ ps, (Lit.int .u64 y.2).wf = true := by
  obtain ⟨av, len, cap, rfl⟩ := trod_slice_val Try.underlying59 h
  obtain ⟨hL, l, rfl, h2, h3, h4⟩ := open_typedW (α := Int × Int) 2 (by kernel_rfl) (by decide) Try.underlying59 (fun y => [.int .i64 y.1, .int .u64 y.2]) (fun y => (Lit.int .u64 y.2).wf = true) (fun n cs y hlen hy _ => by
    obtain ⟨y0, y1, m, _, _, g0, g1⟩ := trod_struct2 Try.underlying73 hy
    match cs, hlen with
    | [c0, c1], _ =>
      simp [show Try.prog.cellsOf 3 = 1 by kernel_rfl, show Try.prog.cellsOf 39 = 1 by kernel_rfl] at g0 g1
      obtain ⟨n0, e0, _⟩ := DataW.trod_int Try.underlying3 g0
      obtain ⟨n1, e1, _, w1⟩ := DataW.trod_int Try.underlying39 g1
      simp at e0 e1
      exact ⟨(n0, n1), by rw [e0, e1], w1⟩) h hw
  rw [show Try.prog.bytesOf 73 = 16 by kernel_rfl] at hL
  refine ⟨av, l, cap, rfl, hL, fun i y hy => ?_, fun y hy => ?_⟩
  · obtain ⟨_, b, o, hav, hc⟩ := h4 i y hy
    exact ⟨b, o, hav, hc 0 _ rfl, hc 1 _ rfl⟩
  · obtain ⟨i, hi, rfl⟩ := List.mem_iff_getElem.1 hy
    exact (h4 i _ (List.getElem?_eq_getElem hi)).1

instance : Inhabited OpD := ⟨⟨0, 0, 0, none, 0, []⟩⟩

theorem script_of {av : Option Addr} {len cap : Nat} {x : DataW H × List MemPlace} (h : DataW.trod enc Try.prog w base spare held fuel 47 [.slice av len cap] = some x) (hw : FitsW Try.prog 47 x.1) :
    ∃ l : List OpD, l.length = len ∧ len ≤ cap ∧ cap ≤ maxLen ∧ Script w av l := by
  obtain ⟨_, l, h1, h2, h3, h4⟩ := open_typedW (α := OpD) 4 (by kernel_rfl) (by decide) Try.underlying47 (fun y => [.int .i64 y.k, .int .i64 y.n, .int .u64 y.x, .slice y.a y.ps.length y.c]) (fun y => Pts w y.a y.ps ∧ y.ps.length * 16 ≤ 140737488351232) (fun n cs y hlen hy hwy => by
    obtain ⟨y0, y1, y2, y3, m, hya, _, g0, g1, g2, g3⟩ := trod_struct4 Try.underlying61 hy
    rw [hya] at hwy
    have hw3 := hwy.field Try.underlying61 3 rfl rfl
    match cs, hlen with
    | [c0, c1, c2, c3], _ =>
      simp [show Try.prog.cellsOf 3 = 1 by kernel_rfl, show Try.prog.cellsOf 39 = 1 by kernel_rfl, show Try.prog.cellsOf 59 = 1 by kernel_rfl] at g0 g1 g2 g3
      obtain ⟨n0, e0, _⟩ := DataW.trod_int Try.underlying3 g0
      obtain ⟨n1, e1, _⟩ := DataW.trod_int Try.underlying3 g1
      obtain ⟨n2, e2, _⟩ := DataW.trod_int Try.underlying39 g2
      obtain ⟨a3, ps, c, e3, hl3, hp3, _⟩ := puts_of g3 hw3
      simp at e0 e1 e2 e3
      exact ⟨⟨n0, n1, n2, a3, c, ps⟩, by rw [e0, e1, e2, e3], hp3, hl3⟩) h hw
  refine ⟨l, h1, h2, h3, fun i y hy => ?_⟩
  obtain ⟨⟨hp, hl⟩, b, o, hav, hc⟩ := h4 i y hy
  refine ⟨⟨b, o, hav, hc 0 _ rfl, hc 1 _ rfl, hc 2 _ rfl, hc 3 _ rfl⟩, hp, hl, fun b o e h0 => ?_⟩
  obtain ⟨b', o', e', c1, _⟩ := hp 0 _ (List.getElem?_eq_getElem h0)
  rw [e] at e'
  cases e'
  exact cell_lt c1
end
end Go.Proofs.Ytpigcmedkljonab
