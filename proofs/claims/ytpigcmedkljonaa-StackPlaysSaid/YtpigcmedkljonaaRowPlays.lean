/- StackPlays returns true for every room and every script: each answer of a stack over numbers is the document's. Conditions: none. -/
import Derived.Test.YtpigcmedkljonaaRows
import Derived.Test.YtpigcmedkljonaaOpen
import Derived.Test.YtpigcmedkljonaaLawC
namespace Go.Proofs.Ytpigcmedkljonaa
open Go Go.RowKit Go.ChangeShapes Go.WideShapes Go.ChangeAt
set_option linter.unusedVariables false
set_option linter.unusedSimpArgs false

section
variable {H : Type} {enc : TypeId × Value → H} {w : World} {base : Nat} {spare : Nat → Bool} {held : Bool}

theorem script_of {fuel : Nat} {av : Option Addr} {len cap : Nat} {x : DataW H × List MemPlace} (h : DataW.trod enc Try.prog w base spare held fuel 38 [.slice av len cap] = some x) :
    ∃ l : List (Int × Int × ByteArray), l.length = len ∧ Script w av l ∧ len ≤ maxLen := by
  obtain ⟨hl, hm, f, n, hf⟩ := open_rows 3 (by kernel_rfl) (by decide) Try.underlying38 h
  have key : ∀ i, i < len → ∃ y : Int × Int × ByteArray, f i = [.int .i64 y.1, .int .i64 y.2.1, .string y.2.2] := by
    intro i hi
    obtain ⟨hlen, ⟨y, hy⟩, _⟩ := hf i hi
    obtain ⟨y0, y1, y2, m, _, _, g0, g1, g2⟩ := Deep.trod_struct3 Try.underlying42 hy
    match hfi : f i, hlen with
    | [c0, c1, c2], _ =>
      rw [hfi] at g0 g1 g2
      simp [show Try.prog.cellsOf 3 = 1 by kernel_rfl, show Try.prog.cellsOf 9 = 1 by kernel_rfl] at g0 g1 g2
      obtain ⟨n0, e0, _⟩ := DataW.trod_int Try.underlying3 g0
      obtain ⟨n1, e1, _⟩ := DataW.trod_int Try.underlying3 g1
      obtain ⟨n2, e2, _⟩ := DataW.trod_string Try.underlying9 g2
      simp at e0 e1 e2
      exact ⟨(n0, n1, n2), by rw [e0, e1, e2]⟩
  obtain ⟨g, hg⟩ := Deep.choose_lt (α := Int × Int × ByteArray) key
  refine ⟨(List.range len).map g, by simp, ?_, by omega⟩
  intro i y hy
  have hi : i < len := by have := (List.getElem?_eq_some_iff.1 hy).1; simpa using this
  obtain rfl : g i = y := by simpa [hi] using hy
  obtain ⟨hlen, _, b, o, hav, hc⟩ := hf i hi
  rw [hg i hi] at hc
  exact ⟨b, o, hav, hc 0 _ rfl, hc 1 _ rfl, hc 2 _ rfl⟩
end

theorem own : ownKnob Try.prog.godebug = none := by kernel_rfl
theorem laidOut : laidOutB Try.prog = true := by kernel_rfl

namespace Plays
set_option maxRecDepth 100000 in
theorem lifted (os : Os) (started : os.Started) (H : Type) (enc : TypeId × Value → H) :
    ReturnsInHanded {} Try.checked os 6 .any (Rows.stackPlaysSpec.pre6 enc Try.prog Try.f6 Rows.stackPlaysRow.domain false) (Rows.stackPlaysSpec.post enc Try.prog Try.f6 false true false false) := by
  refine returnsInHanded_of_change (C := Try.checked) own started (by kernel_rfl) Try.func6
    (ChangeSpec.witness6 (enc := enc) (C := Try.checked) false ⟨#[], #[.int .i64 0, .slice none 0 0], []⟩ 8 (by kernel_rfl) (by kernel_rfl) (by kernel_rfl) (by kernel_rfl)) ?_
  intro W base args ds gs before hval0 hW hcnd _
  have hval : ∀ (j : Nat) t v, Try.f6.params[j]? = some t → args[j]? = some v → Value.okWide Try.prog W .any base t v := hval0
  have hW' := hW
  obtain ⟨p, q, hA0, hV, rfl, hfz, hnd⟩ := hW
  have hA : DataW.TrodAll enc Try.prog W 0 (fun _ => true) true Try.f6.params.toList args.toList ds p := hA0
  rw [Try.params6] at hA hval
  obtain ⟨v0, vs0, d0, ds0, p0, q0, hargs, rfl, rfl, h0, r0⟩ := trodAll_cons hA
  obtain ⟨v1, vs1, d1, ds1, p1, q1, rfl, rfl, rfl, h1, r1⟩ := trodAll_cons r0
  obtain ⟨rfl, rfl, rfl⟩ := trodAll_nil r1
  obtain rfl : args = #[v0, v1] := by cases args; simp_all
  obtain ⟨rfl, rfl⟩ := trodVars_none hV
  obtain ⟨a0, rfl, rfl, rfl, w0⟩ := open_int Try.underlying3 (hval 0 3 v0 rfl rfl) h0
  obtain ⟨a1, len1, cap1, rfl⟩ := okWide_slice Try.underlying38 (hval 1 38 v1 rfl rfl)
  have k1 := h1
  have lt1 : ∀ x ∈ p1, x.block < W.heap.size := by obtain ⟨m, hm⟩ := k1; exact DataW.trod_lt m _ _ _ hm
  obtain ⟨fuel, hf⟩ := h1
  obtain ⟨l, rfl, hs, hl⟩ := script_of hf
  clear hA0 hval0
  refine (plays_walk a0 a1 cap1 l W hs ?_).mono fun e W' ⟨he, hc⟩ => ?_
  · exact hl
  subst he
  have bel := hc.below
  exact ⟨_, rfl, _, _, _, [], _, [], hW', trodAll_mk1 (shut_bool Try.underlying4 _), (trodAll_cons_mk (shut_int Try.underlying3 w0) (trodAll_cons_mk (Below.trod laidOut (by kernel_rfl) (of_decide_eq_true (by kernel_rfl)) k1 bel lt1) trodAll_mk0)), rfl, bel.frame _, fun h => by cases h⟩

theorem over : Rows.stackPlaysRow.holds Try.pinned (OpenSpec.ofChange Rows.stackPlaysSpec) :=
  OpenClaim.holds_of_wide 6 Try.f6 rfl rfl rfl rfl rfl rfl rfl ⟨rfl, rfl, rfl, rfl, rfl⟩ rfl rfl rfl rfl rfl (by kernel_rfl) Try.func6 (by kernel_rfl)
    (of_decide_eq_true (by kernel_rfl)) (by unfold Func.isWrapper; first | (rw [if_pos (by decide +kernel)]; kernel_rfl) | (rw [if_neg (by decide +kernel)]; exact ⟨rfl, rfl⟩))
    (fun os started H enc _ => lifted os started H enc)

/-- StackPlays. -/
theorem proved : Rows.StackPlaysSaid := over
end Plays
end Go.Proofs.Ytpigcmedkljonaa
