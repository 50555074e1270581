/-
  No cell of these rows narrows 'for every input' (looked for: loops, veiled, ifaces, maps, wideKeys, modest, calm, conditions, laid).
  DERIVED. THE GIVEN ROWS OF THIS SEAT. 9 by the template 'for every input the law returns true; each argument reads behind the call as it read before'; 0 by the template 'total and deterministic' (their statements: YtenebkiiemlecaaTotals.lean).
  GIVEN WITH THE SEED: the statements are not yours to turn. If you find one false, say at which input.
  Laid BY PROGRAM, IN A SANDBOX (cutbox-rows.mjs): the forced cells as the released guide's own fill.sh prints them over the translation b89fa92046da5bf0… (all of the seat's roots in one cut). By AI agents, Wed Nov 11 2026. No macro, syntax, notation, axiom, sorry.
-/
import Derived.Test.YtenebkiiemlecaaChecked
import GoSem.Claim
import GoSem.ClaimJoined
import GoSem.ClaimMapViews
import Derived.JoinedTies
import Derived.KernelRfl
namespace Go.Proofs.Ytenebkiiemlecaa
/- THE CELL 'sum', in the pinned program and in every row, IS THE sha256 OF THE DUMP (.gsa) THAT YtenebkiiemlecaaProg.lean LOADS. Nothing in Lean hashes anything: it is a label: what it is worth is what the hold of that sum in a sandbox is worth. -/
noncomputable def Try.pinned : Pinned := { name := "ytenebkiiemlecaa", sum := "b89fa92046da5bf0ea89bd0b368c0181ac8702127158811ba971810fa08bd87f", checked := Try.checked }
namespace Rows
def none {H : Type} : Left H := { results := [], args := [] }

/-- 'beadlelaw01.NumberOnes': WHATEVER THE INPUT: true; the input reads as it did. -/
def numberOnesSpec : ChangeSpec := { name := "numberOnes", fn := fun _ => fun
  | [d1, d2] => { results := [.lit (.bool true)], args := [d1, d2] }
  | _ => none }
def numberOnesRow : OpenClaim := { program := "ytenebkiiemlecaa", sum := "b89fa92046da5bf0ea89bd0b368c0181ac8702127158811ba971810fa08bd87f", func := "beadle/beadlelaw01.NumberOnes", spec := "numberOnes", inPlace := ["math.Float64frombits", "math.Float64bits", "math.archFloor", "math.archTrunc", "math.sqrt"], unfollowed := true, recurses := true, apart := false }
def NumberOnesSaid : Prop := numberOnesRow.holds Try.pinned (OpenSpec.ofChange numberOnesSpec)

/-- ITS FALSE NEIGHBOUR: 'it returns false'. Refute it at one input. -/
def numberOnesWrong : ChangeSpec := { name := "numberOnes", fn := fun _ => fun
  | [d1, d2] => { results := [.lit (.bool false)], args := [d1, d2] }
  | _ => none }
def NumberOnesWrongFalsely : Prop := numberOnesRow.holds Try.pinned (OpenSpec.ofChange numberOnesWrong)

/-- 'beadlelaw01.NumberTwos': WHATEVER THE INPUT: true; the input reads as it did. -/
def numberTwosSpec : ChangeSpec := { name := "numberTwos", fn := fun _ => fun
  | [d1, d2, d3] => { results := [.lit (.bool true)], args := [d1, d2, d3] }
  | _ => none }
def numberTwosRow : OpenClaim := { program := "ytenebkiiemlecaa", sum := "b89fa92046da5bf0ea89bd0b368c0181ac8702127158811ba971810fa08bd87f", func := "beadle/beadlelaw01.NumberTwos", spec := "numberTwos", inPlace := ["math.Float64frombits", "math.archTrunc", "math.Float64bits", "math.archFloor", "math.sqrt"], unfollowed := true, recurses := true, apart := false }
def NumberTwosSaid : Prop := numberTwosRow.holds Try.pinned (OpenSpec.ofChange numberTwosSpec)

/-- ITS FALSE NEIGHBOUR: 'it returns false'. Refute it at one input. -/
def numberTwosWrong : ChangeSpec := { name := "numberTwos", fn := fun _ => fun
  | [d1, d2, d3] => { results := [.lit (.bool false)], args := [d1, d2, d3] }
  | _ => none }
def NumberTwosWrongFalsely : Prop := numberTwosRow.holds Try.pinned (OpenSpec.ofChange numberTwosWrong)

/-- 'beadlelaw01.NumberLaws': WHATEVER THE INPUT: true; the input reads as it did. -/
def numberLawsSpec : ChangeSpec := { name := "numberLaws", fn := fun _ => fun
  | [d1, d2] => { results := [.lit (.bool true)], args := [d1, d2] }
  | _ => none }
def numberLawsRow : OpenClaim := { program := "ytenebkiiemlecaa", sum := "b89fa92046da5bf0ea89bd0b368c0181ac8702127158811ba971810fa08bd87f", func := "beadle/beadlelaw01.NumberLaws", spec := "numberLaws", inPlace := ["math.Float64frombits", "math.archTrunc", "math.Float64bits", "math.archFloor", "math.sqrt"], unfollowed := true, recurses := true, apart := false }
def NumberLawsSaid : Prop := numberLawsRow.holds Try.pinned (OpenSpec.ofChange numberLawsSpec)

/-- ITS FALSE NEIGHBOUR: 'it returns false'. Refute it at one input. -/
def numberLawsWrong : ChangeSpec := { name := "numberLaws", fn := fun _ => fun
  | [d1, d2] => { results := [.lit (.bool false)], args := [d1, d2] }
  | _ => none }
def NumberLawsWrongFalsely : Prop := numberLawsRow.holds Try.pinned (OpenSpec.ofChange numberLawsWrong)

/-- 'beadlelaw01.NumberMods': WHATEVER THE INPUT: true; the input reads as it did. -/
def numberModsSpec : ChangeSpec := { name := "numberMods", fn := fun _ => fun
  | [d1, d2] => { results := [.lit (.bool true)], args := [d1, d2] }
  | _ => none }
def numberModsRow : OpenClaim := { program := "ytenebkiiemlecaa", sum := "b89fa92046da5bf0ea89bd0b368c0181ac8702127158811ba971810fa08bd87f", func := "beadle/beadlelaw01.NumberMods", spec := "numberMods", inPlace := ["math.archTrunc", "math.Float64bits", "math.Float64frombits", "math.archFloor", "math.sqrt"], unfollowed := true, recurses := true, apart := false }
def NumberModsSaid : Prop := numberModsRow.holds Try.pinned (OpenSpec.ofChange numberModsSpec)

/-- ITS FALSE NEIGHBOUR: 'it returns false'. Refute it at one input. -/
def numberModsWrong : ChangeSpec := { name := "numberMods", fn := fun _ => fun
  | [d1, d2] => { results := [.lit (.bool false)], args := [d1, d2] }
  | _ => none }
def NumberModsWrongFalsely : Prop := numberModsRow.holds Try.pinned (OpenSpec.ofChange numberModsWrong)

/-- 'beadlelaw01.NumberFixes': WHATEVER THE INPUT: true; the input reads as it did. -/
def numberFixesSpec : ChangeSpec := { name := "numberFixes", fn := fun _ => fun
  | [d1, d2] => { results := [.lit (.bool true)], args := [d1, d2] }
  | _ => none }
def numberFixesRow : OpenClaim := { program := "ytenebkiiemlecaa", sum := "b89fa92046da5bf0ea89bd0b368c0181ac8702127158811ba971810fa08bd87f", func := "beadle/beadlelaw01.NumberFixes", spec := "numberFixes", inPlace := ["math.Float64frombits", "math.Float64bits", "math.archTrunc", "math.archFloor", "math.sqrt"], unfollowed := true, recurses := true, apart := false }
def NumberFixesSaid : Prop := numberFixesRow.holds Try.pinned (OpenSpec.ofChange numberFixesSpec)

/-- ITS FALSE NEIGHBOUR: 'it returns false'. Refute it at one input. -/
def numberFixesWrong : ChangeSpec := { name := "numberFixes", fn := fun _ => fun
  | [d1, d2] => { results := [.lit (.bool false)], args := [d1, d2] }
  | _ => none }
def NumberFixesWrongFalsely : Prop := numberFixesRow.holds Try.pinned (OpenSpec.ofChange numberFixesWrong)

/-- 'beadlelaw01.NumberIndexes': WHATEVER THE INPUT: true; the input reads as it did. -/
def numberIndexesSpec : ChangeSpec := { name := "numberIndexes", fn := fun _ => fun
  | [d1, d2] => { results := [.lit (.bool true)], args := [d1, d2] }
  | _ => none }
def numberIndexesRow : OpenClaim := { program := "ytenebkiiemlecaa", sum := "b89fa92046da5bf0ea89bd0b368c0181ac8702127158811ba971810fa08bd87f", func := "beadle/beadlelaw01.NumberIndexes", spec := "numberIndexes", inPlace := ["math.Float64frombits", "math.archTrunc", "math.Float64bits", "math.archFloor", "math.sqrt"], unfollowed := true, recurses := true, apart := false }
def NumberIndexesSaid : Prop := numberIndexesRow.holds Try.pinned (OpenSpec.ofChange numberIndexesSpec)

/-- ITS FALSE NEIGHBOUR: 'it returns false'. Refute it at one input. -/
def numberIndexesWrong : ChangeSpec := { name := "numberIndexes", fn := fun _ => fun
  | [d1, d2] => { results := [.lit (.bool false)], args := [d1, d2] }
  | _ => none }
def NumberIndexesWrongFalsely : Prop := numberIndexesRow.holds Try.pinned (OpenSpec.ofChange numberIndexesWrong)

/-- 'beadlelaw01.NumberHashes': WHATEVER THE INPUT: true; the input reads as it did. -/
def numberHashesSpec : ChangeSpec := { name := "numberHashes", fn := fun _ => fun
  | [d1, d2] => { results := [.lit (.bool true)], args := [d1, d2] }
  | _ => none }
def numberHashesRow : OpenClaim := { program := "ytenebkiiemlecaa", sum := "b89fa92046da5bf0ea89bd0b368c0181ac8702127158811ba971810fa08bd87f", func := "beadle/beadlelaw01.NumberHashes", spec := "numberHashes", inPlace := ["math.Float64frombits", "math.Float64bits", "math.archFloor", "math.archTrunc", "math.sqrt"], unfollowed := true, recurses := true, apart := false }
def NumberHashesSaid : Prop := numberHashesRow.holds Try.pinned (OpenSpec.ofChange numberHashesSpec)

/-- ITS FALSE NEIGHBOUR: 'it returns false'. Refute it at one input. -/
def numberHashesWrong : ChangeSpec := { name := "numberHashes", fn := fun _ => fun
  | [d1, d2] => { results := [.lit (.bool false)], args := [d1, d2] }
  | _ => none }
def NumberHashesWrongFalsely : Prop := numberHashesRow.holds Try.pinned (OpenSpec.ofChange numberHashesWrong)

/-- 'beadlelaw01.NumberOrder': WHATEVER THE INPUT: true; the input reads as it did. -/
def numberOrderSpec : ChangeSpec := { name := "numberOrder", fn := fun _ => fun
  | [d1, d2, d3] => { results := [.lit (.bool true)], args := [d1, d2, d3] }
  | _ => none }
def numberOrderRow : OpenClaim := { program := "ytenebkiiemlecaa", sum := "b89fa92046da5bf0ea89bd0b368c0181ac8702127158811ba971810fa08bd87f", func := "beadle/beadlelaw01.NumberOrder", spec := "numberOrder", inPlace := ["math.Float64frombits", "math.Float64bits", "math.archTrunc", "math.archFloor", "math.sqrt"], unfollowed := true, recurses := true, apart := false }
def NumberOrderSaid : Prop := numberOrderRow.holds Try.pinned (OpenSpec.ofChange numberOrderSpec)

/-- ITS FALSE NEIGHBOUR: 'it returns false'. Refute it at one input. -/
def numberOrderWrong : ChangeSpec := { name := "numberOrder", fn := fun _ => fun
  | [d1, d2, d3] => { results := [.lit (.bool false)], args := [d1, d2, d3] }
  | _ => none }
def NumberOrderWrongFalsely : Prop := numberOrderRow.holds Try.pinned (OpenSpec.ofChange numberOrderWrong)

/-- 'beadlelaw01.NumberNumbers': WHATEVER THE INPUT: true; the input reads as it did. -/
def numberNumbersSpec : ChangeSpec := { name := "numberNumbers", fn := fun _ => fun
  | [] => { results := [.lit (.bool true)], args := [] }
  | _ => none }
def numberNumbersRow : OpenClaim := { program := "ytenebkiiemlecaa", sum := "b89fa92046da5bf0ea89bd0b368c0181ac8702127158811ba971810fa08bd87f", func := "beadle/beadlelaw01.NumberNumbers", spec := "numberNumbers", inPlace := ["math.Float64frombits", "math.Float64bits", "math.archFloor", "math.archTrunc", "math.sqrt"], unfollowed := true, recurses := true, apart := false }
def NumberNumbersSaid : Prop := numberNumbersRow.holds Try.pinned (OpenSpec.ofChange numberNumbersSpec)

/-- ITS FALSE NEIGHBOUR: 'it returns false'. Refute it at one input. -/
def numberNumbersWrong : ChangeSpec := { name := "numberNumbers", fn := fun _ => fun
  | [] => { results := [.lit (.bool false)], args := [] }
  | _ => none }
def NumberNumbersWrongFalsely : Prop := numberNumbersRow.holds Try.pinned (OpenSpec.ofChange numberNumbersWrong)

/- THE SECOND FORM. 'bulk': how many values and letters a reading holds, each counted each time it is reached (what is shared counts as often as it is met; a slice's spare places count too). A statement '..UptoSaid' is the law's where the arguments, and the package variables that the reading takes, are together of bulk at most 1048576: NARROWER than '..Said'. Prove '..Said' where nothing that the law and all that it calls make is longer than what came in: it says more and counts as full. Else prove '..UptoSaid'. A law counts once. -/
mutual
def uptoBulk {H : Type} : DataW H → Nat
  | .lit (.string bytes) => bytes.length + 1
  | .lit _ => 1
  | .nil => 1
  | .ptr d => uptoBulk d + 1
  | .slice elems spare => uptoBulkAll elems + uptoBulkAll spare + 1
  | .agg parts => uptoBulkAll parts + 1
  | .iface _ d => uptoBulk d + 1
  | .map entries => uptoBulkEntries entries + 1
  | .held _ => 1
def uptoBulkAll {H : Type} : List (DataW H) → Nat
  | [] => 0
  | d :: r => uptoBulk d + uptoBulkAll r
def uptoBulkEntries {H : Type} : List (Lit × DataW H) → Nat
  | [] => 0
  | x :: r => uptoBulkEntry x + uptoBulkEntries r
def uptoBulkEntry {H : Type} : Lit × DataW H → Nat
  | (.string bytes, d) => bytes.length + uptoBulk d + 1
  | (_, d) => uptoBulk d + 1
 end
def uptoSmall : (H : Type) → List (DataW H) → Bool := fun _ ds => decide (uptoBulkAll ds ≤ 1048576)
def OpenSpec.upto (s : _root_.Go.ChangeSpec) : _root_.Go.OpenSpec := { _root_.Go.OpenSpec.ofChange s with cond := some uptoSmall }

/-- 'beadlelaw01.NumberOnes', WHERE WHAT IT READS IS OF BULK AT MOST 1048576: true; the input reads as it did. -/
def numberOnesUptoRow : OpenClaim := { program := "ytenebkiiemlecaa", sum := "b89fa92046da5bf0ea89bd0b368c0181ac8702127158811ba971810fa08bd87f", func := "beadle/beadlelaw01.NumberOnes", spec := "numberOnes", inPlace := ["math.Float64frombits", "math.Float64bits", "math.archFloor", "math.archTrunc", "math.sqrt"], unfollowed := true, recurses := true, apart := false, narrowed := true }
def NumberOnesUptoSaid : Prop := numberOnesUptoRow.holds Try.pinned (OpenSpec.upto numberOnesSpec)

/-- 'beadlelaw01.NumberTwos', WHERE WHAT IT READS IS OF BULK AT MOST 1048576: true; the input reads as it did. -/
def numberTwosUptoRow : OpenClaim := { program := "ytenebkiiemlecaa", sum := "b89fa92046da5bf0ea89bd0b368c0181ac8702127158811ba971810fa08bd87f", func := "beadle/beadlelaw01.NumberTwos", spec := "numberTwos", inPlace := ["math.Float64frombits", "math.archTrunc", "math.Float64bits", "math.archFloor", "math.sqrt"], unfollowed := true, recurses := true, apart := false, narrowed := true }
def NumberTwosUptoSaid : Prop := numberTwosUptoRow.holds Try.pinned (OpenSpec.upto numberTwosSpec)

/-- 'beadlelaw01.NumberLaws', WHERE WHAT IT READS IS OF BULK AT MOST 1048576: true; the input reads as it did. -/
def numberLawsUptoRow : OpenClaim := { program := "ytenebkiiemlecaa", sum := "b89fa92046da5bf0ea89bd0b368c0181ac8702127158811ba971810fa08bd87f", func := "beadle/beadlelaw01.NumberLaws", spec := "numberLaws", inPlace := ["math.Float64frombits", "math.archTrunc", "math.Float64bits", "math.archFloor", "math.sqrt"], unfollowed := true, recurses := true, apart := false, narrowed := true }
def NumberLawsUptoSaid : Prop := numberLawsUptoRow.holds Try.pinned (OpenSpec.upto numberLawsSpec)

/-- 'beadlelaw01.NumberMods', WHERE WHAT IT READS IS OF BULK AT MOST 1048576: true; the input reads as it did. -/
def numberModsUptoRow : OpenClaim := { program := "ytenebkiiemlecaa", sum := "b89fa92046da5bf0ea89bd0b368c0181ac8702127158811ba971810fa08bd87f", func := "beadle/beadlelaw01.NumberMods", spec := "numberMods", inPlace := ["math.archTrunc", "math.Float64bits", "math.Float64frombits", "math.archFloor", "math.sqrt"], unfollowed := true, recurses := true, apart := false, narrowed := true }
def NumberModsUptoSaid : Prop := numberModsUptoRow.holds Try.pinned (OpenSpec.upto numberModsSpec)

/-- 'beadlelaw01.NumberFixes', WHERE WHAT IT READS IS OF BULK AT MOST 1048576: true; the input reads as it did. -/
def numberFixesUptoRow : OpenClaim := { program := "ytenebkiiemlecaa", sum := "b89fa92046da5bf0ea89bd0b368c0181ac8702127158811ba971810fa08bd87f", func := "beadle/beadlelaw01.NumberFixes", spec := "numberFixes", inPlace := ["math.Float64frombits", "math.Float64bits", "math.archTrunc", "math.archFloor", "math.sqrt"], unfollowed := true, recurses := true, apart := false, narrowed := true }
def NumberFixesUptoSaid : Prop := numberFixesUptoRow.holds Try.pinned (OpenSpec.upto numberFixesSpec)

/-- 'beadlelaw01.NumberIndexes', WHERE WHAT IT READS IS OF BULK AT MOST 1048576: true; the input reads as it did. -/
def numberIndexesUptoRow : OpenClaim := { program := "ytenebkiiemlecaa", sum := "b89fa92046da5bf0ea89bd0b368c0181ac8702127158811ba971810fa08bd87f", func := "beadle/beadlelaw01.NumberIndexes", spec := "numberIndexes", inPlace := ["math.Float64frombits", "math.archTrunc", "math.Float64bits", "math.archFloor", "math.sqrt"], unfollowed := true, recurses := true, apart := false, narrowed := true }
def NumberIndexesUptoSaid : Prop := numberIndexesUptoRow.holds Try.pinned (OpenSpec.upto numberIndexesSpec)

/-- 'beadlelaw01.NumberHashes', WHERE WHAT IT READS IS OF BULK AT MOST 1048576: true; the input reads as it did. -/
def numberHashesUptoRow : OpenClaim := { program := "ytenebkiiemlecaa", sum := "b89fa92046da5bf0ea89bd0b368c0181ac8702127158811ba971810fa08bd87f", func := "beadle/beadlelaw01.NumberHashes", spec := "numberHashes", inPlace := ["math.Float64frombits", "math.Float64bits", "math.archFloor", "math.archTrunc", "math.sqrt"], unfollowed := true, recurses := true, apart := false, narrowed := true }
def NumberHashesUptoSaid : Prop := numberHashesUptoRow.holds Try.pinned (OpenSpec.upto numberHashesSpec)

/-- 'beadlelaw01.NumberOrder', WHERE WHAT IT READS IS OF BULK AT MOST 1048576: true; the input reads as it did. -/
def numberOrderUptoRow : OpenClaim := { program := "ytenebkiiemlecaa", sum := "b89fa92046da5bf0ea89bd0b368c0181ac8702127158811ba971810fa08bd87f", func := "beadle/beadlelaw01.NumberOrder", spec := "numberOrder", inPlace := ["math.Float64frombits", "math.Float64bits", "math.archTrunc", "math.archFloor", "math.sqrt"], unfollowed := true, recurses := true, apart := false, narrowed := true }
def NumberOrderUptoSaid : Prop := numberOrderUptoRow.holds Try.pinned (OpenSpec.upto numberOrderSpec)

/-- 'beadlelaw01.NumberNumbers', WHERE WHAT IT READS IS OF BULK AT MOST 1048576: true; the input reads as it did. -/
def numberNumbersUptoRow : OpenClaim := { program := "ytenebkiiemlecaa", sum := "b89fa92046da5bf0ea89bd0b368c0181ac8702127158811ba971810fa08bd87f", func := "beadle/beadlelaw01.NumberNumbers", spec := "numberNumbers", inPlace := ["math.Float64frombits", "math.Float64bits", "math.archFloor", "math.archTrunc", "math.sqrt"], unfollowed := true, recurses := true, apart := false, narrowed := true }
def NumberNumbersUptoSaid : Prop := numberNumbersUptoRow.holds Try.pinned (OpenSpec.upto numberNumbersSpec)

end Rows
end Go.Proofs.Ytenebkiiemlecaa
