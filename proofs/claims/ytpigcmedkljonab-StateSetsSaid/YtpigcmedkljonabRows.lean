/-
  No cell of these rows narrows 'for every input' (looked for: loops, veiled, ifaces, maps, wideKeys, modest, calm, conditions, laid).
  DERIVED. THE GIVEN ROWS OF THIS SEAT. 5 by the template 'for every input the law returns true; each argument reads behind the call as it read before'; 0 by the template 'total and deterministic' (their statements: YtpigcmedkljonabTotals.lean).
  GIVEN WITH THE SEED: the statements are not yours to turn. If you find one false, say at which input.
  Laid BY PROGRAM, IN A SANDBOX (cutbox-rows.mjs): the forced cells as the released guide's own fill.sh prints them over the translation a133afa266307c07… (all of the seat's roots in one cut). By AI agents, Wed Nov 11 2026. No macro, syntax, notation, axiom, sorry.
-/
import Derived.Test.YtpigcmedkljonabChecked
import GoSem.Claim
import GoSem.ClaimJoined
import GoSem.ClaimMapViews
import Derived.JoinedTies
import Derived.KernelRfl
namespace Go.Proofs.Ytpigcmedkljonab
/- THE CELL 'sum', in the pinned program and in every row, IS THE sha256 OF THE DUMP (.gsa) THAT YtpigcmedkljonabProg.lean LOADS. Nothing in Lean hashes anything: it is a label: what it is worth is what the hold of that sum in a sandbox is worth. -/
noncomputable def Try.pinned : Pinned := { name := "ytpigcmedkljonab", sum := "a133afa266307c0702ac78ed4b03d340c5f8f028f0b5943ea67ff7940d528ab4", checked := Try.checked }
namespace Rows
def none {H : Type} : Left H := { results := [], args := [] }

/-- 'beadlelaw06.StateNumbers': WHATEVER THE INPUT: true; the input reads as it did. -/
def stateNumbersSpec : ChangeSpec := { name := "stateNumbers", fn := fun _ => fun
  | [] => { results := [.lit (.bool true)], args := [] }
  | _ => none }
def stateNumbersRow : OpenClaim := { program := "ytpigcmedkljonab", sum := "a133afa266307c0702ac78ed4b03d340c5f8f028f0b5943ea67ff7940d528ab4", func := "beadle/beadlelaw06.StateNumbers", spec := "stateNumbers", apart := false }
def StateNumbersSaid : Prop := stateNumbersRow.holds Try.pinned (OpenSpec.ofChange stateNumbersSpec)

/-- ITS FALSE NEIGHBOUR: 'it returns false'. Refute it at one input. -/
def stateNumbersWrong : ChangeSpec := { name := "stateNumbers", fn := fun _ => fun
  | [] => { results := [.lit (.bool false)], args := [] }
  | _ => none }
def StateNumbersWrongFalsely : Prop := stateNumbersRow.holds Try.pinned (OpenSpec.ofChange stateNumbersWrong)

/-- 'beadlelaw06.StateFresh': WHATEVER THE INPUT: true; the input reads as it did. -/
def stateFreshSpec : ChangeSpec := { name := "stateFresh", fn := fun _ => fun
  | [d] => { results := [.lit (.bool true)], args := [d] }
  | _ => none }
def stateFreshRow : OpenClaim := { program := "ytpigcmedkljonab", sum := "a133afa266307c0702ac78ed4b03d340c5f8f028f0b5943ea67ff7940d528ab4", func := "beadle/beadlelaw06.StateFresh", spec := "stateFresh", inPlace := ["math.Float64frombits", "math.Float64bits"], apart := false }
def StateFreshSaid : Prop := stateFreshRow.holds Try.pinned (OpenSpec.ofChange stateFreshSpec)

/-- ITS FALSE NEIGHBOUR: 'it returns false'. Refute it at one input. -/
def stateFreshWrong : ChangeSpec := { name := "stateFresh", fn := fun _ => fun
  | [d] => { results := [.lit (.bool false)], args := [d] }
  | _ => none }
def StateFreshWrongFalsely : Prop := stateFreshRow.holds Try.pinned (OpenSpec.ofChange stateFreshWrong)

/-- 'beadlelaw06.StateSets': WHATEVER THE INPUT: true; the input reads as it did. -/
def stateSetsSpec : ChangeSpec := { name := "stateSets", fn := fun _ => fun
  | [d1, d2, d3] => { results := [.lit (.bool true)], args := [d1, d2, d3] }
  | _ => none }
def stateSetsRow : OpenClaim := { program := "ytpigcmedkljonab", sum := "a133afa266307c0702ac78ed4b03d340c5f8f028f0b5943ea67ff7940d528ab4", func := "beadle/beadlelaw06.StateSets", spec := "stateSets", inPlace := ["math.Float64frombits", "math.Float64bits"], apart := false }
def StateSetsSaid : Prop := stateSetsRow.holds Try.pinned (OpenSpec.ofChange stateSetsSpec)

/-- ITS FALSE NEIGHBOUR: 'it returns false'. Refute it at one input. -/
def stateSetsWrong : ChangeSpec := { name := "stateSets", fn := fun _ => fun
  | [d1, d2, d3] => { results := [.lit (.bool false)], args := [d1, d2, d3] }
  | _ => none }
def StateSetsWrongFalsely : Prop := stateSetsRow.holds Try.pinned (OpenSpec.ofChange stateSetsWrong)

/-- 'beadlelaw06.StatePlays': WHATEVER THE INPUT: true; the input reads as it did. -/
def statePlaysSpec : ChangeSpec := { name := "statePlays", fn := fun _ => fun
  | [d1, d2] => { results := [.lit (.bool true)], args := [d1, d2] }
  | _ => none }
def statePlaysRow : OpenClaim := { program := "ytpigcmedkljonab", sum := "a133afa266307c0702ac78ed4b03d340c5f8f028f0b5943ea67ff7940d528ab4", func := "beadle/beadlelaw06.StatePlays", spec := "statePlays", inPlace := ["math.Float64frombits", "math.Float64bits"], apart := false }
def StatePlaysSaid : Prop := statePlaysRow.holds Try.pinned (OpenSpec.ofChange statePlaysSpec)

/-- ITS FALSE NEIGHBOUR: 'it returns false'. Refute it at one input. -/
def statePlaysWrong : ChangeSpec := { name := "statePlays", fn := fun _ => fun
  | [d1, d2] => { results := [.lit (.bool false)], args := [d1, d2] }
  | _ => none }
def StatePlaysWrongFalsely : Prop := statePlaysRow.holds Try.pinned (OpenSpec.ofChange statePlaysWrong)

/-- 'beadlelaw06.StateMakes': WHATEVER THE INPUT: true; the input reads as it did. -/
def stateMakesSpec : ChangeSpec := { name := "stateMakes", fn := fun _ => fun
  | [d1, d2] => { results := [.lit (.bool true)], args := [d1, d2] }
  | _ => none }
def stateMakesRow : OpenClaim := { program := "ytpigcmedkljonab", sum := "a133afa266307c0702ac78ed4b03d340c5f8f028f0b5943ea67ff7940d528ab4", func := "beadle/beadlelaw06.StateMakes", spec := "stateMakes", inPlace := ["math.Float64frombits", "math.Float64bits"], apart := false }
def StateMakesSaid : Prop := stateMakesRow.holds Try.pinned (OpenSpec.ofChange stateMakesSpec)

/-- ITS FALSE NEIGHBOUR: 'it returns false'. Refute it at one input. -/
def stateMakesWrong : ChangeSpec := { name := "stateMakes", fn := fun _ => fun
  | [d1, d2] => { results := [.lit (.bool false)], args := [d1, d2] }
  | _ => none }
def StateMakesWrongFalsely : Prop := stateMakesRow.holds Try.pinned (OpenSpec.ofChange stateMakesWrong)

/- THE SECOND FORM. 'bulk': how many values and letters a reading holds, each counted each time it is reached (what is shared counts as often as it is met; a slice's spare places count too). A statement '..UptoSaid' is the law's where the arguments, and the package variables that the reading takes, are together of bulk at most 1048576: NARROWER than '..Said'. Prove '..Said' where nothing that the law and all that it calls make is longer than what came in: it says more and counts as full. Else prove '..UptoSaid'. A law counts once. -/
mutual
def uptoBulk {H : Type} : DataW H → Nat
  | .lit (.string bytes) => bytes.length + 1
  | .lit _ => 1
  | .nil => 1
  | .ptr d => uptoBulk d + 1
  | .slice elems spare => uptoBulkAll elems + uptoBulkAll spare + 1
  | .agg parts => uptoBulkAll parts + 1
  | .iface _ d => uptoBulk d + 1
  | .map entries => uptoBulkEntries entries + 1
  | .held _ => 1
def uptoBulkAll {H : Type} : List (DataW H) → Nat
  | [] => 0
  | d :: r => uptoBulk d + uptoBulkAll r
def uptoBulkEntries {H : Type} : List (Lit × DataW H) → Nat
  | [] => 0
  | x :: r => uptoBulkEntry x + uptoBulkEntries r
def uptoBulkEntry {H : Type} : Lit × DataW H → Nat
  | (.string bytes, d) => bytes.length + uptoBulk d + 1
  | (_, d) => uptoBulk d + 1
 end
def uptoSmall : (H : Type) → List (DataW H) → Bool := fun _ ds => decide (uptoBulkAll ds ≤ 1048576)
def OpenSpec.upto (s : _root_.Go.ChangeSpec) : _root_.Go.OpenSpec := { _root_.Go.OpenSpec.ofChange s with cond := some uptoSmall }

/-- 'beadlelaw06.StateNumbers', WHERE WHAT IT READS IS OF BULK AT MOST 1048576: true; the input reads as it did. -/
def stateNumbersUptoRow : OpenClaim := { program := "ytpigcmedkljonab", sum := "a133afa266307c0702ac78ed4b03d340c5f8f028f0b5943ea67ff7940d528ab4", func := "beadle/beadlelaw06.StateNumbers", spec := "stateNumbers", apart := false, narrowed := true }
def StateNumbersUptoSaid : Prop := stateNumbersUptoRow.holds Try.pinned (OpenSpec.upto stateNumbersSpec)

/-- 'beadlelaw06.StateFresh', WHERE WHAT IT READS IS OF BULK AT MOST 1048576: true; the input reads as it did. -/
def stateFreshUptoRow : OpenClaim := { program := "ytpigcmedkljonab", sum := "a133afa266307c0702ac78ed4b03d340c5f8f028f0b5943ea67ff7940d528ab4", func := "beadle/beadlelaw06.StateFresh", spec := "stateFresh", inPlace := ["math.Float64frombits", "math.Float64bits"], apart := false, narrowed := true }
def StateFreshUptoSaid : Prop := stateFreshUptoRow.holds Try.pinned (OpenSpec.upto stateFreshSpec)

/-- 'beadlelaw06.StateSets', WHERE WHAT IT READS IS OF BULK AT MOST 1048576: true; the input reads as it did. -/
def stateSetsUptoRow : OpenClaim := { program := "ytpigcmedkljonab", sum := "a133afa266307c0702ac78ed4b03d340c5f8f028f0b5943ea67ff7940d528ab4", func := "beadle/beadlelaw06.StateSets", spec := "stateSets", inPlace := ["math.Float64frombits", "math.Float64bits"], apart := false, narrowed := true }
def StateSetsUptoSaid : Prop := stateSetsUptoRow.holds Try.pinned (OpenSpec.upto stateSetsSpec)

/-- 'beadlelaw06.StatePlays', WHERE WHAT IT READS IS OF BULK AT MOST 1048576: true; the input reads as it did. -/
def statePlaysUptoRow : OpenClaim := { program := "ytpigcmedkljonab", sum := "a133afa266307c0702ac78ed4b03d340c5f8f028f0b5943ea67ff7940d528ab4", func := "beadle/beadlelaw06.StatePlays", spec := "statePlays", inPlace := ["math.Float64frombits", "math.Float64bits"], apart := false, narrowed := true }
def StatePlaysUptoSaid : Prop := statePlaysUptoRow.holds Try.pinned (OpenSpec.upto statePlaysSpec)

/-- 'beadlelaw06.StateMakes', WHERE WHAT IT READS IS OF BULK AT MOST 1048576: true; the input reads as it did. -/
def stateMakesUptoRow : OpenClaim := { program := "ytpigcmedkljonab", sum := "a133afa266307c0702ac78ed4b03d340c5f8f028f0b5943ea67ff7940d528ab4", func := "beadle/beadlelaw06.StateMakes", spec := "stateMakes", inPlace := ["math.Float64frombits", "math.Float64bits"], apart := false, narrowed := true }
def StateMakesUptoSaid : Prop := stateMakesUptoRow.holds Try.pinned (OpenSpec.upto stateMakesSpec)

end Rows
end Go.Proofs.Ytpigcmedkljonab
