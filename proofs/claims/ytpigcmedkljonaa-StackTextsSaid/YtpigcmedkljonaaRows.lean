/-
  No cell of these rows narrows 'for every input' (looked for: loops, veiled, ifaces, maps, wideKeys, modest, calm, conditions, laid).
  DERIVED. THE GIVEN ROWS OF THIS SEAT. 5 by the template 'for every input the law returns true; each argument reads behind the call as it read before'; 0 by the template 'total and deterministic' (their statements: YtpigcmedkljonaaTotals.lean).
  GIVEN WITH THE SEED: the statements are not yours to turn. If you find one false, say at which input.
  Laid BY PROGRAM, IN A SANDBOX (cutbox-rows.mjs): the forced cells as the released guide's own fill.sh prints them over the translation 8c3702ec16cf26fe… (all of the seat's roots in one cut). By AI agents, Wed Nov 11 2026. No macro, syntax, notation, axiom, sorry.
-/
import Derived.Test.YtpigcmedkljonaaChecked
import GoSem.Claim
import GoSem.ClaimJoined
import GoSem.ClaimMapViews
import Derived.JoinedTies
import Derived.KernelRfl
namespace Go.Proofs.Ytpigcmedkljonaa
/- THE CELL 'sum', in the pinned program and in every row, IS THE sha256 OF THE DUMP (.gsa) THAT YtpigcmedkljonaaProg.lean LOADS. Nothing in Lean hashes anything: it is a label: what it is worth is what the hold of that sum in a sandbox is worth. -/
noncomputable def Try.pinned : Pinned := { name := "ytpigcmedkljonaa", sum := "8c3702ec16cf26fea0f3d763296b470932e75ea3ea8262f2c0de9b064185771e", checked := Try.checked }
namespace Rows
def none {H : Type} : Left H := { results := [], args := [] }

/-- 'beadlelaw04.StackNumbers': WHATEVER THE INPUT: true; the input reads as it did. -/
def stackNumbersSpec : ChangeSpec := { name := "stackNumbers", fn := fun _ => fun
  | [] => { results := [.lit (.bool true)], args := [] }
  | _ => none }
def stackNumbersRow : OpenClaim := { program := "ytpigcmedkljonaa", sum := "8c3702ec16cf26fea0f3d763296b470932e75ea3ea8262f2c0de9b064185771e", func := "beadle/beadlelaw04.StackNumbers", spec := "stackNumbers", apart := false }
def StackNumbersSaid : Prop := stackNumbersRow.holds Try.pinned (OpenSpec.ofChange stackNumbersSpec)

/-- ITS FALSE NEIGHBOUR: 'it returns false'. Refute it at one input. -/
def stackNumbersWrong : ChangeSpec := { name := "stackNumbers", fn := fun _ => fun
  | [] => { results := [.lit (.bool false)], args := [] }
  | _ => none }
def StackNumbersWrongFalsely : Prop := stackNumbersRow.holds Try.pinned (OpenSpec.ofChange stackNumbersWrong)

/-- 'beadlelaw04.StackBack': WHATEVER THE INPUT: true; the input reads as it did. -/
def stackBackSpec : ChangeSpec := { name := "stackBack", fn := fun _ => fun
  | [d1, d2] => { results := [.lit (.bool true)], args := [d1, d2] }
  | _ => none }
def stackBackRow : OpenClaim := { program := "ytpigcmedkljonaa", sum := "8c3702ec16cf26fea0f3d763296b470932e75ea3ea8262f2c0de9b064185771e", func := "beadle/beadlelaw04.StackBack", spec := "stackBack", apart := false }
def StackBackSaid : Prop := stackBackRow.holds Try.pinned (OpenSpec.ofChange stackBackSpec)

/-- ITS FALSE NEIGHBOUR: 'it returns false'. Refute it at one input. -/
def stackBackWrong : ChangeSpec := { name := "stackBack", fn := fun _ => fun
  | [d1, d2] => { results := [.lit (.bool false)], args := [d1, d2] }
  | _ => none }
def StackBackWrongFalsely : Prop := stackBackRow.holds Try.pinned (OpenSpec.ofChange stackBackWrong)

/-- 'beadlelaw04.StackFresh': WHATEVER THE INPUT: true; the input reads as it did. -/
def stackFreshSpec : ChangeSpec := { name := "stackFresh", fn := fun _ => fun
  | [d1, d2] => { results := [.lit (.bool true)], args := [d1, d2] }
  | _ => none }
def stackFreshRow : OpenClaim := { program := "ytpigcmedkljonaa", sum := "8c3702ec16cf26fea0f3d763296b470932e75ea3ea8262f2c0de9b064185771e", func := "beadle/beadlelaw04.StackFresh", spec := "stackFresh", apart := false }
def StackFreshSaid : Prop := stackFreshRow.holds Try.pinned (OpenSpec.ofChange stackFreshSpec)

/-- ITS FALSE NEIGHBOUR: 'it returns false'. Refute it at one input. -/
def stackFreshWrong : ChangeSpec := { name := "stackFresh", fn := fun _ => fun
  | [d1, d2] => { results := [.lit (.bool false)], args := [d1, d2] }
  | _ => none }
def StackFreshWrongFalsely : Prop := stackFreshRow.holds Try.pinned (OpenSpec.ofChange stackFreshWrong)

/-- 'beadlelaw04.StackPlays': WHATEVER THE INPUT: true; the input reads as it did. -/
def stackPlaysSpec : ChangeSpec := { name := "stackPlays", fn := fun _ => fun
  | [d1, d2] => { results := [.lit (.bool true)], args := [d1, d2] }
  | _ => none }
def stackPlaysRow : OpenClaim := { program := "ytpigcmedkljonaa", sum := "8c3702ec16cf26fea0f3d763296b470932e75ea3ea8262f2c0de9b064185771e", func := "beadle/beadlelaw04.StackPlays", spec := "stackPlays", apart := false }
def StackPlaysSaid : Prop := stackPlaysRow.holds Try.pinned (OpenSpec.ofChange stackPlaysSpec)

/-- ITS FALSE NEIGHBOUR: 'it returns false'. Refute it at one input. -/
def stackPlaysWrong : ChangeSpec := { name := "stackPlays", fn := fun _ => fun
  | [d1, d2] => { results := [.lit (.bool false)], args := [d1, d2] }
  | _ => none }
def StackPlaysWrongFalsely : Prop := stackPlaysRow.holds Try.pinned (OpenSpec.ofChange stackPlaysWrong)

/-- 'beadlelaw04.StackTexts': WHATEVER THE INPUT: true; the input reads as it did. -/
def stackTextsSpec : ChangeSpec := { name := "stackTexts", fn := fun _ => fun
  | [d1, d2] => { results := [.lit (.bool true)], args := [d1, d2] }
  | _ => none }
def stackTextsRow : OpenClaim := { program := "ytpigcmedkljonaa", sum := "8c3702ec16cf26fea0f3d763296b470932e75ea3ea8262f2c0de9b064185771e", func := "beadle/beadlelaw04.StackTexts", spec := "stackTexts", apart := false }
def StackTextsSaid : Prop := stackTextsRow.holds Try.pinned (OpenSpec.ofChange stackTextsSpec)

/-- ITS FALSE NEIGHBOUR: 'it returns false'. Refute it at one input. -/
def stackTextsWrong : ChangeSpec := { name := "stackTexts", fn := fun _ => fun
  | [d1, d2] => { results := [.lit (.bool false)], args := [d1, d2] }
  | _ => none }
def StackTextsWrongFalsely : Prop := stackTextsRow.holds Try.pinned (OpenSpec.ofChange stackTextsWrong)

/- THE SECOND FORM. 'bulk': how many values and letters a reading holds, each counted each time it is reached (what is shared counts as often as it is met; a slice's spare places count too). A statement '..UptoSaid' is the law's where the arguments, and the package variables that the reading takes, are together of bulk at most 1048576: NARROWER than '..Said'. Prove '..Said' where nothing that the law and all that it calls make is longer than what came in: it says more and counts as full. Else prove '..UptoSaid'. A law counts once. -/
mutual
def uptoBulk {H : Type} : DataW H → Nat
  | .lit (.string bytes) => bytes.length + 1
  | .lit _ => 1
  | .nil => 1
  | .ptr d => uptoBulk d + 1
  | .slice elems spare => uptoBulkAll elems + uptoBulkAll spare + 1
  | .agg parts => uptoBulkAll parts + 1
  | .iface _ d => uptoBulk d + 1
  | .map entries => uptoBulkEntries entries + 1
  | .held _ => 1
def uptoBulkAll {H : Type} : List (DataW H) → Nat
  | [] => 0
  | d :: r => uptoBulk d + uptoBulkAll r
def uptoBulkEntries {H : Type} : List (Lit × DataW H) → Nat
  | [] => 0
  | x :: r => uptoBulkEntry x + uptoBulkEntries r
def uptoBulkEntry {H : Type} : Lit × DataW H → Nat
  | (.string bytes, d) => bytes.length + uptoBulk d + 1
  | (_, d) => uptoBulk d + 1
 end
def uptoSmall : (H : Type) → List (DataW H) → Bool := fun _ ds => decide (uptoBulkAll ds ≤ 1048576)
def OpenSpec.upto (s : _root_.Go.ChangeSpec) : _root_.Go.OpenSpec := { _root_.Go.OpenSpec.ofChange s with cond := some uptoSmall }

/-- 'beadlelaw04.StackNumbers', WHERE WHAT IT READS IS OF BULK AT MOST 1048576: true; the input reads as it did. -/
def stackNumbersUptoRow : OpenClaim := { program := "ytpigcmedkljonaa", sum := "8c3702ec16cf26fea0f3d763296b470932e75ea3ea8262f2c0de9b064185771e", func := "beadle/beadlelaw04.StackNumbers", spec := "stackNumbers", apart := false, narrowed := true }
def StackNumbersUptoSaid : Prop := stackNumbersUptoRow.holds Try.pinned (OpenSpec.upto stackNumbersSpec)

/-- 'beadlelaw04.StackBack', WHERE WHAT IT READS IS OF BULK AT MOST 1048576: true; the input reads as it did. -/
def stackBackUptoRow : OpenClaim := { program := "ytpigcmedkljonaa", sum := "8c3702ec16cf26fea0f3d763296b470932e75ea3ea8262f2c0de9b064185771e", func := "beadle/beadlelaw04.StackBack", spec := "stackBack", apart := false, narrowed := true }
def StackBackUptoSaid : Prop := stackBackUptoRow.holds Try.pinned (OpenSpec.upto stackBackSpec)

/-- 'beadlelaw04.StackFresh', WHERE WHAT IT READS IS OF BULK AT MOST 1048576: true; the input reads as it did. -/
def stackFreshUptoRow : OpenClaim := { program := "ytpigcmedkljonaa", sum := "8c3702ec16cf26fea0f3d763296b470932e75ea3ea8262f2c0de9b064185771e", func := "beadle/beadlelaw04.StackFresh", spec := "stackFresh", apart := false, narrowed := true }
def StackFreshUptoSaid : Prop := stackFreshUptoRow.holds Try.pinned (OpenSpec.upto stackFreshSpec)

/-- 'beadlelaw04.StackPlays', WHERE WHAT IT READS IS OF BULK AT MOST 1048576: true; the input reads as it did. -/
def stackPlaysUptoRow : OpenClaim := { program := "ytpigcmedkljonaa", sum := "8c3702ec16cf26fea0f3d763296b470932e75ea3ea8262f2c0de9b064185771e", func := "beadle/beadlelaw04.StackPlays", spec := "stackPlays", apart := false, narrowed := true }
def StackPlaysUptoSaid : Prop := stackPlaysUptoRow.holds Try.pinned (OpenSpec.upto stackPlaysSpec)

/-- 'beadlelaw04.StackTexts', WHERE WHAT IT READS IS OF BULK AT MOST 1048576: true; the input reads as it did. -/
def stackTextsUptoRow : OpenClaim := { program := "ytpigcmedkljonaa", sum := "8c3702ec16cf26fea0f3d763296b470932e75ea3ea8262f2c0de9b064185771e", func := "beadle/beadlelaw04.StackTexts", spec := "stackTexts", apart := false, narrowed := true }
def StackTextsUptoSaid : Prop := stackTextsUptoRow.holds Try.pinned (OpenSpec.upto stackTextsSpec)

end Rows
end Go.Proofs.Ytpigcmedkljonaa
