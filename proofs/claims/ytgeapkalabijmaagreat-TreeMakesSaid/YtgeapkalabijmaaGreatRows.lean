/-
  No cell of these rows narrows 'for every input' (looked for: loops, veiled, ifaces, maps, wideKeys, modest, calm, conditions, laid).
  DERIVED. THE GIVEN ROWS OF THIS SEAT. 3 by the template 'for every input the law returns true; each argument reads behind the call as it read before'; 0 by the template 'total and deterministic' (their statements: YtgeapkalabijmaaGreatTotals.lean).
  GIVEN WITH THE SEED: the statements are not yours to turn. If you find one false, say at which input.
  Laid BY PROGRAM, IN A SANDBOX (cutbox-rows.mjs): the forced cells as the released guide's own fill.sh prints them over the translation 08767f1c406e5196… (all of the seat's roots in one cut). By AI agents, Wed Nov 11 2026. No macro, syntax, notation, axiom, sorry.
-/
import Derived.Test.YtgeapkalabijmaaGreatChecked
import GoSem.Claim
import GoSem.ClaimJoined
import GoSem.ClaimMapViews
import Derived.JoinedTies
import Derived.KernelRfl
namespace Go.Proofs.YtgeapkalabijmaaGreat
/- THE CELL 'sum', in the pinned program and in every row, IS THE sha256 OF THE DUMP (.gsa) THAT YtgeapkalabijmaaGreatProg.lean LOADS. Nothing in Lean hashes anything: it is a label: what it is worth is what the hold of that sum in a sandbox is worth. -/
noncomputable def Tryz.pinned : Pinned := { name := "ytgeapkalabijmaagreat", sum := "08767f1c406e5196e2d1841120e619b10b326f20a37b284fd64f829786348cbf", checked := Tryz.checked }
namespace Rows
def none {H : Type} : Left H := { results := [], args := [] }

/-- 'beadlelaw20.TreeMakes': WHATEVER THE INPUT: true; the input reads as it did. -/
def treeMakesSpec : ChangeSpec := { name := "treeMakes", fn := fun _ => fun
  | [d1, d2] => { results := [.lit (.bool true)], args := [d1, d2] }
  | _ => none }
def treeMakesRow : OpenClaim := { program := "ytgeapkalabijmaagreat", sum := "08767f1c406e5196e2d1841120e619b10b326f20a37b284fd64f829786348cbf", func := "beadle/beadlelaw20.TreeMakes", spec := "treeMakes", inPlace := ["math.Float64frombits", "math.Float64bits", "math.archTrunc", "math.archFloor", "math.sqrt"], unfollowed := true, recurses := true, apart := false }
def TreeMakesSaid : Prop := treeMakesRow.holds Tryz.pinned (OpenSpec.ofChange treeMakesSpec)

/-- ITS FALSE NEIGHBOUR: 'it returns false'. Refute it at one input. -/
def treeMakesWrong : ChangeSpec := { name := "treeMakes", fn := fun _ => fun
  | [d1, d2] => { results := [.lit (.bool false)], args := [d1, d2] }
  | _ => none }
def TreeMakesWrongFalsely : Prop := treeMakesRow.holds Tryz.pinned (OpenSpec.ofChange treeMakesWrong)

/-- 'beadlelaw22.DequeMakes': WHATEVER THE INPUT: true; the input reads as it did. -/
def dequeMakesSpec : ChangeSpec := { name := "dequeMakes", fn := fun _ => fun
  | [d1, d2] => { results := [.lit (.bool true)], args := [d1, d2] }
  | _ => none }
def dequeMakesRow : OpenClaim := { program := "ytgeapkalabijmaagreat", sum := "08767f1c406e5196e2d1841120e619b10b326f20a37b284fd64f829786348cbf", func := "beadle/beadlelaw22.DequeMakes", spec := "dequeMakes", inPlace := ["math.Float64frombits", "math.Float64bits", "math.archTrunc", "math.archFloor", "math.sqrt"], unfollowed := true, recurses := true, apart := false }
def DequeMakesSaid : Prop := dequeMakesRow.holds Tryz.pinned (OpenSpec.ofChange dequeMakesSpec)

/-- ITS FALSE NEIGHBOUR: 'it returns false'. Refute it at one input. -/
def dequeMakesWrong : ChangeSpec := { name := "dequeMakes", fn := fun _ => fun
  | [d1, d2] => { results := [.lit (.bool false)], args := [d1, d2] }
  | _ => none }
def DequeMakesWrongFalsely : Prop := dequeMakesRow.holds Tryz.pinned (OpenSpec.ofChange dequeMakesWrong)

/-- 'beadlelaw21.TableMakes': WHATEVER THE INPUT: true; the input reads as it did. -/
def tableMakesSpec : ChangeSpec := { name := "tableMakes", fn := fun _ => fun
  | [d1, d2] => { results := [.lit (.bool true)], args := [d1, d2] }
  | _ => none }
def tableMakesRow : OpenClaim := { program := "ytgeapkalabijmaagreat", sum := "08767f1c406e5196e2d1841120e619b10b326f20a37b284fd64f829786348cbf", func := "beadle/beadlelaw21.TableMakes", spec := "tableMakes", inPlace := ["math.Float64frombits", "math.Float64bits", "math.archTrunc", "math.archFloor", "math.sqrt"], unfollowed := true, recurses := true, apart := false }
def TableMakesSaid : Prop := tableMakesRow.holds Tryz.pinned (OpenSpec.ofChange tableMakesSpec)

/-- ITS FALSE NEIGHBOUR: 'it returns false'. Refute it at one input. -/
def tableMakesWrong : ChangeSpec := { name := "tableMakes", fn := fun _ => fun
  | [d1, d2] => { results := [.lit (.bool false)], args := [d1, d2] }
  | _ => none }
def TableMakesWrongFalsely : Prop := tableMakesRow.holds Tryz.pinned (OpenSpec.ofChange tableMakesWrong)

/- THE SECOND FORM. 'bulk': how many values and letters a reading holds, each counted each time it is reached (what is shared counts as often as it is met; a slice's spare places count too). A statement '..UptoSaid' is the law's where the arguments, and the package variables that the reading takes, are together of bulk at most 1048576: NARROWER than '..Said'. Prove '..Said' where nothing that the law and all that it calls make is longer than what came in: it says more and counts as full. Else prove '..UptoSaid'. A law counts once. -/
mutual
def uptoBulk {H : Type} : DataW H → Nat
  | .lit (.string bytes) => bytes.length + 1
  | .lit _ => 1
  | .nil => 1
  | .ptr d => uptoBulk d + 1
  | .slice elems spare => uptoBulkAll elems + uptoBulkAll spare + 1
  | .agg parts => uptoBulkAll parts + 1
  | .iface _ d => uptoBulk d + 1
  | .map entries => uptoBulkEntries entries + 1
  | .held _ => 1
def uptoBulkAll {H : Type} : List (DataW H) → Nat
  | [] => 0
  | d :: r => uptoBulk d + uptoBulkAll r
def uptoBulkEntries {H : Type} : List (Lit × DataW H) → Nat
  | [] => 0
  | x :: r => uptoBulkEntry x + uptoBulkEntries r
def uptoBulkEntry {H : Type} : Lit × DataW H → Nat
  | (.string bytes, d) => bytes.length + uptoBulk d + 1
  | (_, d) => uptoBulk d + 1
 end
def uptoSmall : (H : Type) → List (DataW H) → Bool := fun _ ds => decide (uptoBulkAll ds ≤ 1048576)
def OpenSpec.upto (s : _root_.Go.ChangeSpec) : _root_.Go.OpenSpec := { _root_.Go.OpenSpec.ofChange s with cond := some uptoSmall }

/-- 'beadlelaw20.TreeMakes', WHERE WHAT IT READS IS OF BULK AT MOST 1048576: true; the input reads as it did. -/
def treeMakesUptoRow : OpenClaim := { program := "ytgeapkalabijmaagreat", sum := "08767f1c406e5196e2d1841120e619b10b326f20a37b284fd64f829786348cbf", func := "beadle/beadlelaw20.TreeMakes", spec := "treeMakes", inPlace := ["math.Float64frombits", "math.Float64bits", "math.archTrunc", "math.archFloor", "math.sqrt"], unfollowed := true, recurses := true, apart := false, narrowed := true }
def TreeMakesUptoSaid : Prop := treeMakesUptoRow.holds Tryz.pinned (OpenSpec.upto treeMakesSpec)

/-- 'beadlelaw22.DequeMakes', WHERE WHAT IT READS IS OF BULK AT MOST 1048576: true; the input reads as it did. -/
def dequeMakesUptoRow : OpenClaim := { program := "ytgeapkalabijmaagreat", sum := "08767f1c406e5196e2d1841120e619b10b326f20a37b284fd64f829786348cbf", func := "beadle/beadlelaw22.DequeMakes", spec := "dequeMakes", inPlace := ["math.Float64frombits", "math.Float64bits", "math.archTrunc", "math.archFloor", "math.sqrt"], unfollowed := true, recurses := true, apart := false, narrowed := true }
def DequeMakesUptoSaid : Prop := dequeMakesUptoRow.holds Tryz.pinned (OpenSpec.upto dequeMakesSpec)

/-- 'beadlelaw21.TableMakes', WHERE WHAT IT READS IS OF BULK AT MOST 1048576: true; the input reads as it did. -/
def tableMakesUptoRow : OpenClaim := { program := "ytgeapkalabijmaagreat", sum := "08767f1c406e5196e2d1841120e619b10b326f20a37b284fd64f829786348cbf", func := "beadle/beadlelaw21.TableMakes", spec := "tableMakes", inPlace := ["math.Float64frombits", "math.Float64bits", "math.archTrunc", "math.archFloor", "math.sqrt"], unfollowed := true, recurses := true, apart := false, narrowed := true }
def TableMakesUptoSaid : Prop := tableMakesUptoRow.holds Tryz.pinned (OpenSpec.upto tableMakesSpec)

end Rows
end Go.Proofs.YtgeapkalabijmaaGreat
