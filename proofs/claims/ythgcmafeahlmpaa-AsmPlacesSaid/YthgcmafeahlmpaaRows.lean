/-
  No cell of these rows narrows 'for every input' (looked for: loops, veiled, ifaces, maps, wideKeys, modest, calm, conditions, laid).
  DERIVED. THE GIVEN ROWS OF THIS SEAT. 3 by the template 'for every input the law returns true; each argument reads behind the call as it read before'; 0 by the template 'total and deterministic' (their statements: YthgcmafeahlmpaaTotals.lean).
  GIVEN WITH THE SEED: the statements are not yours to turn. If you find one false, say at which input.
  Laid BY PROGRAM, IN A SANDBOX (cutbox-rows.mjs): the forced cells as the released guide's own fill.sh prints them over the translation 89bed37a996d575e… (all of the seat's roots in one cut). By AI agents, Wed Nov 11 2026. No macro, syntax, notation, axiom, sorry.
-/
import Derived.Test.YthgcmafeahlmpaaChecked
import GoSem.Claim
import GoSem.ClaimJoined
import GoSem.ClaimMapViews
import Derived.JoinedTies
import Derived.KernelRfl
namespace Go.Proofs.Ythgcmafeahlmpaa
/- THE CELL 'sum', in the pinned program and in every row, IS THE sha256 OF THE DUMP (.gsa) THAT YthgcmafeahlmpaaProg.lean LOADS. Nothing in Lean hashes anything: it is a label: what it is worth is what the hold of that sum in a sandbox is worth. -/
noncomputable def Try.pinned : Pinned := { name := "ythgcmafeahlmpaa", sum := "89bed37a996d575e54bf6d08a58b61c75a495baf88b2f5be5628f32b8842c118", checked := Try.checked }
namespace Rows
def none {H : Type} : Left H := { results := [], args := [] }

/-- 'beadlelaw19.AsmBuilds': WHATEVER THE INPUT: true; the input reads as it did. -/
def asmBuildsSpec : ChangeSpec := { name := "asmBuilds", fn := fun _ => fun
  | [d1, d2] => { results := [.lit (.bool true)], args := [d1, d2] }
  | _ => none }
def asmBuildsRow : OpenClaim := { program := "ythgcmafeahlmpaa", sum := "89bed37a996d575e54bf6d08a58b61c75a495baf88b2f5be5628f32b8842c118", func := "beadle/beadlelaw19.AsmBuilds", spec := "asmBuilds", inPlace := ["math.Float64frombits", "math.Float64bits"], unfollowed := true, recurses := true, apart := false }
def AsmBuildsSaid : Prop := asmBuildsRow.holds Try.pinned (OpenSpec.ofChange asmBuildsSpec)

/-- ITS FALSE NEIGHBOUR: 'it returns false'. Refute it at one input. -/
def asmBuildsWrong : ChangeSpec := { name := "asmBuilds", fn := fun _ => fun
  | [d1, d2] => { results := [.lit (.bool false)], args := [d1, d2] }
  | _ => none }
def AsmBuildsWrongFalsely : Prop := asmBuildsRow.holds Try.pinned (OpenSpec.ofChange asmBuildsWrong)

/-- 'beadlelaw19.AsmTwo': WHATEVER THE INPUT: true; the input reads as it did. -/
def asmTwoSpec : ChangeSpec := { name := "asmTwo", fn := fun _ => fun
  | [d] => { results := [.lit (.bool true)], args := [d] }
  | _ => none }
def asmTwoRow : OpenClaim := { program := "ythgcmafeahlmpaa", sum := "89bed37a996d575e54bf6d08a58b61c75a495baf88b2f5be5628f32b8842c118", func := "beadle/beadlelaw19.AsmTwo", spec := "asmTwo", inPlace := ["math.Float64frombits", "math.Float64bits"], unfollowed := true, recurses := true, apart := false }
def AsmTwoSaid : Prop := asmTwoRow.holds Try.pinned (OpenSpec.ofChange asmTwoSpec)

/-- ITS FALSE NEIGHBOUR: 'it returns false'. Refute it at one input. -/
def asmTwoWrong : ChangeSpec := { name := "asmTwo", fn := fun _ => fun
  | [d] => { results := [.lit (.bool false)], args := [d] }
  | _ => none }
def AsmTwoWrongFalsely : Prop := asmTwoRow.holds Try.pinned (OpenSpec.ofChange asmTwoWrong)

/-- 'beadlelaw19.AsmPlaces': WHATEVER THE INPUT: true; the input reads as it did. -/
def asmPlacesSpec : ChangeSpec := { name := "asmPlaces", fn := fun _ => fun
  | [d] => { results := [.lit (.bool true)], args := [d] }
  | _ => none }
def asmPlacesRow : OpenClaim := { program := "ythgcmafeahlmpaa", sum := "89bed37a996d575e54bf6d08a58b61c75a495baf88b2f5be5628f32b8842c118", func := "beadle/beadlelaw19.AsmPlaces", spec := "asmPlaces", inPlace := ["math.Float64frombits", "math.Float64bits"], unfollowed := true, recurses := true, apart := false }
def AsmPlacesSaid : Prop := asmPlacesRow.holds Try.pinned (OpenSpec.ofChange asmPlacesSpec)

/-- ITS FALSE NEIGHBOUR: 'it returns false'. Refute it at one input. -/
def asmPlacesWrong : ChangeSpec := { name := "asmPlaces", fn := fun _ => fun
  | [d] => { results := [.lit (.bool false)], args := [d] }
  | _ => none }
def AsmPlacesWrongFalsely : Prop := asmPlacesRow.holds Try.pinned (OpenSpec.ofChange asmPlacesWrong)

/- THE SECOND FORM. 'bulk': how many values and letters a reading holds, each counted each time it is reached (what is shared counts as often as it is met; a slice's spare places count too). A statement '..UptoSaid' is the law's where the arguments, and the package variables that the reading takes, are together of bulk at most 1048576: NARROWER than '..Said'. Prove '..Said' where nothing that the law and all that it calls make is longer than what came in: it says more and counts as full. Else prove '..UptoSaid'. A law counts once. -/
mutual
def uptoBulk {H : Type} : DataW H → Nat
  | .lit (.string bytes) => bytes.length + 1
  | .lit _ => 1
  | .nil => 1
  | .ptr d => uptoBulk d + 1
  | .slice elems spare => uptoBulkAll elems + uptoBulkAll spare + 1
  | .agg parts => uptoBulkAll parts + 1
  | .iface _ d => uptoBulk d + 1
  | .map entries => uptoBulkEntries entries + 1
  | .held _ => 1
def uptoBulkAll {H : Type} : List (DataW H) → Nat
  | [] => 0
  | d :: r => uptoBulk d + uptoBulkAll r
def uptoBulkEntries {H : Type} : List (Lit × DataW H) → Nat
  | [] => 0
  | x :: r => uptoBulkEntry x + uptoBulkEntries r
def uptoBulkEntry {H : Type} : Lit × DataW H → Nat
  | (.string bytes, d) => bytes.length + uptoBulk d + 1
  | (_, d) => uptoBulk d + 1
 end
def uptoSmall : (H : Type) → List (DataW H) → Bool := fun _ ds => decide (uptoBulkAll ds ≤ 1048576)
def OpenSpec.upto (s : _root_.Go.ChangeSpec) : _root_.Go.OpenSpec := { _root_.Go.OpenSpec.ofChange s with cond := some uptoSmall }

/-- 'beadlelaw19.AsmBuilds', WHERE WHAT IT READS IS OF BULK AT MOST 1048576: true; the input reads as it did. -/
def asmBuildsUptoRow : OpenClaim := { program := "ythgcmafeahlmpaa", sum := "89bed37a996d575e54bf6d08a58b61c75a495baf88b2f5be5628f32b8842c118", func := "beadle/beadlelaw19.AsmBuilds", spec := "asmBuilds", inPlace := ["math.Float64frombits", "math.Float64bits"], unfollowed := true, recurses := true, apart := false, narrowed := true }
def AsmBuildsUptoSaid : Prop := asmBuildsUptoRow.holds Try.pinned (OpenSpec.upto asmBuildsSpec)

/-- 'beadlelaw19.AsmTwo', WHERE WHAT IT READS IS OF BULK AT MOST 1048576: true; the input reads as it did. -/
def asmTwoUptoRow : OpenClaim := { program := "ythgcmafeahlmpaa", sum := "89bed37a996d575e54bf6d08a58b61c75a495baf88b2f5be5628f32b8842c118", func := "beadle/beadlelaw19.AsmTwo", spec := "asmTwo", inPlace := ["math.Float64frombits", "math.Float64bits"], unfollowed := true, recurses := true, apart := false, narrowed := true }
def AsmTwoUptoSaid : Prop := asmTwoUptoRow.holds Try.pinned (OpenSpec.upto asmTwoSpec)

/-- 'beadlelaw19.AsmPlaces', WHERE WHAT IT READS IS OF BULK AT MOST 1048576: true; the input reads as it did. -/
def asmPlacesUptoRow : OpenClaim := { program := "ythgcmafeahlmpaa", sum := "89bed37a996d575e54bf6d08a58b61c75a495baf88b2f5be5628f32b8842c118", func := "beadle/beadlelaw19.AsmPlaces", spec := "asmPlaces", inPlace := ["math.Float64frombits", "math.Float64bits"], unfollowed := true, recurses := true, apart := false, narrowed := true }
def AsmPlacesUptoSaid : Prop := asmPlacesUptoRow.holds Try.pinned (OpenSpec.upto asmPlacesSpec)

end Rows
end Go.Proofs.Ythgcmafeahlmpaa
