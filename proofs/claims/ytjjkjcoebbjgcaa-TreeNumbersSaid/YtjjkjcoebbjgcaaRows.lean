/-
  No cell of these rows narrows 'for every input' (looked for: loops, veiled, ifaces, maps, wideKeys, modest, calm, conditions, laid).
  DERIVED. THE GIVEN ROWS OF THIS SEAT. 3 by the template 'for every input the law returns true; each argument reads behind the call as it read before'; 0 by the template 'total and deterministic' (their statements: YtjjkjcoebbjgcaaTotals.lean).
  GIVEN WITH THE SEED: the statements are not yours to turn. If you find one false, say at which input.
  Laid BY PROGRAM, IN A SANDBOX (cutbox-rows.mjs): the forced cells as the released guide's own fill.sh prints them over the translation bfe1164f246ebc7c… (all of the seat's roots in one cut). By AI agents, Wed Nov 11 2026. No macro, syntax, notation, axiom, sorry.
-/
import Derived.Test.YtjjkjcoebbjgcaaChecked
import GoSem.Claim
import GoSem.ClaimJoined
import GoSem.ClaimMapViews
import Derived.JoinedTies
import Derived.KernelRfl
namespace Go.Proofs.Ytjjkjcoebbjgcaa
/- THE CELL 'sum', in the pinned program and in every row, IS THE sha256 OF THE DUMP (.gsa) THAT YtjjkjcoebbjgcaaProg.lean LOADS. Nothing in Lean hashes anything: it is a label: what it is worth is what the hold of that sum in a sandbox is worth. -/
noncomputable def Try.pinned : Pinned := { name := "ytjjkjcoebbjgcaa", sum := "bfe1164f246ebc7c0a7401daec78fc8ab1874c9f1f38af4f0d5f84f706f7e91a", checked := Try.checked }
namespace Rows
def none {H : Type} : Left H := { results := [], args := [] }

/-- 'beadlelaw20.TreeNumbers': WHATEVER THE INPUT: true; the input reads as it did. -/
def treeNumbersSpec : ChangeSpec := { name := "treeNumbers", fn := fun _ => fun
  | [] => { results := [.lit (.bool true)], args := [] }
  | _ => none }
def treeNumbersRow : OpenClaim := { program := "ytjjkjcoebbjgcaa", sum := "bfe1164f246ebc7c0a7401daec78fc8ab1874c9f1f38af4f0d5f84f706f7e91a", func := "beadle/beadlelaw20.TreeNumbers", spec := "treeNumbers", inPlace := ["math.Float64frombits", "math.Float64bits"], unfollowed := true, recurses := true, apart := false }
def TreeNumbersSaid : Prop := treeNumbersRow.holds Try.pinned (OpenSpec.ofChange treeNumbersSpec)

/-- ITS FALSE NEIGHBOUR: 'it returns false'. Refute it at one input. -/
def treeNumbersWrong : ChangeSpec := { name := "treeNumbers", fn := fun _ => fun
  | [] => { results := [.lit (.bool false)], args := [] }
  | _ => none }
def TreeNumbersWrongFalsely : Prop := treeNumbersRow.holds Try.pinned (OpenSpec.ofChange treeNumbersWrong)

/-- 'beadlelaw22.DequeNumbers': WHATEVER THE INPUT: true; the input reads as it did. -/
def dequeNumbersSpec : ChangeSpec := { name := "dequeNumbers", fn := fun _ => fun
  | [] => { results := [.lit (.bool true)], args := [] }
  | _ => none }
def dequeNumbersRow : OpenClaim := { program := "ytjjkjcoebbjgcaa", sum := "bfe1164f246ebc7c0a7401daec78fc8ab1874c9f1f38af4f0d5f84f706f7e91a", func := "beadle/beadlelaw22.DequeNumbers", spec := "dequeNumbers", inPlace := ["math.Float64frombits", "math.Float64bits"], unfollowed := true, recurses := true, apart := false }
def DequeNumbersSaid : Prop := dequeNumbersRow.holds Try.pinned (OpenSpec.ofChange dequeNumbersSpec)

/-- ITS FALSE NEIGHBOUR: 'it returns false'. Refute it at one input. -/
def dequeNumbersWrong : ChangeSpec := { name := "dequeNumbers", fn := fun _ => fun
  | [] => { results := [.lit (.bool false)], args := [] }
  | _ => none }
def DequeNumbersWrongFalsely : Prop := dequeNumbersRow.holds Try.pinned (OpenSpec.ofChange dequeNumbersWrong)

/-- 'beadlelaw21.TableNumbers': WHATEVER THE INPUT: true; the input reads as it did. -/
def tableNumbersSpec : ChangeSpec := { name := "tableNumbers", fn := fun _ => fun
  | [] => { results := [.lit (.bool true)], args := [] }
  | _ => none }
def tableNumbersRow : OpenClaim := { program := "ytjjkjcoebbjgcaa", sum := "bfe1164f246ebc7c0a7401daec78fc8ab1874c9f1f38af4f0d5f84f706f7e91a", func := "beadle/beadlelaw21.TableNumbers", spec := "tableNumbers", inPlace := ["math.Float64frombits", "math.Float64bits"], unfollowed := true, recurses := true, apart := false }
def TableNumbersSaid : Prop := tableNumbersRow.holds Try.pinned (OpenSpec.ofChange tableNumbersSpec)

/-- ITS FALSE NEIGHBOUR: 'it returns false'. Refute it at one input. -/
def tableNumbersWrong : ChangeSpec := { name := "tableNumbers", fn := fun _ => fun
  | [] => { results := [.lit (.bool false)], args := [] }
  | _ => none }
def TableNumbersWrongFalsely : Prop := tableNumbersRow.holds Try.pinned (OpenSpec.ofChange tableNumbersWrong)

/- THE SECOND FORM. 'bulk': how many values and letters a reading holds, each counted each time it is reached (what is shared counts as often as it is met; a slice's spare places count too). A statement '..UptoSaid' is the law's where the arguments, and the package variables that the reading takes, are together of bulk at most 1048576: NARROWER than '..Said'. Prove '..Said' where nothing that the law and all that it calls make is longer than what came in: it says more and counts as full. Else prove '..UptoSaid'. A law counts once. -/
mutual
def uptoBulk {H : Type} : DataW H → Nat
  | .lit (.string bytes) => bytes.length + 1
  | .lit _ => 1
  | .nil => 1
  | .ptr d => uptoBulk d + 1
  | .slice elems spare => uptoBulkAll elems + uptoBulkAll spare + 1
  | .agg parts => uptoBulkAll parts + 1
  | .iface _ d => uptoBulk d + 1
  | .map entries => uptoBulkEntries entries + 1
  | .held _ => 1
def uptoBulkAll {H : Type} : List (DataW H) → Nat
  | [] => 0
  | d :: r => uptoBulk d + uptoBulkAll r
def uptoBulkEntries {H : Type} : List (Lit × DataW H) → Nat
  | [] => 0
  | x :: r => uptoBulkEntry x + uptoBulkEntries r
def uptoBulkEntry {H : Type} : Lit × DataW H → Nat
  | (.string bytes, d) => bytes.length + uptoBulk d + 1
  | (_, d) => uptoBulk d + 1
 end
def uptoSmall : (H : Type) → List (DataW H) → Bool := fun _ ds => decide (uptoBulkAll ds ≤ 1048576)
def OpenSpec.upto (s : _root_.Go.ChangeSpec) : _root_.Go.OpenSpec := { _root_.Go.OpenSpec.ofChange s with cond := some uptoSmall }

/-- 'beadlelaw20.TreeNumbers', WHERE WHAT IT READS IS OF BULK AT MOST 1048576: true; the input reads as it did. -/
def treeNumbersUptoRow : OpenClaim := { program := "ytjjkjcoebbjgcaa", sum := "bfe1164f246ebc7c0a7401daec78fc8ab1874c9f1f38af4f0d5f84f706f7e91a", func := "beadle/beadlelaw20.TreeNumbers", spec := "treeNumbers", inPlace := ["math.Float64frombits", "math.Float64bits"], unfollowed := true, recurses := true, apart := false, narrowed := true }
def TreeNumbersUptoSaid : Prop := treeNumbersUptoRow.holds Try.pinned (OpenSpec.upto treeNumbersSpec)

/-- 'beadlelaw22.DequeNumbers', WHERE WHAT IT READS IS OF BULK AT MOST 1048576: true; the input reads as it did. -/
def dequeNumbersUptoRow : OpenClaim := { program := "ytjjkjcoebbjgcaa", sum := "bfe1164f246ebc7c0a7401daec78fc8ab1874c9f1f38af4f0d5f84f706f7e91a", func := "beadle/beadlelaw22.DequeNumbers", spec := "dequeNumbers", inPlace := ["math.Float64frombits", "math.Float64bits"], unfollowed := true, recurses := true, apart := false, narrowed := true }
def DequeNumbersUptoSaid : Prop := dequeNumbersUptoRow.holds Try.pinned (OpenSpec.upto dequeNumbersSpec)

/-- 'beadlelaw21.TableNumbers', WHERE WHAT IT READS IS OF BULK AT MOST 1048576: true; the input reads as it did. -/
def tableNumbersUptoRow : OpenClaim := { program := "ytjjkjcoebbjgcaa", sum := "bfe1164f246ebc7c0a7401daec78fc8ab1874c9f1f38af4f0d5f84f706f7e91a", func := "beadle/beadlelaw21.TableNumbers", spec := "tableNumbers", inPlace := ["math.Float64frombits", "math.Float64bits"], unfollowed := true, recurses := true, apart := false, narrowed := true }
def TableNumbersUptoSaid : Prop := tableNumbersUptoRow.holds Try.pinned (OpenSpec.upto tableNumbersSpec)

end Rows
end Go.Proofs.Ytjjkjcoebbjgcaa
