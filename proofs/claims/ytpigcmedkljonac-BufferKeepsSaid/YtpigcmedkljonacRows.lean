/-
  No cell of these rows narrows 'for every input' (looked for: loops, veiled, ifaces, maps, wideKeys, modest, calm, conditions, laid).
  DERIVED. THE GIVEN ROWS OF THIS SEAT. 4 by the template 'for every input the law returns true; each argument reads behind the call as it read before'; 0 by the template 'total and deterministic' (their statements: YtpigcmedkljonacTotals.lean).
  GIVEN WITH THE SEED: the statements are not yours to turn. If you find one false, say at which input.
  Laid BY PROGRAM, IN A SANDBOX (cutbox-rows.mjs): the forced cells as the released guide's own fill.sh prints them over the translation 592080b43a73a2c3… (all of the seat's roots in one cut). By AI agents, Wed Nov 11 2026. No macro, syntax, notation, axiom, sorry.
-/
import Derived.Test.YtpigcmedkljonacChecked
import GoSem.Claim
import GoSem.ClaimJoined
import GoSem.ClaimMapViews
import Derived.JoinedTies
import Derived.KernelRfl
namespace Go.Proofs.Ytpigcmedkljonac
/- THE CELL 'sum', in the pinned program and in every row, IS THE sha256 OF THE DUMP (.gsa) THAT YtpigcmedkljonacProg.lean LOADS. Nothing in Lean hashes anything: it is a label: what it is worth is what the hold of that sum in a sandbox is worth. -/
noncomputable def Try.pinned : Pinned := { name := "ytpigcmedkljonac", sum := "592080b43a73a2c3d1fe37931ceca5d4a435d82d4384a9659a2ea4faee810551", checked := Try.checked }
namespace Rows
def none {H : Type} : Left H := { results := [], args := [] }

/-- 'beadlelaw07.BufferNumbers': WHATEVER THE INPUT: true; the input reads as it did. -/
def bufferNumbersSpec : ChangeSpec := { name := "bufferNumbers", fn := fun _ => fun
  | [] => { results := [.lit (.bool true)], args := [] }
  | _ => none }
def bufferNumbersRow : OpenClaim := { program := "ytpigcmedkljonac", sum := "592080b43a73a2c3d1fe37931ceca5d4a435d82d4384a9659a2ea4faee810551", func := "beadle/beadlelaw07.BufferNumbers", spec := "bufferNumbers", apart := false }
def BufferNumbersSaid : Prop := bufferNumbersRow.holds Try.pinned (OpenSpec.ofChange bufferNumbersSpec)

/-- ITS FALSE NEIGHBOUR: 'it returns false'. Refute it at one input. -/
def bufferNumbersWrong : ChangeSpec := { name := "bufferNumbers", fn := fun _ => fun
  | [] => { results := [.lit (.bool false)], args := [] }
  | _ => none }
def BufferNumbersWrongFalsely : Prop := bufferNumbersRow.holds Try.pinned (OpenSpec.ofChange bufferNumbersWrong)

/-- 'beadlelaw07.BufferKeeps': WHATEVER THE INPUT: true; the input reads as it did. -/
def bufferKeepsSpec : ChangeSpec := { name := "bufferKeeps", fn := fun _ => fun
  | [d1, d2] => { results := [.lit (.bool true)], args := [d1, d2] }
  | _ => none }
def bufferKeepsRow : OpenClaim := { program := "ytpigcmedkljonac", sum := "592080b43a73a2c3d1fe37931ceca5d4a435d82d4384a9659a2ea4faee810551", func := "beadle/beadlelaw07.BufferKeeps", spec := "bufferKeeps", inPlace := ["math.Float64frombits", "math.Float64bits"], apart := false }
def BufferKeepsSaid : Prop := bufferKeepsRow.holds Try.pinned (OpenSpec.ofChange bufferKeepsSpec)

/-- ITS FALSE NEIGHBOUR: 'it returns false'. Refute it at one input. -/
def bufferKeepsWrong : ChangeSpec := { name := "bufferKeeps", fn := fun _ => fun
  | [d1, d2] => { results := [.lit (.bool false)], args := [d1, d2] }
  | _ => none }
def BufferKeepsWrongFalsely : Prop := bufferKeepsRow.holds Try.pinned (OpenSpec.ofChange bufferKeepsWrong)

/-- 'beadlelaw07.BufferFresh': WHATEVER THE INPUT: true; the input reads as it did. -/
def bufferFreshSpec : ChangeSpec := { name := "bufferFresh", fn := fun _ => fun
  | [d1, d2] => { results := [.lit (.bool true)], args := [d1, d2] }
  | _ => none }
def bufferFreshRow : OpenClaim := { program := "ytpigcmedkljonac", sum := "592080b43a73a2c3d1fe37931ceca5d4a435d82d4384a9659a2ea4faee810551", func := "beadle/beadlelaw07.BufferFresh", spec := "bufferFresh", inPlace := ["math.Float64frombits", "math.Float64bits"], apart := false }
def BufferFreshSaid : Prop := bufferFreshRow.holds Try.pinned (OpenSpec.ofChange bufferFreshSpec)

/-- ITS FALSE NEIGHBOUR: 'it returns false'. Refute it at one input. -/
def bufferFreshWrong : ChangeSpec := { name := "bufferFresh", fn := fun _ => fun
  | [d1, d2] => { results := [.lit (.bool false)], args := [d1, d2] }
  | _ => none }
def BufferFreshWrongFalsely : Prop := bufferFreshRow.holds Try.pinned (OpenSpec.ofChange bufferFreshWrong)

/-- 'beadlelaw07.BufferPlays': WHATEVER THE INPUT: true; the input reads as it did. -/
def bufferPlaysSpec : ChangeSpec := { name := "bufferPlays", fn := fun _ => fun
  | [d1, d2] => { results := [.lit (.bool true)], args := [d1, d2] }
  | _ => none }
def bufferPlaysRow : OpenClaim := { program := "ytpigcmedkljonac", sum := "592080b43a73a2c3d1fe37931ceca5d4a435d82d4384a9659a2ea4faee810551", func := "beadle/beadlelaw07.BufferPlays", spec := "bufferPlays", inPlace := ["math.Float64frombits", "maps.clone", "math.Float64bits"], apart := false }
def BufferPlaysSaid : Prop := bufferPlaysRow.holds Try.pinned (OpenSpec.ofChange bufferPlaysSpec)

/-- ITS FALSE NEIGHBOUR: 'it returns false'. Refute it at one input. -/
def bufferPlaysWrong : ChangeSpec := { name := "bufferPlays", fn := fun _ => fun
  | [d1, d2] => { results := [.lit (.bool false)], args := [d1, d2] }
  | _ => none }
def BufferPlaysWrongFalsely : Prop := bufferPlaysRow.holds Try.pinned (OpenSpec.ofChange bufferPlaysWrong)

/- THE SECOND FORM. 'bulk': how many values and letters a reading holds, each counted each time it is reached (what is shared counts as often as it is met; a slice's spare places count too). A statement '..UptoSaid' is the law's where the arguments, and the package variables that the reading takes, are together of bulk at most 1048576: NARROWER than '..Said'. Prove '..Said' where nothing that the law and all that it calls make is longer than what came in: it says more and counts as full. Else prove '..UptoSaid'. A law counts once. -/
mutual
def uptoBulk {H : Type} : DataW H → Nat
  | .lit (.string bytes) => bytes.length + 1
  | .lit _ => 1
  | .nil => 1
  | .ptr d => uptoBulk d + 1
  | .slice elems spare => uptoBulkAll elems + uptoBulkAll spare + 1
  | .agg parts => uptoBulkAll parts + 1
  | .iface _ d => uptoBulk d + 1
  | .map entries => uptoBulkEntries entries + 1
  | .held _ => 1
def uptoBulkAll {H : Type} : List (DataW H) → Nat
  | [] => 0
  | d :: r => uptoBulk d + uptoBulkAll r
def uptoBulkEntries {H : Type} : List (Lit × DataW H) → Nat
  | [] => 0
  | x :: r => uptoBulkEntry x + uptoBulkEntries r
def uptoBulkEntry {H : Type} : Lit × DataW H → Nat
  | (.string bytes, d) => bytes.length + uptoBulk d + 1
  | (_, d) => uptoBulk d + 1
 end
def uptoSmall : (H : Type) → List (DataW H) → Bool := fun _ ds => decide (uptoBulkAll ds ≤ 1048576)
def OpenSpec.upto (s : _root_.Go.ChangeSpec) : _root_.Go.OpenSpec := { _root_.Go.OpenSpec.ofChange s with cond := some uptoSmall }

/-- 'beadlelaw07.BufferNumbers', WHERE WHAT IT READS IS OF BULK AT MOST 1048576: true; the input reads as it did. -/
def bufferNumbersUptoRow : OpenClaim := { program := "ytpigcmedkljonac", sum := "592080b43a73a2c3d1fe37931ceca5d4a435d82d4384a9659a2ea4faee810551", func := "beadle/beadlelaw07.BufferNumbers", spec := "bufferNumbers", apart := false, narrowed := true }
def BufferNumbersUptoSaid : Prop := bufferNumbersUptoRow.holds Try.pinned (OpenSpec.upto bufferNumbersSpec)

/-- 'beadlelaw07.BufferKeeps', WHERE WHAT IT READS IS OF BULK AT MOST 1048576: true; the input reads as it did. -/
def bufferKeepsUptoRow : OpenClaim := { program := "ytpigcmedkljonac", sum := "592080b43a73a2c3d1fe37931ceca5d4a435d82d4384a9659a2ea4faee810551", func := "beadle/beadlelaw07.BufferKeeps", spec := "bufferKeeps", inPlace := ["math.Float64frombits", "math.Float64bits"], apart := false, narrowed := true }
def BufferKeepsUptoSaid : Prop := bufferKeepsUptoRow.holds Try.pinned (OpenSpec.upto bufferKeepsSpec)

/-- 'beadlelaw07.BufferFresh', WHERE WHAT IT READS IS OF BULK AT MOST 1048576: true; the input reads as it did. -/
def bufferFreshUptoRow : OpenClaim := { program := "ytpigcmedkljonac", sum := "592080b43a73a2c3d1fe37931ceca5d4a435d82d4384a9659a2ea4faee810551", func := "beadle/beadlelaw07.BufferFresh", spec := "bufferFresh", inPlace := ["math.Float64frombits", "math.Float64bits"], apart := false, narrowed := true }
def BufferFreshUptoSaid : Prop := bufferFreshUptoRow.holds Try.pinned (OpenSpec.upto bufferFreshSpec)

/-- 'beadlelaw07.BufferPlays', WHERE WHAT IT READS IS OF BULK AT MOST 1048576: true; the input reads as it did. -/
def bufferPlaysUptoRow : OpenClaim := { program := "ytpigcmedkljonac", sum := "592080b43a73a2c3d1fe37931ceca5d4a435d82d4384a9659a2ea4faee810551", func := "beadle/beadlelaw07.BufferPlays", spec := "bufferPlays", inPlace := ["math.Float64frombits", "maps.clone", "math.Float64bits"], apart := false, narrowed := true }
def BufferPlaysUptoSaid : Prop := bufferPlaysUptoRow.holds Try.pinned (OpenSpec.upto bufferPlaysSpec)

end Rows
end Go.Proofs.Ytpigcmedkljonac
