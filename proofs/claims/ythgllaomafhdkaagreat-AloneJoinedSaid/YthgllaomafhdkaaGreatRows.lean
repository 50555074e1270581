/-
  No cell of these rows narrows 'for every input' (looked for: loops, veiled, ifaces, maps, wideKeys, modest, calm, conditions, laid).
  DERIVED. THE GIVEN ROWS OF THIS SEAT. 11 by the template 'for every input the law returns true; each argument reads behind the call as it read before'; 0 by the template 'total and deterministic' (their statements: YthgllaomafhdkaaGreatTotals.lean).
  GIVEN WITH THE SEED: the statements are not yours to turn. If you find one false, say at which input.
  Laid BY PROGRAM, IN A SANDBOX (cutbox-rows.mjs): the forced cells as the released guide's own fill.sh prints them over the translation bbb3841595c9cac3… (all of the seat's roots in one cut). By AI agents, Wed Nov 11 2026. No macro, syntax, notation, axiom, sorry.
-/
import Derived.Test.YthgllaomafhdkaaGreatChecked
import GoSem.Claim
import GoSem.ClaimJoined
import GoSem.ClaimMapViews
import Derived.JoinedTies
import Derived.KernelRfl
namespace Go.Proofs.YthgllaomafhdkaaGreat
/- THE CELL 'sum', in the pinned program and in every row, IS THE sha256 OF THE DUMP (.gsa) THAT YthgllaomafhdkaaGreatProg.lean LOADS. Nothing in Lean hashes anything: it is a label: what it is worth is what the hold of that sum in a sandbox is worth. -/
noncomputable def Tryz.pinned : Pinned := { name := "ythgllaomafhdkaagreat", sum := "bbb3841595c9cac3beb99c35c0429074505b39533da0bbcba8b43dcd23eca9f7", checked := Tryz.checked }
namespace Rows
def none {H : Type} : Left H := { results := [], args := [] }

/-- 'beadlelaw08.MachineAlike': WHATEVER THE INPUT: true; the input reads as it did. -/
def machineAlikeSpec : ChangeSpec := { name := "machineAlike", fn := fun _ => fun
  | [d1, d2, d3, d4] => { results := [.lit (.bool true)], args := [d1, d2, d3, d4] }
  | _ => none }
def machineAlikeRow : OpenClaim := { program := "ythgllaomafhdkaagreat", sum := "bbb3841595c9cac3beb99c35c0429074505b39533da0bbcba8b43dcd23eca9f7", func := "beadle/beadlelaw08.MachineAlike", spec := "machineAlike", inPlace := ["math.Float64frombits", "math.Float64bits", "math.archTrunc", "math.archFloor", "math.sqrt"], unfollowed := true, recurses := true, apart := false }
def MachineAlikeSaid : Prop := machineAlikeRow.holds Tryz.pinned (OpenSpec.ofChange machineAlikeSpec)

/-- ITS FALSE NEIGHBOUR: 'it returns false'. Refute it at one input. -/
def machineAlikeWrong : ChangeSpec := { name := "machineAlike", fn := fun _ => fun
  | [d1, d2, d3, d4] => { results := [.lit (.bool false)], args := [d1, d2, d3, d4] }
  | _ => none }
def MachineAlikeWrongFalsely : Prop := machineAlikeRow.holds Tryz.pinned (OpenSpec.ofChange machineAlikeWrong)

/-- 'beadlelaw08.MachineEnds': WHATEVER THE INPUT: true; the input reads as it did. -/
def machineEndsSpec : ChangeSpec := { name := "machineEnds", fn := fun _ => fun
  | [d1, d2, d3, d4] => { results := [.lit (.bool true)], args := [d1, d2, d3, d4] }
  | _ => none }
def machineEndsRow : OpenClaim := { program := "ythgllaomafhdkaagreat", sum := "bbb3841595c9cac3beb99c35c0429074505b39533da0bbcba8b43dcd23eca9f7", func := "beadle/beadlelaw08.MachineEnds", spec := "machineEnds", inPlace := ["math.Float64frombits", "math.Float64bits", "math.archTrunc", "math.archFloor", "math.sqrt"], unfollowed := true, recurses := true, apart := false }
def MachineEndsSaid : Prop := machineEndsRow.holds Tryz.pinned (OpenSpec.ofChange machineEndsSpec)

/-- ITS FALSE NEIGHBOUR: 'it returns false'. Refute it at one input. -/
def machineEndsWrong : ChangeSpec := { name := "machineEnds", fn := fun _ => fun
  | [d1, d2, d3, d4] => { results := [.lit (.bool false)], args := [d1, d2, d3, d4] }
  | _ => none }
def MachineEndsWrongFalsely : Prop := machineEndsRow.holds Tryz.pinned (OpenSpec.ofChange machineEndsWrong)

/-- 'beadlelaw08.MachineRuns': WHATEVER THE INPUT: true; the input reads as it did. -/
def machineRunsSpec : ChangeSpec := { name := "machineRuns", fn := fun _ => fun
  | [d1, d2, d3, d4] => { results := [.lit (.bool true)], args := [d1, d2, d3, d4] }
  | _ => none }
def machineRunsRow : OpenClaim := { program := "ythgllaomafhdkaagreat", sum := "bbb3841595c9cac3beb99c35c0429074505b39533da0bbcba8b43dcd23eca9f7", func := "beadle/beadlelaw08.MachineRuns", spec := "machineRuns", inPlace := ["math.Float64frombits", "math.Float64bits", "math.archTrunc", "math.archFloor", "math.sqrt"], unfollowed := true, recurses := true, apart := false }
def MachineRunsSaid : Prop := machineRunsRow.holds Tryz.pinned (OpenSpec.ofChange machineRunsSpec)

/-- ITS FALSE NEIGHBOUR: 'it returns false'. Refute it at one input. -/
def machineRunsWrong : ChangeSpec := { name := "machineRuns", fn := fun _ => fun
  | [d1, d2, d3, d4] => { results := [.lit (.bool false)], args := [d1, d2, d3, d4] }
  | _ => none }
def MachineRunsWrongFalsely : Prop := machineRunsRow.holds Tryz.pinned (OpenSpec.ofChange machineRunsWrong)

/-- 'beadlelaw08.MachineMoves': WHATEVER THE INPUT: true; the input reads as it did. -/
def machineMovesSpec : ChangeSpec := { name := "machineMoves", fn := fun _ => fun
  | [d1, d2, d3, d4] => { results := [.lit (.bool true)], args := [d1, d2, d3, d4] }
  | _ => none }
def machineMovesRow : OpenClaim := { program := "ythgllaomafhdkaagreat", sum := "bbb3841595c9cac3beb99c35c0429074505b39533da0bbcba8b43dcd23eca9f7", func := "beadle/beadlelaw08.MachineMoves", spec := "machineMoves", inPlace := ["math.Float64frombits", "math.Float64bits", "math.archTrunc", "math.archFloor", "math.sqrt", "maps.clone"], unfollowed := true, recurses := true, apart := false }
def MachineMovesSaid : Prop := machineMovesRow.holds Tryz.pinned (OpenSpec.ofChange machineMovesSpec)

/-- ITS FALSE NEIGHBOUR: 'it returns false'. Refute it at one input. -/
def machineMovesWrong : ChangeSpec := { name := "machineMoves", fn := fun _ => fun
  | [d1, d2, d3, d4] => { results := [.lit (.bool false)], args := [d1, d2, d3, d4] }
  | _ => none }
def MachineMovesWrongFalsely : Prop := machineMovesRow.holds Tryz.pinned (OpenSpec.ofChange machineMovesWrong)

/-- 'beadlelaw09.AloneRuns': WHATEVER THE INPUT: true; the input reads as it did. -/
def aloneRunsSpec : ChangeSpec := { name := "aloneRuns", fn := fun _ => fun
  | [d1, d2, d3, d4] => { results := [.lit (.bool true)], args := [d1, d2, d3, d4] }
  | _ => none }
def aloneRunsRow : OpenClaim := { program := "ythgllaomafhdkaagreat", sum := "bbb3841595c9cac3beb99c35c0429074505b39533da0bbcba8b43dcd23eca9f7", func := "beadle/beadlelaw09.AloneRuns", spec := "aloneRuns", inPlace := ["math.Float64frombits", "math.Float64bits", "math.archTrunc", "math.archFloor", "math.sqrt"], unfollowed := true, recurses := true, apart := false }
def AloneRunsSaid : Prop := aloneRunsRow.holds Tryz.pinned (OpenSpec.ofChange aloneRunsSpec)

/-- ITS FALSE NEIGHBOUR: 'it returns false'. Refute it at one input. -/
def aloneRunsWrong : ChangeSpec := { name := "aloneRuns", fn := fun _ => fun
  | [d1, d2, d3, d4] => { results := [.lit (.bool false)], args := [d1, d2, d3, d4] }
  | _ => none }
def AloneRunsWrongFalsely : Prop := aloneRunsRow.holds Tryz.pinned (OpenSpec.ofChange aloneRunsWrong)

/-- 'beadlelaw09.AloneQuiet': WHATEVER THE INPUT: true; the input reads as it did. -/
def aloneQuietSpec : ChangeSpec := { name := "aloneQuiet", fn := fun _ => fun
  | [d1, d2, d3, d4] => { results := [.lit (.bool true)], args := [d1, d2, d3, d4] }
  | _ => none }
def aloneQuietRow : OpenClaim := { program := "ythgllaomafhdkaagreat", sum := "bbb3841595c9cac3beb99c35c0429074505b39533da0bbcba8b43dcd23eca9f7", func := "beadle/beadlelaw09.AloneQuiet", spec := "aloneQuiet", inPlace := ["math.Float64frombits", "math.Float64bits", "math.archTrunc", "math.archFloor", "math.sqrt"], unfollowed := true, recurses := true, apart := false }
def AloneQuietSaid : Prop := aloneQuietRow.holds Tryz.pinned (OpenSpec.ofChange aloneQuietSpec)

/-- ITS FALSE NEIGHBOUR: 'it returns false'. Refute it at one input. -/
def aloneQuietWrong : ChangeSpec := { name := "aloneQuiet", fn := fun _ => fun
  | [d1, d2, d3, d4] => { results := [.lit (.bool false)], args := [d1, d2, d3, d4] }
  | _ => none }
def AloneQuietWrongFalsely : Prop := aloneQuietRow.holds Tryz.pinned (OpenSpec.ofChange aloneQuietWrong)

/-- 'beadlelaw09.AloneMore': WHATEVER THE INPUT: true; the input reads as it did. -/
def aloneMoreSpec : ChangeSpec := { name := "aloneMore", fn := fun _ => fun
  | [d1, d2, d3, d4] => { results := [.lit (.bool true)], args := [d1, d2, d3, d4] }
  | _ => none }
def aloneMoreRow : OpenClaim := { program := "ythgllaomafhdkaagreat", sum := "bbb3841595c9cac3beb99c35c0429074505b39533da0bbcba8b43dcd23eca9f7", func := "beadle/beadlelaw09.AloneMore", spec := "aloneMore", inPlace := ["math.Float64frombits", "math.Float64bits", "math.archTrunc", "math.archFloor", "math.sqrt"], unfollowed := true, recurses := true, apart := false }
def AloneMoreSaid : Prop := aloneMoreRow.holds Tryz.pinned (OpenSpec.ofChange aloneMoreSpec)

/-- ITS FALSE NEIGHBOUR: 'it returns false'. Refute it at one input. -/
def aloneMoreWrong : ChangeSpec := { name := "aloneMore", fn := fun _ => fun
  | [d1, d2, d3, d4] => { results := [.lit (.bool false)], args := [d1, d2, d3, d4] }
  | _ => none }
def AloneMoreWrongFalsely : Prop := aloneMoreRow.holds Tryz.pinned (OpenSpec.ofChange aloneMoreWrong)

/-- 'beadlelaw09.AloneTag': WHATEVER THE INPUT: true; the input reads as it did. -/
def aloneTagSpec : ChangeSpec := { name := "aloneTag", fn := fun _ => fun
  | [d1, d2, d3, d4] => { results := [.lit (.bool true)], args := [d1, d2, d3, d4] }
  | _ => none }
def aloneTagRow : OpenClaim := { program := "ythgllaomafhdkaagreat", sum := "bbb3841595c9cac3beb99c35c0429074505b39533da0bbcba8b43dcd23eca9f7", func := "beadle/beadlelaw09.AloneTag", spec := "aloneTag", inPlace := ["math.Float64frombits", "math.Float64bits", "math.archTrunc", "math.archFloor", "math.sqrt"], unfollowed := true, recurses := true, apart := false }
def AloneTagSaid : Prop := aloneTagRow.holds Tryz.pinned (OpenSpec.ofChange aloneTagSpec)

/-- ITS FALSE NEIGHBOUR: 'it returns false'. Refute it at one input. -/
def aloneTagWrong : ChangeSpec := { name := "aloneTag", fn := fun _ => fun
  | [d1, d2, d3, d4] => { results := [.lit (.bool false)], args := [d1, d2, d3, d4] }
  | _ => none }
def AloneTagWrongFalsely : Prop := aloneTagRow.holds Tryz.pinned (OpenSpec.ofChange aloneTagWrong)

/-- 'beadlelaw09.AloneFrame': WHATEVER THE INPUT: true; the input reads as it did. -/
def aloneFrameSpec : ChangeSpec := { name := "aloneFrame", fn := fun _ => fun
  | [d1, d2, d3, d4, d5, d6] => { results := [.lit (.bool true)], args := [d1, d2, d3, d4, d5, d6] }
  | _ => none }
def aloneFrameRow : OpenClaim := { program := "ythgllaomafhdkaagreat", sum := "bbb3841595c9cac3beb99c35c0429074505b39533da0bbcba8b43dcd23eca9f7", func := "beadle/beadlelaw09.AloneFrame", spec := "aloneFrame", inPlace := ["math.Float64frombits", "math.Float64bits", "math.archTrunc", "math.archFloor", "math.sqrt"], unfollowed := true, recurses := true, apart := false }
def AloneFrameSaid : Prop := aloneFrameRow.holds Tryz.pinned (OpenSpec.ofChange aloneFrameSpec)

/-- ITS FALSE NEIGHBOUR: 'it returns false'. Refute it at one input. -/
def aloneFrameWrong : ChangeSpec := { name := "aloneFrame", fn := fun _ => fun
  | [d1, d2, d3, d4, d5, d6] => { results := [.lit (.bool false)], args := [d1, d2, d3, d4, d5, d6] }
  | _ => none }
def AloneFrameWrongFalsely : Prop := aloneFrameRow.holds Tryz.pinned (OpenSpec.ofChange aloneFrameWrong)

/-- 'beadlelaw09.AloneCalls': WHATEVER THE INPUT: true; the input reads as it did. -/
def aloneCallsSpec : ChangeSpec := { name := "aloneCalls", fn := fun _ => fun
  | [d1, d2, d3, d4] => { results := [.lit (.bool true)], args := [d1, d2, d3, d4] }
  | _ => none }
def aloneCallsRow : OpenClaim := { program := "ythgllaomafhdkaagreat", sum := "bbb3841595c9cac3beb99c35c0429074505b39533da0bbcba8b43dcd23eca9f7", func := "beadle/beadlelaw09.AloneCalls", spec := "aloneCalls", inPlace := ["math.Float64frombits", "math.Float64bits", "math.archTrunc", "math.archFloor", "math.sqrt"], unfollowed := true, recurses := true, apart := false }
def AloneCallsSaid : Prop := aloneCallsRow.holds Tryz.pinned (OpenSpec.ofChange aloneCallsSpec)

/-- ITS FALSE NEIGHBOUR: 'it returns false'. Refute it at one input. -/
def aloneCallsWrong : ChangeSpec := { name := "aloneCalls", fn := fun _ => fun
  | [d1, d2, d3, d4] => { results := [.lit (.bool false)], args := [d1, d2, d3, d4] }
  | _ => none }
def AloneCallsWrongFalsely : Prop := aloneCallsRow.holds Tryz.pinned (OpenSpec.ofChange aloneCallsWrong)

/-- 'beadlelaw09.AloneJoined': WHATEVER THE INPUT: true; the input reads as it did. -/
def aloneJoinedSpec : ChangeSpec := { name := "aloneJoined", fn := fun _ => fun
  | [d1, d2, d3, d4] => { results := [.lit (.bool true)], args := [d1, d2, d3, d4] }
  | _ => none }
def aloneJoinedRow : OpenClaim := { program := "ythgllaomafhdkaagreat", sum := "bbb3841595c9cac3beb99c35c0429074505b39533da0bbcba8b43dcd23eca9f7", func := "beadle/beadlelaw09.AloneJoined", spec := "aloneJoined", inPlace := ["math.Float64frombits", "math.Float64bits", "math.archTrunc", "math.archFloor", "math.sqrt"], unfollowed := true, recurses := true, apart := false }
def AloneJoinedSaid : Prop := aloneJoinedRow.holds Tryz.pinned (OpenSpec.ofChange aloneJoinedSpec)

/-- ITS FALSE NEIGHBOUR: 'it returns false'. Refute it at one input. -/
def aloneJoinedWrong : ChangeSpec := { name := "aloneJoined", fn := fun _ => fun
  | [d1, d2, d3, d4] => { results := [.lit (.bool false)], args := [d1, d2, d3, d4] }
  | _ => none }
def AloneJoinedWrongFalsely : Prop := aloneJoinedRow.holds Tryz.pinned (OpenSpec.ofChange aloneJoinedWrong)

/- THE SECOND FORM. 'bulk': how many values and letters a reading holds, each counted each time it is reached (what is shared counts as often as it is met; a slice's spare places count too). A statement '..UptoSaid' is the law's where the arguments, and the package variables that the reading takes, are together of bulk at most 1048576: NARROWER than '..Said'. Prove '..Said' where nothing that the law and all that it calls make is longer than what came in: it says more and counts as full. Else prove '..UptoSaid'. A law counts once. -/
mutual
def uptoBulk {H : Type} : DataW H → Nat
  | .lit (.string bytes) => bytes.length + 1
  | .lit _ => 1
  | .nil => 1
  | .ptr d => uptoBulk d + 1
  | .slice elems spare => uptoBulkAll elems + uptoBulkAll spare + 1
  | .agg parts => uptoBulkAll parts + 1
  | .iface _ d => uptoBulk d + 1
  | .map entries => uptoBulkEntries entries + 1
  | .held _ => 1
def uptoBulkAll {H : Type} : List (DataW H) → Nat
  | [] => 0
  | d :: r => uptoBulk d + uptoBulkAll r
def uptoBulkEntries {H : Type} : List (Lit × DataW H) → Nat
  | [] => 0
  | x :: r => uptoBulkEntry x + uptoBulkEntries r
def uptoBulkEntry {H : Type} : Lit × DataW H → Nat
  | (.string bytes, d) => bytes.length + uptoBulk d + 1
  | (_, d) => uptoBulk d + 1
 end
def uptoSmall : (H : Type) → List (DataW H) → Bool := fun _ ds => decide (uptoBulkAll ds ≤ 1048576)
def OpenSpec.upto (s : _root_.Go.ChangeSpec) : _root_.Go.OpenSpec := { _root_.Go.OpenSpec.ofChange s with cond := some uptoSmall }

/-- 'beadlelaw08.MachineAlike', WHERE WHAT IT READS IS OF BULK AT MOST 1048576: true; the input reads as it did. -/
def machineAlikeUptoRow : OpenClaim := { program := "ythgllaomafhdkaagreat", sum := "bbb3841595c9cac3beb99c35c0429074505b39533da0bbcba8b43dcd23eca9f7", func := "beadle/beadlelaw08.MachineAlike", spec := "machineAlike", inPlace := ["math.Float64frombits", "math.Float64bits", "math.archTrunc", "math.archFloor", "math.sqrt"], unfollowed := true, recurses := true, apart := false, narrowed := true }
def MachineAlikeUptoSaid : Prop := machineAlikeUptoRow.holds Tryz.pinned (OpenSpec.upto machineAlikeSpec)

/-- 'beadlelaw08.MachineEnds', WHERE WHAT IT READS IS OF BULK AT MOST 1048576: true; the input reads as it did. -/
def machineEndsUptoRow : OpenClaim := { program := "ythgllaomafhdkaagreat", sum := "bbb3841595c9cac3beb99c35c0429074505b39533da0bbcba8b43dcd23eca9f7", func := "beadle/beadlelaw08.MachineEnds", spec := "machineEnds", inPlace := ["math.Float64frombits", "math.Float64bits", "math.archTrunc", "math.archFloor", "math.sqrt"], unfollowed := true, recurses := true, apart := false, narrowed := true }
def MachineEndsUptoSaid : Prop := machineEndsUptoRow.holds Tryz.pinned (OpenSpec.upto machineEndsSpec)

/-- 'beadlelaw08.MachineRuns', WHERE WHAT IT READS IS OF BULK AT MOST 1048576: true; the input reads as it did. -/
def machineRunsUptoRow : OpenClaim := { program := "ythgllaomafhdkaagreat", sum := "bbb3841595c9cac3beb99c35c0429074505b39533da0bbcba8b43dcd23eca9f7", func := "beadle/beadlelaw08.MachineRuns", spec := "machineRuns", inPlace := ["math.Float64frombits", "math.Float64bits", "math.archTrunc", "math.archFloor", "math.sqrt"], unfollowed := true, recurses := true, apart := false, narrowed := true }
def MachineRunsUptoSaid : Prop := machineRunsUptoRow.holds Tryz.pinned (OpenSpec.upto machineRunsSpec)

/-- 'beadlelaw08.MachineMoves', WHERE WHAT IT READS IS OF BULK AT MOST 1048576: true; the input reads as it did. -/
def machineMovesUptoRow : OpenClaim := { program := "ythgllaomafhdkaagreat", sum := "bbb3841595c9cac3beb99c35c0429074505b39533da0bbcba8b43dcd23eca9f7", func := "beadle/beadlelaw08.MachineMoves", spec := "machineMoves", inPlace := ["math.Float64frombits", "math.Float64bits", "math.archTrunc", "math.archFloor", "math.sqrt", "maps.clone"], unfollowed := true, recurses := true, apart := false, narrowed := true }
def MachineMovesUptoSaid : Prop := machineMovesUptoRow.holds Tryz.pinned (OpenSpec.upto machineMovesSpec)

/-- 'beadlelaw09.AloneRuns', WHERE WHAT IT READS IS OF BULK AT MOST 1048576: true; the input reads as it did. -/
def aloneRunsUptoRow : OpenClaim := { program := "ythgllaomafhdkaagreat", sum := "bbb3841595c9cac3beb99c35c0429074505b39533da0bbcba8b43dcd23eca9f7", func := "beadle/beadlelaw09.AloneRuns", spec := "aloneRuns", inPlace := ["math.Float64frombits", "math.Float64bits", "math.archTrunc", "math.archFloor", "math.sqrt"], unfollowed := true, recurses := true, apart := false, narrowed := true }
def AloneRunsUptoSaid : Prop := aloneRunsUptoRow.holds Tryz.pinned (OpenSpec.upto aloneRunsSpec)

/-- 'beadlelaw09.AloneQuiet', WHERE WHAT IT READS IS OF BULK AT MOST 1048576: true; the input reads as it did. -/
def aloneQuietUptoRow : OpenClaim := { program := "ythgllaomafhdkaagreat", sum := "bbb3841595c9cac3beb99c35c0429074505b39533da0bbcba8b43dcd23eca9f7", func := "beadle/beadlelaw09.AloneQuiet", spec := "aloneQuiet", inPlace := ["math.Float64frombits", "math.Float64bits", "math.archTrunc", "math.archFloor", "math.sqrt"], unfollowed := true, recurses := true, apart := false, narrowed := true }
def AloneQuietUptoSaid : Prop := aloneQuietUptoRow.holds Tryz.pinned (OpenSpec.upto aloneQuietSpec)

/-- 'beadlelaw09.AloneMore', WHERE WHAT IT READS IS OF BULK AT MOST 1048576: true; the input reads as it did. -/
def aloneMoreUptoRow : OpenClaim := { program := "ythgllaomafhdkaagreat", sum := "bbb3841595c9cac3beb99c35c0429074505b39533da0bbcba8b43dcd23eca9f7", func := "beadle/beadlelaw09.AloneMore", spec := "aloneMore", inPlace := ["math.Float64frombits", "math.Float64bits", "math.archTrunc", "math.archFloor", "math.sqrt"], unfollowed := true, recurses := true, apart := false, narrowed := true }
def AloneMoreUptoSaid : Prop := aloneMoreUptoRow.holds Tryz.pinned (OpenSpec.upto aloneMoreSpec)

/-- 'beadlelaw09.AloneTag', WHERE WHAT IT READS IS OF BULK AT MOST 1048576: true; the input reads as it did. -/
def aloneTagUptoRow : OpenClaim := { program := "ythgllaomafhdkaagreat", sum := "bbb3841595c9cac3beb99c35c0429074505b39533da0bbcba8b43dcd23eca9f7", func := "beadle/beadlelaw09.AloneTag", spec := "aloneTag", inPlace := ["math.Float64frombits", "math.Float64bits", "math.archTrunc", "math.archFloor", "math.sqrt"], unfollowed := true, recurses := true, apart := false, narrowed := true }
def AloneTagUptoSaid : Prop := aloneTagUptoRow.holds Tryz.pinned (OpenSpec.upto aloneTagSpec)

/-- 'beadlelaw09.AloneFrame', WHERE WHAT IT READS IS OF BULK AT MOST 1048576: true; the input reads as it did. -/
def aloneFrameUptoRow : OpenClaim := { program := "ythgllaomafhdkaagreat", sum := "bbb3841595c9cac3beb99c35c0429074505b39533da0bbcba8b43dcd23eca9f7", func := "beadle/beadlelaw09.AloneFrame", spec := "aloneFrame", inPlace := ["math.Float64frombits", "math.Float64bits", "math.archTrunc", "math.archFloor", "math.sqrt"], unfollowed := true, recurses := true, apart := false, narrowed := true }
def AloneFrameUptoSaid : Prop := aloneFrameUptoRow.holds Tryz.pinned (OpenSpec.upto aloneFrameSpec)

/-- 'beadlelaw09.AloneCalls', WHERE WHAT IT READS IS OF BULK AT MOST 1048576: true; the input reads as it did. -/
def aloneCallsUptoRow : OpenClaim := { program := "ythgllaomafhdkaagreat", sum := "bbb3841595c9cac3beb99c35c0429074505b39533da0bbcba8b43dcd23eca9f7", func := "beadle/beadlelaw09.AloneCalls", spec := "aloneCalls", inPlace := ["math.Float64frombits", "math.Float64bits", "math.archTrunc", "math.archFloor", "math.sqrt"], unfollowed := true, recurses := true, apart := false, narrowed := true }
def AloneCallsUptoSaid : Prop := aloneCallsUptoRow.holds Tryz.pinned (OpenSpec.upto aloneCallsSpec)

/-- 'beadlelaw09.AloneJoined', WHERE WHAT IT READS IS OF BULK AT MOST 1048576: true; the input reads as it did. -/
def aloneJoinedUptoRow : OpenClaim := { program := "ythgllaomafhdkaagreat", sum := "bbb3841595c9cac3beb99c35c0429074505b39533da0bbcba8b43dcd23eca9f7", func := "beadle/beadlelaw09.AloneJoined", spec := "aloneJoined", inPlace := ["math.Float64frombits", "math.Float64bits", "math.archTrunc", "math.archFloor", "math.sqrt"], unfollowed := true, recurses := true, apart := false, narrowed := true }
def AloneJoinedUptoSaid : Prop := aloneJoinedUptoRow.holds Tryz.pinned (OpenSpec.upto aloneJoinedSpec)

end Rows
end Go.Proofs.YthgllaomafhdkaaGreat
