/- Three runs of a deque's programs, reckoned. Printed by gen/live.py. -/
import Derived.Test.YtgeapkalabijmaaGreatM43
import Derived.Test.YtgeapkalabijmaaGreatDG
namespace Go.Proofs.YtgeapkalabijmaaGreat
open Go Go.RowKit
set_option maxRecDepth 100000
set_option maxHeartbeats 1000000
set_option linter.unusedVariables false
set_option linter.unusedSimpArgs false

def dqL0 : List Nat := List.replicate 24 0
def dqR0 : Mc := runP (mc0 24 1 1024 8 2 (dqP_PushBack 2 16) [4617315517961601024]) dqL0
def dqL1 : List Nat := afterL dqR0 dqL0
def dqR1 : Mc := runP (mc0 24 1 1024 8 2 (dqP_PushFront 2 16) [4616189618054758400]) dqL1
def dqL2 : List Nat := afterL dqR1 dqL1
def dqR2 : Mc := runP (mc0 24 1 1024 8 1 (dqP_All 2 16) []) dqL2
def dqL3 : List Nat := afterL dqR2 dqL2
theorem dq_nx0 : afterL (runP (mc0 24 1 1024 8 2 (dqP_PushBack 2 16) [4617315517961601024]) dqL0) dqL0 = dqL1 := by unfold dqL1 dqR0; rfl
theorem dq_how0 : (runP (mc0 24 1 1024 8 2 (dqP_PushBack 2 16) [4617315517961601024]) dqL0).how.1 = 1 := by kernel_rfl
theorem dq_out0 : (runP (mc0 24 1 1024 8 2 (dqP_PushBack 2 16) [4617315517961601024]) dqL0).out = [4607182418800017408] := by kernel_rfl
theorem dq_len0 : dqL0.length = 24 := by kernel_rfl
theorem dq_lt0 : ∀ y ∈ dqL0, y < 18446744073709551616 := fun y hy => of_decide_eq_true (List.all_eq_true.1 (show dqL0.all (fun y => decide (y < 18446744073709551616)) = true by kernel_rfl) y hy)
theorem dq_cd0 : ∀ x ∈ dqP_PushBack 2 16, x.2.2 < 18446744073709551616 := fun y hy => of_decide_eq_true (List.all_eq_true.1 (show (dqP_PushBack 2 16).all (fun x => decide (x.2.2 < 18446744073709551616)) = true by kernel_rfl) y hy)
theorem dq_nx1 : afterL (runP (mc0 24 1 1024 8 2 (dqP_PushFront 2 16) [4616189618054758400]) dqL1) dqL1 = dqL2 := by unfold dqL2 dqR1; rfl
theorem dq_how1 : (runP (mc0 24 1 1024 8 2 (dqP_PushFront 2 16) [4616189618054758400]) dqL1).how.1 = 1 := by kernel_rfl
theorem dq_out1 : (runP (mc0 24 1 1024 8 2 (dqP_PushFront 2 16) [4616189618054758400]) dqL1).out = [4611686018427387904] := by kernel_rfl
theorem dq_len1 : dqL1.length = 24 := by kernel_rfl
theorem dq_lt1 : ∀ y ∈ dqL1, y < 18446744073709551616 := fun y hy => of_decide_eq_true (List.all_eq_true.1 (show dqL1.all (fun y => decide (y < 18446744073709551616)) = true by kernel_rfl) y hy)
theorem dq_cd1 : ∀ x ∈ dqP_PushFront 2 16, x.2.2 < 18446744073709551616 := fun y hy => of_decide_eq_true (List.all_eq_true.1 (show (dqP_PushFront 2 16).all (fun x => decide (x.2.2 < 18446744073709551616)) = true by kernel_rfl) y hy)
theorem dq_nx2 : afterL (runP (mc0 24 1 1024 8 1 (dqP_All 2 16) []) dqL2) dqL2 = dqL3 := by unfold dqL3 dqR2; rfl
theorem dq_how2 : (runP (mc0 24 1 1024 8 1 (dqP_All 2 16) []) dqL2).how.1 = 1 := by kernel_rfl
theorem dq_out2 : (runP (mc0 24 1 1024 8 1 (dqP_All 2 16) []) dqL2).out = [4616189618054758400, 4617315517961601024] := by kernel_rfl
theorem dq_len2 : dqL2.length = 24 := by kernel_rfl
theorem dq_lt2 : ∀ y ∈ dqL2, y < 18446744073709551616 := fun y hy => of_decide_eq_true (List.all_eq_true.1 (show dqL2.all (fun y => decide (y < 18446744073709551616)) = true by kernel_rfl) y hy)
theorem dq_cd2 : ∀ x ∈ dqP_All 2 16, x.2.2 < 18446744073709551616 := fun y hy => of_decide_eq_true (List.all_eq_true.1 (show (dqP_All 2 16).all (fun x => decide (x.2.2 < 18446744073709551616)) = true by kernel_rfl) y hy)
end Go.Proofs.YtgeapkalabijmaaGreat
