/- Three runs of a tree's programs, reckoned. Printed by gen/live.py. -/
import Derived.Test.YtgeapkalabijmaaGreatM43
import Derived.Test.YtgeapkalabijmaaGreatDI
namespace Go.Proofs.YtgeapkalabijmaaGreat
open Go Go.RowKit
set_option maxRecDepth 100000
set_option maxHeartbeats 1000000
set_option linter.unusedVariables false
set_option linter.unusedSimpArgs false

def trL0 : List Nat := List.replicate 24 0
def trR0 : Mc := runP (mc0 24 1 1024 8 2 (trP_Put 2 5) [4617315517961601024, 4632233691727265792]) trL0
def trL1 : List Nat := afterL trR0 trL0
def trR1 : Mc := runP (mc0 24 1 1024 8 1 (trP_Get 2 5) [4617315517961601024]) trL1
def trL2 : List Nat := afterL trR1 trL1
def trR2 : Mc := runP (mc0 24 1 1024 8 1 (trP_Len 2 5) []) trL2
def trL3 : List Nat := afterL trR2 trL2
theorem tr_nx0 : afterL (runP (mc0 24 1 1024 8 2 (trP_Put 2 5) [4617315517961601024, 4632233691727265792]) trL0) trL0 = trL1 := by unfold trL1 trR0; rfl
theorem tr_how0 : (runP (mc0 24 1 1024 8 2 (trP_Put 2 5) [4617315517961601024, 4632233691727265792]) trL0).how.1 = 1 := by kernel_rfl
theorem tr_out0 : (runP (mc0 24 1 1024 8 2 (trP_Put 2 5) [4617315517961601024, 4632233691727265792]) trL0).out = [4607182418800017408] := by kernel_rfl
theorem tr_len0 : trL0.length = 24 := by kernel_rfl
theorem tr_lt0 : ∀ y ∈ trL0, y < 18446744073709551616 := fun y hy => of_decide_eq_true (List.all_eq_true.1 (show trL0.all (fun y => decide (y < 18446744073709551616)) = true by kernel_rfl) y hy)
theorem tr_cd0 : ∀ x ∈ trP_Put 2 5, x.2.2 < 18446744073709551616 := fun y hy => of_decide_eq_true (List.all_eq_true.1 (show (trP_Put 2 5).all (fun x => decide (x.2.2 < 18446744073709551616)) = true by kernel_rfl) y hy)
theorem tr_nx1 : afterL (runP (mc0 24 1 1024 8 1 (trP_Get 2 5) [4617315517961601024]) trL1) trL1 = trL2 := by unfold trL2 trR1; rfl
theorem tr_how1 : (runP (mc0 24 1 1024 8 1 (trP_Get 2 5) [4617315517961601024]) trL1).how.1 = 1 := by kernel_rfl
theorem tr_out1 : (runP (mc0 24 1 1024 8 1 (trP_Get 2 5) [4617315517961601024]) trL1).out = [4632233691727265792] := by kernel_rfl
theorem tr_len1 : trL1.length = 24 := by kernel_rfl
theorem tr_lt1 : ∀ y ∈ trL1, y < 18446744073709551616 := fun y hy => of_decide_eq_true (List.all_eq_true.1 (show trL1.all (fun y => decide (y < 18446744073709551616)) = true by kernel_rfl) y hy)
theorem tr_cd1 : ∀ x ∈ trP_Get 2 5, x.2.2 < 18446744073709551616 := fun y hy => of_decide_eq_true (List.all_eq_true.1 (show (trP_Get 2 5).all (fun x => decide (x.2.2 < 18446744073709551616)) = true by kernel_rfl) y hy)
theorem tr_nx2 : afterL (runP (mc0 24 1 1024 8 1 (trP_Len 2 5) []) trL2) trL2 = trL3 := by unfold trL3 trR2; rfl
theorem tr_how2 : (runP (mc0 24 1 1024 8 1 (trP_Len 2 5) []) trL2).how.1 = 1 := by kernel_rfl
theorem tr_out2 : (runP (mc0 24 1 1024 8 1 (trP_Len 2 5) []) trL2).out = [4607182418800017408] := by kernel_rfl
theorem tr_len2 : trL2.length = 24 := by kernel_rfl
theorem tr_lt2 : ∀ y ∈ trL2, y < 18446744073709551616 := fun y hy => of_decide_eq_true (List.all_eq_true.1 (show trL2.all (fun y => decide (y < 18446744073709551616)) = true by kernel_rfl) y hy)
theorem tr_cd2 : ∀ x ∈ trP_Len 2 5, x.2.2 < 18446744073709551616 := fun y hy => of_decide_eq_true (List.all_eq_true.1 (show (trP_Len 2 5).all (fun x => decide (x.2.2 < 18446744073709551616)) = true by kernel_rfl) y hy)
end Go.Proofs.YtgeapkalabijmaaGreat
