/- Three runs of a table's programs, reckoned. Printed by gen/live.py. -/
import Derived.Test.YtgeapkalabijmaaGreatM43
import Derived.Test.YtgeapkalabijmaaGreatDH
namespace Go.Proofs.YtgeapkalabijmaaGreat
open Go Go.RowKit
set_option maxRecDepth 100000
set_option maxHeartbeats 1000000
set_option linter.unusedVariables false
set_option linter.unusedSimpArgs false

def tbL0 : List Nat := List.replicate 24 0
def tbR0 : Mc := runP (mc0 24 1 1024 8 2 (tbP_Put 2 4) [4617315517961601024, 4632233691727265792]) tbL0
def tbL1 : List Nat := afterL tbR0 tbL0
def tbR1 : Mc := runP (mc0 24 1 1024 8 1 (tbP_Get 2 4) [4617315517961601024]) tbL1
def tbL2 : List Nat := afterL tbR1 tbL1
def tbR2 : Mc := runP (mc0 24 1 1024 8 1 (tbP_Len 2 4) []) tbL2
def tbL3 : List Nat := afterL tbR2 tbL2
theorem tb_nx0 : afterL (runP (mc0 24 1 1024 8 2 (tbP_Put 2 4) [4617315517961601024, 4632233691727265792]) tbL0) tbL0 = tbL1 := by unfold tbL1 tbR0; rfl
theorem tb_how0 : (runP (mc0 24 1 1024 8 2 (tbP_Put 2 4) [4617315517961601024, 4632233691727265792]) tbL0).how.1 = 1 := by kernel_rfl
theorem tb_out0 : (runP (mc0 24 1 1024 8 2 (tbP_Put 2 4) [4617315517961601024, 4632233691727265792]) tbL0).out = [4607182418800017408] := by kernel_rfl
theorem tb_len0 : tbL0.length = 24 := by kernel_rfl
theorem tb_lt0 : ∀ y ∈ tbL0, y < 18446744073709551616 := fun y hy => of_decide_eq_true (List.all_eq_true.1 (show tbL0.all (fun y => decide (y < 18446744073709551616)) = true by kernel_rfl) y hy)
theorem tb_cd0 : ∀ x ∈ tbP_Put 2 4, x.2.2 < 18446744073709551616 := fun y hy => of_decide_eq_true (List.all_eq_true.1 (show (tbP_Put 2 4).all (fun x => decide (x.2.2 < 18446744073709551616)) = true by kernel_rfl) y hy)
theorem tb_nx1 : afterL (runP (mc0 24 1 1024 8 1 (tbP_Get 2 4) [4617315517961601024]) tbL1) tbL1 = tbL2 := by unfold tbL2 tbR1; rfl
theorem tb_how1 : (runP (mc0 24 1 1024 8 1 (tbP_Get 2 4) [4617315517961601024]) tbL1).how.1 = 1 := by kernel_rfl
theorem tb_out1 : (runP (mc0 24 1 1024 8 1 (tbP_Get 2 4) [4617315517961601024]) tbL1).out = [4632233691727265792] := by kernel_rfl
theorem tb_len1 : tbL1.length = 24 := by kernel_rfl
theorem tb_lt1 : ∀ y ∈ tbL1, y < 18446744073709551616 := fun y hy => of_decide_eq_true (List.all_eq_true.1 (show tbL1.all (fun y => decide (y < 18446744073709551616)) = true by kernel_rfl) y hy)
theorem tb_cd1 : ∀ x ∈ tbP_Get 2 4, x.2.2 < 18446744073709551616 := fun y hy => of_decide_eq_true (List.all_eq_true.1 (show (tbP_Get 2 4).all (fun x => decide (x.2.2 < 18446744073709551616)) = true by kernel_rfl) y hy)
theorem tb_nx2 : afterL (runP (mc0 24 1 1024 8 1 (tbP_Len 2 4) []) tbL2) tbL2 = tbL3 := by unfold tbL3 tbR2; rfl
theorem tb_how2 : (runP (mc0 24 1 1024 8 1 (tbP_Len 2 4) []) tbL2).how.1 = 1 := by kernel_rfl
theorem tb_out2 : (runP (mc0 24 1 1024 8 1 (tbP_Len 2 4) []) tbL2).out = [4607182418800017408] := by kernel_rfl
theorem tb_len2 : tbL2.length = 24 := by kernel_rfl
theorem tb_lt2 : ∀ y ∈ tbL2, y < 18446744073709551616 := fun y hy => of_decide_eq_true (List.all_eq_true.1 (show tbL2.all (fun y => decide (y < 18446744073709551616)) = true by kernel_rfl) y hy)
theorem tb_cd2 : ∀ x ∈ tbP_Len 2 4, x.2.2 < 18446744073709551616 := fun y hy => of_decide_eq_true (List.all_eq_true.1 (show (tbP_Len 2 4).all (fun x => decide (x.2.2 < 18446744073709551616)) = true by kernel_rfl) y hy)
end Go.Proofs.YtgeapkalabijmaaGreat
