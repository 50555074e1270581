/- live of layer 20's statements. Printed by gen/live.py. -/
import Derived.Test.YtgeapkalabijmaaGreatDU
import Derived.Test.YtgeapkalabijmaaGreatE0A
import Derived.Test.YtgeapkalabijmaaGreatE0B
import Derived.Test.YtgeapkalabijmaaGreatEAR
namespace Go.Proofs.YtgeapkalabijmaaGreat
open Go Go.RowKit
set_option maxRecDepth 100000
set_option maxHeartbeats 1000000
set_option linter.unusedVariables false
set_option linter.unusedSimpArgs false

set_option maxRecDepth 100000 in
set_option maxHeartbeats 8000000 in
theorem live20_any (w : World) : Calls Tryz.prog 6 #[] w fun e w' => e = .returned (.bool true) ∧ Chg w w' Nothing := by
  go_enter Tryz.func6, Tryz.ntmps6
  go_wp2_with fail
  refine (trmake_lit w 2 20 (by decide) (by decide) (by decide) (by decide)).mono ?_
  rintro e w1 ⟨g0, g1, g2, g3, g4, g5, g6, rfl, hc, hh⟩
  rw [show trRoom 20 = 5 from by decide] at hh
  obtain ⟨wA, hwA⟩ : ∃ wA, wA = w1.alloc (.cells #[.int .i64 1, .slice (some ⟨g0, 0, none⟩) 45 45, .int .i64 2, .slice (some ⟨g1, 0, none⟩) 117 117, .int .i64 2, .slice (some ⟨g2, 0, none⟩) 77 77, .int .i64 1, .slice (some ⟨g3, 0, none⟩) 22 22, .int .i64 1, .slice (some ⟨g4, 0, none⟩) 41 41, .int .i64 1, .slice (some ⟨g5, 0, none⟩) 4 4, .int .i64 1, .slice (some ⟨g6, 0, none⟩) 32 32] 28) := ⟨_, rfl⟩
  have CA := Lib.hid (show Chg w wA Nothing from by rw [hwA]; exact hc.alloc _)
  have TA := Lib.hid (show wA.heap[w1.heap.size]? = some (.cells #[.int .i64 1, .slice (some ⟨g0, 0, none⟩) 45 45, .int .i64 2, .slice (some ⟨g1, 0, none⟩) 117 117, .int .i64 2, .slice (some ⟨g2, 0, none⟩) 77 77, .int .i64 1, .slice (some ⟨g3, 0, none⟩) 22 22, .int .i64 1, .slice (some ⟨g4, 0, none⟩) 41 41, .int .i64 1, .slice (some ⟨g5, 0, none⟩) 4 4, .int .i64 1, .slice (some ⟨g6, 0, none⟩) 32 32] 28 (0, 0)) from by rw [hwA]; exact heap_alloc_new w1 _)
  have ZA := Lib.hid (show wA.heap.size = w1.heap.size + 1 from by rw [hwA]; simp)
  have HA := Lib.hid (show Held wA w.heap.size (trT 2 5) [g0, g1, g2, g3, g4, g5, g6] from by rw [hwA]; exact hh.quiet ((Chg.refl _ _).alloc _))
  have HG := Lib.hid (fun j t (ht : (trT 2 5)[j]? = some t) => hh j t ht)
  have WA := Lib.hid hwA
  clear hc hh hwA
  go_upto_region 2 with fail
  rw [← WA.out]
  go_wp2_with fail
  refine (snew_good 24 wA (by decide) (by decide)).mono ?_
  rintro e w2 ⟨p, rfl, hp, hst, hc⟩
  obtain ⟨F, hF, hst⟩ : ∃ F : Nat → Prop, (∀ k, F k → wA.heap.size ≤ k) ∧ Sta w2 p F (trL0.map fl) := ⟨_, fun k hk => by rcases hk with hk | hk; exact hk.elim; exact hk.1, hst⟩
  have S2 := Lib.hid hst
  have F2 := Lib.hid hF
  have C2 := Lib.hid hc
  clear hp hst hF hc
  go_wp2_with fail
  refine (config20_any 24 1024 8 w2).mono ?_
  rintro e w3 ⟨rfl, hc⟩
  obtain ⟨wC, hwC⟩ : ∃ wC, wC = w3.alloc (.cells #[.int .i64 24, .int .i64 1, .int .i64 1024, .int .i64 8] 51) := ⟨_, rfl⟩
  have CC := Lib.hid (show Chg wA wC Nothing from by rw [hwC]; exact (C2.out.trans hc (fun _ _ h => h)).alloc _)
  have TC := Lib.hid (show wC.heap[w3.heap.size]? = some (.cells #[.int .i64 24, .int .i64 1, .int .i64 1024, .int .i64 8] 51 (0, 0)) from by rw [hwC]; exact heap_alloc_new w3 _)
  have SC := Lib.hid (show Sta wC p F (trL0.map fl) from by rw [hwC]; exact S2.out.chg (hc.alloc _) (fun _ _ h => h))
  have TT := Lib.hid ((CC.out.block _ (by have := ZA.out; omega) id).trans TA.out)
  have NT := Lib.hid (show ¬ F w1.heap.size from fun h => by have := F2.out _ h; have := ZA.out; omega)
  have NC := Lib.hid (show ¬ F w3.heap.size from fun h => by have := S2.out.lt _ h; have := hc.size; omega)
  have K0 := Lib.hid (Chg.refl wC F)
  have WC := Lib.hid hwC
  clear hc hwC
  go_upto_region 6 with fail
  rw [← WC.out]
  have hbT := (K0.out.block _ (by have := blk_lt TT.out; omega) NT.out).trans TT.out
  have hbC := (K0.out.block _ (by have := blk_lt TC.out; omega) NC.out).trans TC.out
  have ltT := blk_lt hbT
  have ltC := blk_lt hbC
  have nT : ¬ w1.heap.size = wC.heap.size := by omega
  have nC : ¬ w3.heap.size = wC.heap.size := by omega
  have c0 : wC.cell? ⟨w3.heap.size, 0, none⟩ = some (.int .i64 24) := blk_cell hbC 0
  have c1 : wC.cell? ⟨w3.heap.size, 1, none⟩ = some (.int .i64 1) := blk_cell hbC 1
  have c2 : wC.cell? ⟨w3.heap.size, 2, none⟩ = some (.int .i64 1024) := blk_cell hbC 2
  have c3 : wC.cell? ⟨w3.heap.size, 3, none⟩ = some (.int .i64 8) := blk_cell hbC 3
  have c4 : wC.cell? ⟨w1.heap.size, 2, none⟩ = some (.int .i64 2) := blk_cell hbT 2
  have c5 : wC.cell? ⟨w1.heap.size, 3, none⟩ = some (.slice (some ⟨g1, 0, none⟩) 117 117) := blk_cell hbT 3
  obtain ⟨g, hg, hrow⟩ := HA.out 1 _ rfl
  obtain rfl : g1 = g := Option.some.inj hg
  have R0 := Lib.hid (Sees.of_owns (ownsRow_heap (w' := wC) hrow (fun k hk => ((CC.out.mono (S' := F) (fun _ _ h => h.elim)).trans K0.out (fun _ _ h => h)).block k (hrow.lt k hk).2 (fun h => by have := F2.out _ h; have := (hrow.lt k hk).2; omega))))
  clear hbT hbC hg hrow
  go_wp2_with fail
  refine (arun_lit 2 (some ⟨g1, 0, none⟩) 117 117 (trP_Put 2 5) (some ⟨wC.heap.size, 0, none⟩) 2 2 [4617315517961601024, 4632233691727265792] p F trL0 [4607182418800017408] trL1 _ (SC.out.chg ((Chg.refl _ Nothing).alloc _) (fun _ _ h => h)) tr_len0 rfl rfl (R0.out.chg ((Chg.refl _ Nothing).alloc _)) (sees_box (heap_alloc_new _ _) rfl) (by decide) (by decide) tr_cd0 (by decide) tr_lt0 tr_out0 tr_how0 tr_nx0).mono ?_
  rintro e y0 ⟨h2, h3, ao0, co0, ar, nr, cr, aw, nw, cw, u, rfl, ho, hst, hc⟩
  obtain ⟨z0, hz⟩ : ∃ z, z = y0.alloc (.cells #[.int .i64 1, .int .i64 h2, .int .i64 h3, .slice ao0 1 co0, .slice ar nr cr, .slice aw nw cw, .int .i64 u] 58) := ⟨_, rfl⟩
  have D0 := Lib.hid (show Chg wC z0 F from by rw [hz]; exact (((Chg.refl _ F).alloc _).trans hc (fun _ _ h => h)).alloc _)
  have K1 := Lib.hid (K0.out.trans D0.out (fun _ _ h => h))
  have S1z := Lib.hid (show Sta z0 p F (trL1.map fl) from by rw [hz]; exact hst.chg ((Chg.refl _ Nothing).alloc _) (fun _ _ h => h))
  have B0 := Lib.hid (show z0.heap[y0.heap.size]? = some (.cells #[.int .i64 1, .int .i64 h2, .int .i64 h3, .slice ao0 1 co0, .slice ar nr cr, .slice aw nw cw, .int .i64 u] 58 (0, 0)) from by rw [hz]; exact heap_alloc_new _ _)
  have N0 := Lib.hid (show ¬ F y0.heap.size from fun h => by have := hst.lt _ h; omega)
  have O0 := Lib.hid (show z0.ownsRow wC.heap.size 61 1 (.slice ao0 1 co0) 1 ([4607182418800017408].map fl) from by rw [hz]; exact (ownsRow_base ho (Nat.le_trans K0.out.size (by simp))).alloc _)
  have WZ0 := Lib.hid hz
  clear c0 c1 c2 c3 c4 c5 ltT ltC nT nC ho hst hc hz
  go_upto_region 7 with fail
  rw [← WZ0.out]
  have hbT := (K1.out.block _ (by have := blk_lt TT.out; omega) NT.out).trans TT.out
  have hbC := (K1.out.block _ (by have := blk_lt TC.out; omega) NC.out).trans TC.out
  have ltT := blk_lt hbT
  have ltC := blk_lt hbC
  have nT : ¬ w1.heap.size = z0.heap.size := by omega
  have nC : ¬ w3.heap.size = z0.heap.size := by omega
  have c0 : z0.cell? ⟨w3.heap.size, 0, none⟩ = some (.int .i64 24) := blk_cell hbC 0
  have c1 : z0.cell? ⟨w3.heap.size, 1, none⟩ = some (.int .i64 1) := blk_cell hbC 1
  have c2 : z0.cell? ⟨w3.heap.size, 2, none⟩ = some (.int .i64 1024) := blk_cell hbC 2
  have c3 : z0.cell? ⟨w3.heap.size, 3, none⟩ = some (.int .i64 8) := blk_cell hbC 3
  have c4 : z0.cell? ⟨w1.heap.size, 0, none⟩ = some (.int .i64 1) := blk_cell hbT 0
  have c5 : z0.cell? ⟨w1.heap.size, 1, none⟩ = some (.slice (some ⟨g0, 0, none⟩) 45 45) := blk_cell hbT 1
  obtain ⟨g, hg, hrow⟩ := HA.out 0 _ rfl
  obtain rfl : g0 = g := Option.some.inj hg
  have R1 := Lib.hid (Sees.of_owns (ownsRow_heap (w' := z0) hrow (fun k hk => ((CC.out.mono (S' := F) (fun _ _ h => h.elim)).trans K1.out (fun _ _ h => h)).block k (hrow.lt k hk).2 (fun h => by have := F2.out _ h; have := (hrow.lt k hk).2; omega))))
  clear hbT hbC hg hrow
  go_wp2_with fail
  refine (arun_lit 1 (some ⟨g0, 0, none⟩) 45 45 (trP_Get 2 5) (some ⟨z0.heap.size, 0, none⟩) 1 1 [4617315517961601024] p F trL1 [4632233691727265792] trL2 _ (S1z.out.chg ((Chg.refl _ Nothing).alloc _) (fun _ _ h => h)) tr_len1 rfl rfl (R1.out.chg ((Chg.refl _ Nothing).alloc _)) (sees_box (heap_alloc_new _ _) rfl) (by decide) (by decide) tr_cd1 (by decide) tr_lt1 tr_out1 tr_how1 tr_nx1).mono ?_
  rintro e y1 ⟨h2, h3, ao1, co1, ar, nr, cr, aw, nw, cw, u, rfl, ho, hst, hc⟩
  obtain ⟨z1, hz⟩ : ∃ z, z = y1.alloc (.cells #[.int .i64 1, .int .i64 h2, .int .i64 h3, .slice ao1 1 co1, .slice ar nr cr, .slice aw nw cw, .int .i64 u] 58) := ⟨_, rfl⟩
  have D1 := Lib.hid (show Chg z0 z1 F from by rw [hz]; exact (((Chg.refl _ F).alloc _).trans hc (fun _ _ h => h)).alloc _)
  have K2 := Lib.hid (K1.out.trans D1.out (fun _ _ h => h))
  have S2z := Lib.hid (show Sta z1 p F (trL2.map fl) from by rw [hz]; exact hst.chg ((Chg.refl _ Nothing).alloc _) (fun _ _ h => h))
  have B1 := Lib.hid (show z1.heap[y1.heap.size]? = some (.cells #[.int .i64 1, .int .i64 h2, .int .i64 h3, .slice ao1 1 co1, .slice ar nr cr, .slice aw nw cw, .int .i64 u] 58 (0, 0)) from by rw [hz]; exact heap_alloc_new _ _)
  have N1 := Lib.hid (show ¬ F y1.heap.size from fun h => by have := hst.lt _ h; omega)
  have O1 := Lib.hid (show z1.ownsRow wC.heap.size 61 1 (.slice ao1 1 co1) 1 ([4632233691727265792].map fl) from by rw [hz]; exact (ownsRow_base ho (Nat.le_trans K1.out.size (by simp))).alloc _)
  have WZ1 := Lib.hid hz
  clear c0 c1 c2 c3 c4 c5 ltT ltC nT nC ho hst hc hz
  go_upto_region 8 with fail
  rw [← WZ1.out]
  have hbT := (K2.out.block _ (by have := blk_lt TT.out; omega) NT.out).trans TT.out
  have hbC := (K2.out.block _ (by have := blk_lt TC.out; omega) NC.out).trans TC.out
  have ltT := blk_lt hbT
  have ltC := blk_lt hbC
  have nT : ¬ w1.heap.size = z1.heap.size := by omega
  have nC : ¬ w3.heap.size = z1.heap.size := by omega
  have c0 : z1.cell? ⟨w3.heap.size, 0, none⟩ = some (.int .i64 24) := blk_cell hbC 0
  have c1 : z1.cell? ⟨w3.heap.size, 1, none⟩ = some (.int .i64 1) := blk_cell hbC 1
  have c2 : z1.cell? ⟨w3.heap.size, 2, none⟩ = some (.int .i64 1024) := blk_cell hbC 2
  have c3 : z1.cell? ⟨w3.heap.size, 3, none⟩ = some (.int .i64 8) := blk_cell hbC 3
  have c4 : z1.cell? ⟨w1.heap.size, 10, none⟩ = some (.int .i64 1) := blk_cell hbT 10
  have c5 : z1.cell? ⟨w1.heap.size, 11, none⟩ = some (.slice (some ⟨g5, 0, none⟩) 4 4) := blk_cell hbT 11
  obtain ⟨g, hg, hrow⟩ := HA.out 5 _ rfl
  obtain rfl : g5 = g := Option.some.inj hg
  have R2 := Lib.hid (Sees.of_owns (ownsRow_heap (w' := z1) hrow (fun k hk => ((CC.out.mono (S' := F) (fun _ _ h => h.elim)).trans K2.out (fun _ _ h => h)).block k (hrow.lt k hk).2 (fun h => by have := F2.out _ h; have := (hrow.lt k hk).2; omega))))
  clear hbT hbC hg hrow
  go_wp2_with fail
  refine (arun_lit 1 (some ⟨g5, 0, none⟩) 4 4 (trP_Len 2 5) none 0 0 [] p F trL2 [4607182418800017408] trL3 _ (S2z.out) tr_len2 rfl rfl (R2.out) (.inl rfl) (by decide) (by decide) tr_cd2 (by decide) tr_lt2 tr_out2 tr_how2 tr_nx2).mono ?_
  rintro e y2 ⟨h2, h3, ao2, co2, ar, nr, cr, aw, nw, cw, u, rfl, ho, hst, hc⟩
  obtain ⟨z2, hz⟩ : ∃ z, z = y2.alloc (.cells #[.int .i64 1, .int .i64 h2, .int .i64 h3, .slice ao2 1 co2, .slice ar nr cr, .slice aw nw cw, .int .i64 u] 58) := ⟨_, rfl⟩
  have D2 := Lib.hid (show Chg z1 z2 F from by rw [hz]; exact (hc).alloc _)
  have K3 := Lib.hid (K2.out.trans D2.out (fun _ _ h => h))
  have S3z := Lib.hid (show Sta z2 p F (trL3.map fl) from by rw [hz]; exact hst.chg ((Chg.refl _ Nothing).alloc _) (fun _ _ h => h))
  have B2 := Lib.hid (show z2.heap[y2.heap.size]? = some (.cells #[.int .i64 1, .int .i64 h2, .int .i64 h3, .slice ao2 1 co2, .slice ar nr cr, .slice aw nw cw, .int .i64 u] 58 (0, 0)) from by rw [hz]; exact heap_alloc_new _ _)
  have N2 := Lib.hid (show ¬ F y2.heap.size from fun h => by have := hst.lt _ h; omega)
  have O2 := Lib.hid (show z2.ownsRow wC.heap.size 61 1 (.slice ao2 1 co2) 1 ([4607182418800017408].map fl) from by rw [hz]; exact (ownsRow_base ho (K2.out.size)).alloc _)
  have WZ2 := Lib.hid hz
  clear c0 c1 c2 c3 c4 c5 ltT ltC nT nC ho hst hc hz
  go_upto_region 9 with fail
  rw [← WZ2.out]
  have b2 := B2.out
  have b1 := (D2.out.block _ (blk_lt B1.out) N1.out).trans B1.out
  have b0 := ((D1.out.trans D2.out (fun _ _ h => h)).block _ (blk_lt B0.out) N0.out).trans B0.out
  have fc : ∀ k, wC.heap.size ≤ k → ¬ F k := fun k hk h => by have := SC.out.lt _ h; omega
  have Q2 := Lib.hid (Sees.of_owns O2.out)
  have Q1 := Lib.hid (Sees.of_owns (row_chg O1.out D2.out fc))
  have Q0 := Lib.hid (Sees.of_owns (row_chg O0.out (D1.out.trans D2.out (fun _ _ h => h)) fc))
  have x0 : z2.cell? ⟨y0.heap.size, 0, none⟩ = some (.int .i64 1) := blk_cell b0 0
  have x1 : z2.cell? ⟨y0.heap.size, 3, none⟩ = some (.slice ao0 1 co0) := blk_cell b0 3
  have x2 : z2.cell? ⟨y1.heap.size, 3, none⟩ = some (.slice ao1 1 co1) := blk_cell b1 3
  have x3 : z2.cell? ⟨y2.heap.size, 3, none⟩ = some (.slice ao2 1 co2) := blk_cell b2 3
  have l0 := blk_lt b0
  have l1 := blk_lt b1
  have l2 := blk_lt b2
  have m0 : ¬ y0.heap.size = z2.heap.size := by omega
  have m1 : ¬ y1.heap.size = z2.heap.size := by omega
  have m2 : ¬ y2.heap.size = z2.heap.size := by omega
  have l3 : y1.heap.size < z2.heap.size + 1 := by omega
  have l4 : y2.heap.size < z2.heap.size + 1 := by omega
  have l5 : y2.heap.size < z2.heap.size + 1 + 1 := by omega
  clear b0 b1 b2 fc
  go_wp2_with fail
  refine (exact20_true ao0 _ co0 _ 1 [4607182418800017408] _ (Q0.out.chg ((Chg.refl _ Nothing).alloc _)) (sees_box (heap_alloc_new _ _) rfl) rfl (by decide)).mono ?_
  rintro e w5 ⟨rfl, m5, rfl⟩
  go_wp2_with fail
  refine (exact20_true ao1 _ co1 _ 1 [4632233691727265792] _ (Q1.out.chg ((((Chg.refl _ Nothing).alloc _).drewN _).alloc _)) (sees_box lvD1 rfl) rfl (by decide)).mono ?_
  rintro e w6 ⟨rfl, m6, rfl⟩
  go_wp2_with fail
  refine (exact20_true ao2 _ co2 _ 1 [4607182418800017408] _ (Q2.out.chg ((((((Chg.refl _ Nothing).alloc _).drewN _).alloc _).drewN _).alloc _)) (sees_box lvD2 rfl) rfl (by decide)).mono ?_
  rintro e w7 ⟨rfl, m7, rfl⟩
  go_wp2_with fail
  go_ret
  exact ⟨rfl, (((((((CA.out.trans CC.out (fun _ _ h => h)).trans (K3.out) (fun k hk h => (show False from by have := F2.out _ h; have := CA.out.size; omega).elim)).alloc _).drewN _).alloc _).drewN _).alloc _).drewN _⟩
end Go.Proofs.YtgeapkalabijmaaGreat
