/- TreeMakes: its walk. Printed by gen/makes.py. -/
import Derived.Test.YtgeapkalabijmaaGreatE0C
import Derived.Test.YtgeapkalabijmaaGreatE0D
import Derived.Test.YtgeapkalabijmaaGreatDF
import Derived.Test.YtgeapkalabijmaaGreatDX
namespace Go.Proofs.YtgeapkalabijmaaGreat
open Go Go.RowKit
set_option maxRecDepth 100000
set_option maxHeartbeats 1000000
set_option linter.unusedVariables false
set_option linter.unusedSimpArgs false

theorem trC_Get (base room : Int) : checkE 1 (trP_Get base room) = 0 := (progE_some (trM_Get base room) (trF_Get base room)).symm.trans (trE_Get base room)
theorem trC_Put (base room : Int) : checkE 2 (trP_Put base room) = 0 := (progE_some (trM_Put base room) (trF_Put base room)).symm.trans (trE_Put base room)
theorem trC_Del (base room : Int) : checkE 2 (trP_Del base room) = 0 := (progE_some (trM_Del base room) (trF_Del base room)).symm.trans (trE_Del base room)
theorem trC_Least (base room : Int) : checkE 1 (trP_Least base room) = 0 := (progE_some (trM_Least base room) (trF_Least base room)).symm.trans (trE_Least base room)
theorem trC_After (base room : Int) : checkE 1 (trP_After base room) = 0 := (progE_some (trM_After base room) (trF_After base room)).symm.trans (trE_After base room)
theorem trC_Len (base room : Int) : checkE 1 (trP_Len base room) = 0 := (progE_some (trM_Len base room) (trF_Len base room)).symm.trans (trE_Len base room)
theorem trC_All (base room : Int) : checkE 1 (trP_All base room) = 0 := (progE_some (trM_All base room) (trF_All base room)).symm.trans (trE_All base room)

set_option maxRecDepth 100000 in
set_option maxHeartbeats 40000000 in
theorem makes20_good (w : World) (base cells : Int) (h0 : 0 ≤ base) (h1 : 7 ≤ cells) (h2 : cells ≤ 256) (h3 : base ≤ 256 - cells) :
    Calls Tryz.prog 3 #[.int .i64 base, .int .i64 cells] w fun e w' => e = .returned (.bool true) ∧ Chg w w' Nothing := by
  have hr1 : 1 ≤ trRoom cells ∧ trRoom cells ≤ 16 := by unfold trRoom; split <;> (try split) <;> omega
  have HH := Lib.hid (And.intro h0 (And.intro h1 (And.intro h2 h3)))
  obtain ⟨room, hroom⟩ : ∃ r, r = trRoom cells := ⟨_, rfl⟩
  have HR := Lib.hid hroom
  have HM := Lib.hid (fun W => trmake_lit W base cells h0 h1 h2 h3)
  have HF := Lib.hid (fun W => rfits20_good W base cells _ rfl (by omega) (by omega) (by omega) h0 h2 h3)
  have HB := Lib.hid (show -9223372036854775808 ≤ cells ∧ cells < 9223372036854775808 from ⟨by omega, by omega⟩)
  clear h0 h1 h2 h3 hr1 hroom
  have n1 : (room != room) = false := by simp
  go_enter Tryz.func3, Tryz.ntmps3
  go_wp2_with fail
  refine (live20_any w).mono ?_
  rintro e w1 ⟨rfl, hc⟩
  have C1 := Lib.hid hc
  clear hc
  go_wp2_with fail
  refine (rroom20_any _ cells HB.out.1 HB.out.2).mono ?_
  rintro e w2 ⟨he, rfl⟩
  rw [← HR.out] at he
  subst he
  go_wp2_with fail
  refine (HM.out _).mono ?_
  rintro e wT ⟨g0, g1, g2, g3, g4, g5, g6, rfl, hc, hh⟩
  obtain ⟨XT, hX⟩ : ∃ X, X = wT.alloc (.cells #[.int .i64 1, .slice (some ⟨g0, 0, none⟩) 45 45, .int .i64 2, .slice (some ⟨g1, 0, none⟩) 117 117, .int .i64 2, .slice (some ⟨g2, 0, none⟩) 77 77, .int .i64 1, .slice (some ⟨g3, 0, none⟩) 22 22, .int .i64 1, .slice (some ⟨g4, 0, none⟩) 41 41, .int .i64 1, .slice (some ⟨g5, 0, none⟩) 4 4, .int .i64 1, .slice (some ⟨g6, 0, none⟩) 32 32] 28) := ⟨_, rfl⟩
  have CT := Lib.hid (show Chg wT XT Nothing from by rw [hX]; exact (Chg.refl _ _).alloc _)
  have AT := Lib.hid hc
  have BT := Lib.hid (show XT.heap[wT.heap.size]? = some (.cells #[.int .i64 1, .slice (some ⟨g0, 0, none⟩) 45 45, .int .i64 2, .slice (some ⟨g1, 0, none⟩) 117 117, .int .i64 2, .slice (some ⟨g2, 0, none⟩) 77 77, .int .i64 1, .slice (some ⟨g3, 0, none⟩) 22 22, .int .i64 1, .slice (some ⟨g4, 0, none⟩) 41 41, .int .i64 1, .slice (some ⟨g5, 0, none⟩) 4 4, .int .i64 1, .slice (some ⟨g6, 0, none⟩) 32 32] 28 (0, 0)) from by rw [hX]; exact heap_alloc_new wT _)
  rw [← HR.out] at hh
  have HT := Lib.hid hh
  have WT := Lib.hid hX
  clear hc hX hh
  go_upto_region 4 with fail
  rw [← WT.out]
  go_wp2_with fail
  refine (HM.out _).mono ?_
  rintro e wU ⟨k0, k1, k2, k3, k4, k5, k6, rfl, hc, hh⟩
  obtain ⟨XU, hX⟩ : ∃ X, X = wU.alloc (.cells #[.int .i64 1, .slice (some ⟨k0, 0, none⟩) 45 45, .int .i64 2, .slice (some ⟨k1, 0, none⟩) 117 117, .int .i64 2, .slice (some ⟨k2, 0, none⟩) 77 77, .int .i64 1, .slice (some ⟨k3, 0, none⟩) 22 22, .int .i64 1, .slice (some ⟨k4, 0, none⟩) 41 41, .int .i64 1, .slice (some ⟨k5, 0, none⟩) 4 4, .int .i64 1, .slice (some ⟨k6, 0, none⟩) 32 32] 28) := ⟨_, rfl⟩
  have CU := Lib.hid (show Chg wU XU Nothing from by rw [hX]; exact (Chg.refl _ _).alloc _)
  have AU := Lib.hid hc
  have BU := Lib.hid (show XU.heap[wU.heap.size]? = some (.cells #[.int .i64 1, .slice (some ⟨k0, 0, none⟩) 45 45, .int .i64 2, .slice (some ⟨k1, 0, none⟩) 117 117, .int .i64 2, .slice (some ⟨k2, 0, none⟩) 77 77, .int .i64 1, .slice (some ⟨k3, 0, none⟩) 22 22, .int .i64 1, .slice (some ⟨k4, 0, none⟩) 41 41, .int .i64 1, .slice (some ⟨k5, 0, none⟩) 4 4, .int .i64 1, .slice (some ⟨k6, 0, none⟩) 32 32] 28 (0, 0)) from by rw [hX]; exact heap_alloc_new wU _)
  rw [← HR.out] at hh
  have HU := Lib.hid hh
  have WU := Lib.hid hX
  clear hc hX hh
  go_upto_region 5 with fail
  rw [← WU.out]
  go_wp2_with fail
  refine (HF.out _).mono ?_
  rintro e w5 ⟨rfl, rfl⟩
  go_wp2_with fail
  refine (trroom_any _ cells HB.out.1 HB.out.2).mono ?_
  rintro e w6 ⟨he, rfl⟩
  rw [← HR.out] at he
  subst he
  go_wp2_with fail
  go_loopg [12] 7 (fun k v wr => ∃ i : Nat, i + k = 7 ∧ v = .int .i64 ((i : Int) + 1) ∧ Chg w6 wr Nothing)
  case atStart => exact ⟨0, rfl, rfl, Chg.refl _ _⟩
  case round =>
    obtain ⟨i, hk, rfl, hc⟩ := hrel
    obtain ⟨kd, hkd⟩ : ∃ kd : Int, kd = (i : Int) + 1 := ⟨_, rfl⟩
    rw [← hkd]
    have HK := Lib.hid hk
    have HC := Lib.hid hc
    clear hc
    have BT2 := Lib.hid ((HC.out.block _ (by have := blk_lt BT.out; have := AU.out.size; have := CU.out.size; omega) id).trans ((CU.out.block _ (by have := blk_lt BT.out; have := AU.out.size; omega) id).trans ((AU.out.block _ (blk_lt BT.out) id).trans BT.out)))
    have BU2 := Lib.hid ((HC.out.block _ (blk_lt BU.out) id).trans BU.out)
    by_cases hlt : i < 7
    · have bT := BT2.out
      have lT := blk_lt bT
      have lU := blk_lt BU2.out
      have mT : ¬ wT.heap.size = wr.heap.size := by omega
      have mU : ¬ wU.heap.size = wr.heap.size := by omega
      have e0 : wr.cell? ⟨wT.heap.size, 0, none⟩ = some (.int .i64 1) := blk_cell bT 0
      have e1 : wr.cell? ⟨wT.heap.size, 1, none⟩ = some (.slice (some ⟨g0, 0, none⟩) 45 45) := blk_cell bT 1
      have e2 : wr.cell? ⟨wT.heap.size, 2, none⟩ = some (.int .i64 2) := blk_cell bT 2
      have e3 : wr.cell? ⟨wT.heap.size, 3, none⟩ = some (.slice (some ⟨g1, 0, none⟩) 117 117) := blk_cell bT 3
      have e4 : wr.cell? ⟨wT.heap.size, 4, none⟩ = some (.int .i64 2) := blk_cell bT 4
      have e5 : wr.cell? ⟨wT.heap.size, 5, none⟩ = some (.slice (some ⟨g2, 0, none⟩) 77 77) := blk_cell bT 5
      have e6 : wr.cell? ⟨wT.heap.size, 6, none⟩ = some (.int .i64 1) := blk_cell bT 6
      have e7 : wr.cell? ⟨wT.heap.size, 7, none⟩ = some (.slice (some ⟨g3, 0, none⟩) 22 22) := blk_cell bT 7
      have e8 : wr.cell? ⟨wT.heap.size, 8, none⟩ = some (.int .i64 1) := blk_cell bT 8
      have e9 : wr.cell? ⟨wT.heap.size, 9, none⟩ = some (.slice (some ⟨g4, 0, none⟩) 41 41) := blk_cell bT 9
      have e10 : wr.cell? ⟨wT.heap.size, 10, none⟩ = some (.int .i64 1) := blk_cell bT 10
      have e11 : wr.cell? ⟨wT.heap.size, 11, none⟩ = some (.slice (some ⟨g5, 0, none⟩) 4 4) := blk_cell bT 11
      have e12 : wr.cell? ⟨wT.heap.size, 12, none⟩ = some (.int .i64 1) := blk_cell bT 12
      have e13 : wr.cell? ⟨wT.heap.size, 13, none⟩ = some (.slice (some ⟨g6, 0, none⟩) 32 32) := blk_cell bT 13
      clear bT
      have hi : i = 0 ∨ i = 1 ∨ i = 2 ∨ i = 3 ∨ i = 4 ∨ i = 5 ∨ i = 6 := by omega
      clear hlt hk
      rcases hi with rfl | rfl | rfl | rfl | rfl | rfl | rfl
      · obtain rfl : kd = 1 := by omega
        clear hkd
        go_wp2_with fail
        refine (prog20_1 _ 1 (some ⟨g0, 0, none⟩) 45 45 2 (some ⟨g1, 0, none⟩) 117 117 2 (some ⟨g2, 0, none⟩) 77 77 1 (some ⟨g3, 0, none⟩) 22 22 1 (some ⟨g4, 0, none⟩) 41 41 1 (some ⟨g5, 0, none⟩) 4 4 1 (some ⟨g6, 0, none⟩) 32 32).mono ?_
        rintro e x1 ⟨rfl, h1⟩
        obtain ⟨X1, hX1⟩ : ∃ X, X = x1.alloc (.cells #[.int .i64 1, .slice (some ⟨g0, 0, none⟩) 45 45] 26) := ⟨_, rfl⟩
        have D1 := Lib.hid (show Chg wr X1 Nothing from by rw [hX1]; exact h1.alloc _)
        have P1 := Lib.hid (show X1.heap[x1.heap.size]? = some (.cells #[.int .i64 1, .slice (some ⟨g0, 0, none⟩) 45 45] 26 (0, 0)) from by rw [hX1]; exact heap_alloc_new x1 _)
        have WX1 := Lib.hid hX1
        clear h1 hX1 e0 e1 e2 e3 e4 e5 e6 e7 e8 e9 e10 e11 e12 e13 lT lU mT mU
        have bU := D1.out.block _ (blk_lt BU2.out) id |>.trans BU2.out
        have lU := blk_lt bU
        have mU : ¬ wU.heap.size = X1.heap.size := by omega
        have f0 : X1.cell? ⟨wU.heap.size, 0, none⟩ = some (.int .i64 1) := blk_cell bU 0
        have f1 : X1.cell? ⟨wU.heap.size, 1, none⟩ = some (.slice (some ⟨k0, 0, none⟩) 45 45) := blk_cell bU 1
        have f2 : X1.cell? ⟨wU.heap.size, 2, none⟩ = some (.int .i64 2) := blk_cell bU 2
        have f3 : X1.cell? ⟨wU.heap.size, 3, none⟩ = some (.slice (some ⟨k1, 0, none⟩) 117 117) := blk_cell bU 3
        have f4 : X1.cell? ⟨wU.heap.size, 4, none⟩ = some (.int .i64 2) := blk_cell bU 4
        have f5 : X1.cell? ⟨wU.heap.size, 5, none⟩ = some (.slice (some ⟨k2, 0, none⟩) 77 77) := blk_cell bU 5
        have f6 : X1.cell? ⟨wU.heap.size, 6, none⟩ = some (.int .i64 1) := blk_cell bU 6
        have f7 : X1.cell? ⟨wU.heap.size, 7, none⟩ = some (.slice (some ⟨k3, 0, none⟩) 22 22) := blk_cell bU 7
        have f8 : X1.cell? ⟨wU.heap.size, 8, none⟩ = some (.int .i64 1) := blk_cell bU 8
        have f9 : X1.cell? ⟨wU.heap.size, 9, none⟩ = some (.slice (some ⟨k4, 0, none⟩) 41 41) := blk_cell bU 9
        have f10 : X1.cell? ⟨wU.heap.size, 10, none⟩ = some (.int .i64 1) := blk_cell bU 10
        have f11 : X1.cell? ⟨wU.heap.size, 11, none⟩ = some (.slice (some ⟨k5, 0, none⟩) 4 4) := blk_cell bU 11
        have f12 : X1.cell? ⟨wU.heap.size, 12, none⟩ = some (.int .i64 1) := blk_cell bU 12
        have f13 : X1.cell? ⟨wU.heap.size, 13, none⟩ = some (.slice (some ⟨k6, 0, none⟩) 32 32) := blk_cell bU 13
        clear bU
        go_upto_region 12 with fail
        rw [← WX1.out]
        go_wp2_with fail
        refine (prog20_1 _ 1 (some ⟨k0, 0, none⟩) 45 45 2 (some ⟨k1, 0, none⟩) 117 117 2 (some ⟨k2, 0, none⟩) 77 77 1 (some ⟨k3, 0, none⟩) 22 22 1 (some ⟨k4, 0, none⟩) 41 41 1 (some ⟨k5, 0, none⟩) 4 4 1 (some ⟨k6, 0, none⟩) 32 32).mono ?_
        rintro e x2 ⟨rfl, h2⟩
        obtain ⟨X2, hX2⟩ : ∃ X, X = x2.alloc (.cells #[.int .i64 1, .slice (some ⟨k0, 0, none⟩) 45 45] 26) := ⟨_, rfl⟩
        have D2 := Lib.hid (show Chg X1 X2 Nothing from by rw [hX2]; exact h2.alloc _)
        have P2 := Lib.hid (show X2.heap[x2.heap.size]? = some (.cells #[.int .i64 1, .slice (some ⟨k0, 0, none⟩) 45 45] 26 (0, 0)) from by rw [hX2]; exact heap_alloc_new x2 _)
        have WX2 := Lib.hid hX2
        clear h2 hX2 f0 f1 f2 f3 f4 f5 f6 f7 f8 f9 f10 f11 f12 f13 lU mU
        have b1 := (D2.out.block _ (blk_lt P1.out) id).trans P1.out
        have p10 : X2.cell? ⟨x1.heap.size, 0, none⟩ = some (.int .i64 1) := blk_cell b1 0
        have p11 : X2.cell? ⟨x1.heap.size, 1, none⟩ = some (.slice (some ⟨g0, 0, none⟩) 45 45) := blk_cell b1 1
        have l1 := blk_lt b1
        clear b1
        go_upto_region 13 with fail
        rw [← WX2.out]
        obtain ⟨g, hg, hrow⟩ := HT.out 0 _ rfl
        obtain rfl : g0 = g := Option.some.inj hg
        have cT : Chg wT X2 Nothing := ((((CT.out.trans AU.out (fun _ _ h => h)).trans CU.out (fun _ _ h => h)).trans HC.out (fun _ _ h => h)).trans D1.out (fun _ _ h => h)).trans D2.out (fun _ _ h => h)
        have RT := Lib.hid (Sees.of_owns (row_chg hrow cT (fun _ _ h => h)))
        clear hg hrow cT
        obtain ⟨g, hg, hrow⟩ := HU.out 0 _ rfl
        obtain rfl : k0 = g := Option.some.inj hg
        have cU : Chg wU X2 Nothing := ((CU.out.trans HC.out (fun _ _ h => h)).trans D1.out (fun _ _ h => h)).trans D2.out (fun _ _ h => h)
        have RU := Lib.hid (Sees.of_owns (row_chg hrow cU (fun _ _ h => h)))
        clear hg hrow cU
        go_wp2_with fail
        refine (check_any 1 (some ⟨g0, 0, none⟩) 45 (trP_Get base room) X2 RT.out).mono ?_
        rintro e x3 ⟨he, h3⟩
        obtain rfl : e = .returned (.int .i64 0) := by rw [he, trC_Get]
        have D3 := Lib.hid h3
        have p10 := h3.cell p10 id
        have p11 := h3.cell p11 id
        have b2 := (h3.block _ (blk_lt P2.out) id).trans P2.out
        have p20 : x3.cell? ⟨x2.heap.size, 0, none⟩ = some (.int .i64 1) := blk_cell b2 0
        have p21 : x3.cell? ⟨x2.heap.size, 1, none⟩ = some (.slice (some ⟨k0, 0, none⟩) 45 45) := blk_cell b2 1
        clear he h3 b2
        go_wp2_with fail
        refine (csame_true 1 (some ⟨g0, 0, none⟩) (some ⟨k0, 0, none⟩) 45 45 45 (trP_Get base room) x3 (RT.out.chg D3.out) (RU.out.chg D3.out) rfl (by show 45 ≤ _; decide)).mono ?_
        rintro e x4 ⟨rfl, h4⟩
        have D4 := Lib.hid h4
        clear h4 p10 p11 p20 p21 l1
        go_wp2_with fail
        go_roundg (gk - 1)
        case measure => have := HK.out; omega
        case rel => exact ⟨1, by have := HK.out; omega, rfl, (((HC.out.trans D1.out (fun _ _ h => h)).trans D2.out (fun _ _ h => h)).trans D3.out (fun _ _ h => h)).trans D4.out (fun _ _ h => h)⟩
      · obtain rfl : kd = 2 := by omega
        clear hkd
        go_wp2_with fail
        refine (prog20_2 _ 1 (some ⟨g0, 0, none⟩) 45 45 2 (some ⟨g1, 0, none⟩) 117 117 2 (some ⟨g2, 0, none⟩) 77 77 1 (some ⟨g3, 0, none⟩) 22 22 1 (some ⟨g4, 0, none⟩) 41 41 1 (some ⟨g5, 0, none⟩) 4 4 1 (some ⟨g6, 0, none⟩) 32 32).mono ?_
        rintro e x1 ⟨rfl, h1⟩
        obtain ⟨X1, hX1⟩ : ∃ X, X = x1.alloc (.cells #[.int .i64 2, .slice (some ⟨g1, 0, none⟩) 117 117] 26) := ⟨_, rfl⟩
        have D1 := Lib.hid (show Chg wr X1 Nothing from by rw [hX1]; exact h1.alloc _)
        have P1 := Lib.hid (show X1.heap[x1.heap.size]? = some (.cells #[.int .i64 2, .slice (some ⟨g1, 0, none⟩) 117 117] 26 (0, 0)) from by rw [hX1]; exact heap_alloc_new x1 _)
        have WX1 := Lib.hid hX1
        clear h1 hX1 e0 e1 e2 e3 e4 e5 e6 e7 e8 e9 e10 e11 e12 e13 lT lU mT mU
        have bU := D1.out.block _ (blk_lt BU2.out) id |>.trans BU2.out
        have lU := blk_lt bU
        have mU : ¬ wU.heap.size = X1.heap.size := by omega
        have f0 : X1.cell? ⟨wU.heap.size, 0, none⟩ = some (.int .i64 1) := blk_cell bU 0
        have f1 : X1.cell? ⟨wU.heap.size, 1, none⟩ = some (.slice (some ⟨k0, 0, none⟩) 45 45) := blk_cell bU 1
        have f2 : X1.cell? ⟨wU.heap.size, 2, none⟩ = some (.int .i64 2) := blk_cell bU 2
        have f3 : X1.cell? ⟨wU.heap.size, 3, none⟩ = some (.slice (some ⟨k1, 0, none⟩) 117 117) := blk_cell bU 3
        have f4 : X1.cell? ⟨wU.heap.size, 4, none⟩ = some (.int .i64 2) := blk_cell bU 4
        have f5 : X1.cell? ⟨wU.heap.size, 5, none⟩ = some (.slice (some ⟨k2, 0, none⟩) 77 77) := blk_cell bU 5
        have f6 : X1.cell? ⟨wU.heap.size, 6, none⟩ = some (.int .i64 1) := blk_cell bU 6
        have f7 : X1.cell? ⟨wU.heap.size, 7, none⟩ = some (.slice (some ⟨k3, 0, none⟩) 22 22) := blk_cell bU 7
        have f8 : X1.cell? ⟨wU.heap.size, 8, none⟩ = some (.int .i64 1) := blk_cell bU 8
        have f9 : X1.cell? ⟨wU.heap.size, 9, none⟩ = some (.slice (some ⟨k4, 0, none⟩) 41 41) := blk_cell bU 9
        have f10 : X1.cell? ⟨wU.heap.size, 10, none⟩ = some (.int .i64 1) := blk_cell bU 10
        have f11 : X1.cell? ⟨wU.heap.size, 11, none⟩ = some (.slice (some ⟨k5, 0, none⟩) 4 4) := blk_cell bU 11
        have f12 : X1.cell? ⟨wU.heap.size, 12, none⟩ = some (.int .i64 1) := blk_cell bU 12
        have f13 : X1.cell? ⟨wU.heap.size, 13, none⟩ = some (.slice (some ⟨k6, 0, none⟩) 32 32) := blk_cell bU 13
        clear bU
        go_upto_region 12 with fail
        rw [← WX1.out]
        go_wp2_with fail
        refine (prog20_2 _ 1 (some ⟨k0, 0, none⟩) 45 45 2 (some ⟨k1, 0, none⟩) 117 117 2 (some ⟨k2, 0, none⟩) 77 77 1 (some ⟨k3, 0, none⟩) 22 22 1 (some ⟨k4, 0, none⟩) 41 41 1 (some ⟨k5, 0, none⟩) 4 4 1 (some ⟨k6, 0, none⟩) 32 32).mono ?_
        rintro e x2 ⟨rfl, h2⟩
        obtain ⟨X2, hX2⟩ : ∃ X, X = x2.alloc (.cells #[.int .i64 2, .slice (some ⟨k1, 0, none⟩) 117 117] 26) := ⟨_, rfl⟩
        have D2 := Lib.hid (show Chg X1 X2 Nothing from by rw [hX2]; exact h2.alloc _)
        have P2 := Lib.hid (show X2.heap[x2.heap.size]? = some (.cells #[.int .i64 2, .slice (some ⟨k1, 0, none⟩) 117 117] 26 (0, 0)) from by rw [hX2]; exact heap_alloc_new x2 _)
        have WX2 := Lib.hid hX2
        clear h2 hX2 f0 f1 f2 f3 f4 f5 f6 f7 f8 f9 f10 f11 f12 f13 lU mU
        have b1 := (D2.out.block _ (blk_lt P1.out) id).trans P1.out
        have p10 : X2.cell? ⟨x1.heap.size, 0, none⟩ = some (.int .i64 2) := blk_cell b1 0
        have p11 : X2.cell? ⟨x1.heap.size, 1, none⟩ = some (.slice (some ⟨g1, 0, none⟩) 117 117) := blk_cell b1 1
        have l1 := blk_lt b1
        clear b1
        go_upto_region 13 with fail
        rw [← WX2.out]
        obtain ⟨g, hg, hrow⟩ := HT.out 1 _ rfl
        obtain rfl : g1 = g := Option.some.inj hg
        have cT : Chg wT X2 Nothing := ((((CT.out.trans AU.out (fun _ _ h => h)).trans CU.out (fun _ _ h => h)).trans HC.out (fun _ _ h => h)).trans D1.out (fun _ _ h => h)).trans D2.out (fun _ _ h => h)
        have RT := Lib.hid (Sees.of_owns (row_chg hrow cT (fun _ _ h => h)))
        clear hg hrow cT
        obtain ⟨g, hg, hrow⟩ := HU.out 1 _ rfl
        obtain rfl : k1 = g := Option.some.inj hg
        have cU : Chg wU X2 Nothing := ((CU.out.trans HC.out (fun _ _ h => h)).trans D1.out (fun _ _ h => h)).trans D2.out (fun _ _ h => h)
        have RU := Lib.hid (Sees.of_owns (row_chg hrow cU (fun _ _ h => h)))
        clear hg hrow cU
        go_wp2_with fail
        refine (check_any 2 (some ⟨g1, 0, none⟩) 117 (trP_Put base room) X2 RT.out).mono ?_
        rintro e x3 ⟨he, h3⟩
        obtain rfl : e = .returned (.int .i64 0) := by rw [he, trC_Put]
        have D3 := Lib.hid h3
        have p10 := h3.cell p10 id
        have p11 := h3.cell p11 id
        have b2 := (h3.block _ (blk_lt P2.out) id).trans P2.out
        have p20 : x3.cell? ⟨x2.heap.size, 0, none⟩ = some (.int .i64 2) := blk_cell b2 0
        have p21 : x3.cell? ⟨x2.heap.size, 1, none⟩ = some (.slice (some ⟨k1, 0, none⟩) 117 117) := blk_cell b2 1
        clear he h3 b2
        go_wp2_with fail
        refine (csame_true 2 (some ⟨g1, 0, none⟩) (some ⟨k1, 0, none⟩) 117 117 117 (trP_Put base room) x3 (RT.out.chg D3.out) (RU.out.chg D3.out) rfl (by show 117 ≤ _; decide)).mono ?_
        rintro e x4 ⟨rfl, h4⟩
        have D4 := Lib.hid h4
        clear h4 p10 p11 p20 p21 l1
        go_wp2_with fail
        go_roundg (gk - 1)
        case measure => have := HK.out; omega
        case rel => exact ⟨2, by have := HK.out; omega, rfl, (((HC.out.trans D1.out (fun _ _ h => h)).trans D2.out (fun _ _ h => h)).trans D3.out (fun _ _ h => h)).trans D4.out (fun _ _ h => h)⟩
      · obtain rfl : kd = 3 := by omega
        clear hkd
        go_wp2_with fail
        refine (prog20_3 _ 1 (some ⟨g0, 0, none⟩) 45 45 2 (some ⟨g1, 0, none⟩) 117 117 2 (some ⟨g2, 0, none⟩) 77 77 1 (some ⟨g3, 0, none⟩) 22 22 1 (some ⟨g4, 0, none⟩) 41 41 1 (some ⟨g5, 0, none⟩) 4 4 1 (some ⟨g6, 0, none⟩) 32 32).mono ?_
        rintro e x1 ⟨rfl, h1⟩
        obtain ⟨X1, hX1⟩ : ∃ X, X = x1.alloc (.cells #[.int .i64 2, .slice (some ⟨g2, 0, none⟩) 77 77] 26) := ⟨_, rfl⟩
        have D1 := Lib.hid (show Chg wr X1 Nothing from by rw [hX1]; exact h1.alloc _)
        have P1 := Lib.hid (show X1.heap[x1.heap.size]? = some (.cells #[.int .i64 2, .slice (some ⟨g2, 0, none⟩) 77 77] 26 (0, 0)) from by rw [hX1]; exact heap_alloc_new x1 _)
        have WX1 := Lib.hid hX1
        clear h1 hX1 e0 e1 e2 e3 e4 e5 e6 e7 e8 e9 e10 e11 e12 e13 lT lU mT mU
        have bU := D1.out.block _ (blk_lt BU2.out) id |>.trans BU2.out
        have lU := blk_lt bU
        have mU : ¬ wU.heap.size = X1.heap.size := by omega
        have f0 : X1.cell? ⟨wU.heap.size, 0, none⟩ = some (.int .i64 1) := blk_cell bU 0
        have f1 : X1.cell? ⟨wU.heap.size, 1, none⟩ = some (.slice (some ⟨k0, 0, none⟩) 45 45) := blk_cell bU 1
        have f2 : X1.cell? ⟨wU.heap.size, 2, none⟩ = some (.int .i64 2) := blk_cell bU 2
        have f3 : X1.cell? ⟨wU.heap.size, 3, none⟩ = some (.slice (some ⟨k1, 0, none⟩) 117 117) := blk_cell bU 3
        have f4 : X1.cell? ⟨wU.heap.size, 4, none⟩ = some (.int .i64 2) := blk_cell bU 4
        have f5 : X1.cell? ⟨wU.heap.size, 5, none⟩ = some (.slice (some ⟨k2, 0, none⟩) 77 77) := blk_cell bU 5
        have f6 : X1.cell? ⟨wU.heap.size, 6, none⟩ = some (.int .i64 1) := blk_cell bU 6
        have f7 : X1.cell? ⟨wU.heap.size, 7, none⟩ = some (.slice (some ⟨k3, 0, none⟩) 22 22) := blk_cell bU 7
        have f8 : X1.cell? ⟨wU.heap.size, 8, none⟩ = some (.int .i64 1) := blk_cell bU 8
        have f9 : X1.cell? ⟨wU.heap.size, 9, none⟩ = some (.slice (some ⟨k4, 0, none⟩) 41 41) := blk_cell bU 9
        have f10 : X1.cell? ⟨wU.heap.size, 10, none⟩ = some (.int .i64 1) := blk_cell bU 10
        have f11 : X1.cell? ⟨wU.heap.size, 11, none⟩ = some (.slice (some ⟨k5, 0, none⟩) 4 4) := blk_cell bU 11
        have f12 : X1.cell? ⟨wU.heap.size, 12, none⟩ = some (.int .i64 1) := blk_cell bU 12
        have f13 : X1.cell? ⟨wU.heap.size, 13, none⟩ = some (.slice (some ⟨k6, 0, none⟩) 32 32) := blk_cell bU 13
        clear bU
        go_upto_region 12 with fail
        rw [← WX1.out]
        go_wp2_with fail
        refine (prog20_3 _ 1 (some ⟨k0, 0, none⟩) 45 45 2 (some ⟨k1, 0, none⟩) 117 117 2 (some ⟨k2, 0, none⟩) 77 77 1 (some ⟨k3, 0, none⟩) 22 22 1 (some ⟨k4, 0, none⟩) 41 41 1 (some ⟨k5, 0, none⟩) 4 4 1 (some ⟨k6, 0, none⟩) 32 32).mono ?_
        rintro e x2 ⟨rfl, h2⟩
        obtain ⟨X2, hX2⟩ : ∃ X, X = x2.alloc (.cells #[.int .i64 2, .slice (some ⟨k2, 0, none⟩) 77 77] 26) := ⟨_, rfl⟩
        have D2 := Lib.hid (show Chg X1 X2 Nothing from by rw [hX2]; exact h2.alloc _)
        have P2 := Lib.hid (show X2.heap[x2.heap.size]? = some (.cells #[.int .i64 2, .slice (some ⟨k2, 0, none⟩) 77 77] 26 (0, 0)) from by rw [hX2]; exact heap_alloc_new x2 _)
        have WX2 := Lib.hid hX2
        clear h2 hX2 f0 f1 f2 f3 f4 f5 f6 f7 f8 f9 f10 f11 f12 f13 lU mU
        have b1 := (D2.out.block _ (blk_lt P1.out) id).trans P1.out
        have p10 : X2.cell? ⟨x1.heap.size, 0, none⟩ = some (.int .i64 2) := blk_cell b1 0
        have p11 : X2.cell? ⟨x1.heap.size, 1, none⟩ = some (.slice (some ⟨g2, 0, none⟩) 77 77) := blk_cell b1 1
        have l1 := blk_lt b1
        clear b1
        go_upto_region 13 with fail
        rw [← WX2.out]
        obtain ⟨g, hg, hrow⟩ := HT.out 2 _ rfl
        obtain rfl : g2 = g := Option.some.inj hg
        have cT : Chg wT X2 Nothing := ((((CT.out.trans AU.out (fun _ _ h => h)).trans CU.out (fun _ _ h => h)).trans HC.out (fun _ _ h => h)).trans D1.out (fun _ _ h => h)).trans D2.out (fun _ _ h => h)
        have RT := Lib.hid (Sees.of_owns (row_chg hrow cT (fun _ _ h => h)))
        clear hg hrow cT
        obtain ⟨g, hg, hrow⟩ := HU.out 2 _ rfl
        obtain rfl : k2 = g := Option.some.inj hg
        have cU : Chg wU X2 Nothing := ((CU.out.trans HC.out (fun _ _ h => h)).trans D1.out (fun _ _ h => h)).trans D2.out (fun _ _ h => h)
        have RU := Lib.hid (Sees.of_owns (row_chg hrow cU (fun _ _ h => h)))
        clear hg hrow cU
        go_wp2_with fail
        refine (check_any 2 (some ⟨g2, 0, none⟩) 77 (trP_Del base room) X2 RT.out).mono ?_
        rintro e x3 ⟨he, h3⟩
        obtain rfl : e = .returned (.int .i64 0) := by rw [he, trC_Del]
        have D3 := Lib.hid h3
        have p10 := h3.cell p10 id
        have p11 := h3.cell p11 id
        have b2 := (h3.block _ (blk_lt P2.out) id).trans P2.out
        have p20 : x3.cell? ⟨x2.heap.size, 0, none⟩ = some (.int .i64 2) := blk_cell b2 0
        have p21 : x3.cell? ⟨x2.heap.size, 1, none⟩ = some (.slice (some ⟨k2, 0, none⟩) 77 77) := blk_cell b2 1
        clear he h3 b2
        go_wp2_with fail
        refine (csame_true 2 (some ⟨g2, 0, none⟩) (some ⟨k2, 0, none⟩) 77 77 77 (trP_Del base room) x3 (RT.out.chg D3.out) (RU.out.chg D3.out) rfl (by show 77 ≤ _; decide)).mono ?_
        rintro e x4 ⟨rfl, h4⟩
        have D4 := Lib.hid h4
        clear h4 p10 p11 p20 p21 l1
        go_wp2_with fail
        go_roundg (gk - 1)
        case measure => have := HK.out; omega
        case rel => exact ⟨3, by have := HK.out; omega, rfl, (((HC.out.trans D1.out (fun _ _ h => h)).trans D2.out (fun _ _ h => h)).trans D3.out (fun _ _ h => h)).trans D4.out (fun _ _ h => h)⟩
      · obtain rfl : kd = 4 := by omega
        clear hkd
        go_wp2_with fail
        refine (prog20_4 _ 1 (some ⟨g0, 0, none⟩) 45 45 2 (some ⟨g1, 0, none⟩) 117 117 2 (some ⟨g2, 0, none⟩) 77 77 1 (some ⟨g3, 0, none⟩) 22 22 1 (some ⟨g4, 0, none⟩) 41 41 1 (some ⟨g5, 0, none⟩) 4 4 1 (some ⟨g6, 0, none⟩) 32 32).mono ?_
        rintro e x1 ⟨rfl, h1⟩
        obtain ⟨X1, hX1⟩ : ∃ X, X = x1.alloc (.cells #[.int .i64 1, .slice (some ⟨g3, 0, none⟩) 22 22] 26) := ⟨_, rfl⟩
        have D1 := Lib.hid (show Chg wr X1 Nothing from by rw [hX1]; exact h1.alloc _)
        have P1 := Lib.hid (show X1.heap[x1.heap.size]? = some (.cells #[.int .i64 1, .slice (some ⟨g3, 0, none⟩) 22 22] 26 (0, 0)) from by rw [hX1]; exact heap_alloc_new x1 _)
        have WX1 := Lib.hid hX1
        clear h1 hX1 e0 e1 e2 e3 e4 e5 e6 e7 e8 e9 e10 e11 e12 e13 lT lU mT mU
        have bU := D1.out.block _ (blk_lt BU2.out) id |>.trans BU2.out
        have lU := blk_lt bU
        have mU : ¬ wU.heap.size = X1.heap.size := by omega
        have f0 : X1.cell? ⟨wU.heap.size, 0, none⟩ = some (.int .i64 1) := blk_cell bU 0
        have f1 : X1.cell? ⟨wU.heap.size, 1, none⟩ = some (.slice (some ⟨k0, 0, none⟩) 45 45) := blk_cell bU 1
        have f2 : X1.cell? ⟨wU.heap.size, 2, none⟩ = some (.int .i64 2) := blk_cell bU 2
        have f3 : X1.cell? ⟨wU.heap.size, 3, none⟩ = some (.slice (some ⟨k1, 0, none⟩) 117 117) := blk_cell bU 3
        have f4 : X1.cell? ⟨wU.heap.size, 4, none⟩ = some (.int .i64 2) := blk_cell bU 4
        have f5 : X1.cell? ⟨wU.heap.size, 5, none⟩ = some (.slice (some ⟨k2, 0, none⟩) 77 77) := blk_cell bU 5
        have f6 : X1.cell? ⟨wU.heap.size, 6, none⟩ = some (.int .i64 1) := blk_cell bU 6
        have f7 : X1.cell? ⟨wU.heap.size, 7, none⟩ = some (.slice (some ⟨k3, 0, none⟩) 22 22) := blk_cell bU 7
        have f8 : X1.cell? ⟨wU.heap.size, 8, none⟩ = some (.int .i64 1) := blk_cell bU 8
        have f9 : X1.cell? ⟨wU.heap.size, 9, none⟩ = some (.slice (some ⟨k4, 0, none⟩) 41 41) := blk_cell bU 9
        have f10 : X1.cell? ⟨wU.heap.size, 10, none⟩ = some (.int .i64 1) := blk_cell bU 10
        have f11 : X1.cell? ⟨wU.heap.size, 11, none⟩ = some (.slice (some ⟨k5, 0, none⟩) 4 4) := blk_cell bU 11
        have f12 : X1.cell? ⟨wU.heap.size, 12, none⟩ = some (.int .i64 1) := blk_cell bU 12
        have f13 : X1.cell? ⟨wU.heap.size, 13, none⟩ = some (.slice (some ⟨k6, 0, none⟩) 32 32) := blk_cell bU 13
        clear bU
        go_upto_region 12 with fail
        rw [← WX1.out]
        go_wp2_with fail
        refine (prog20_4 _ 1 (some ⟨k0, 0, none⟩) 45 45 2 (some ⟨k1, 0, none⟩) 117 117 2 (some ⟨k2, 0, none⟩) 77 77 1 (some ⟨k3, 0, none⟩) 22 22 1 (some ⟨k4, 0, none⟩) 41 41 1 (some ⟨k5, 0, none⟩) 4 4 1 (some ⟨k6, 0, none⟩) 32 32).mono ?_
        rintro e x2 ⟨rfl, h2⟩
        obtain ⟨X2, hX2⟩ : ∃ X, X = x2.alloc (.cells #[.int .i64 1, .slice (some ⟨k3, 0, none⟩) 22 22] 26) := ⟨_, rfl⟩
        have D2 := Lib.hid (show Chg X1 X2 Nothing from by rw [hX2]; exact h2.alloc _)
        have P2 := Lib.hid (show X2.heap[x2.heap.size]? = some (.cells #[.int .i64 1, .slice (some ⟨k3, 0, none⟩) 22 22] 26 (0, 0)) from by rw [hX2]; exact heap_alloc_new x2 _)
        have WX2 := Lib.hid hX2
        clear h2 hX2 f0 f1 f2 f3 f4 f5 f6 f7 f8 f9 f10 f11 f12 f13 lU mU
        have b1 := (D2.out.block _ (blk_lt P1.out) id).trans P1.out
        have p10 : X2.cell? ⟨x1.heap.size, 0, none⟩ = some (.int .i64 1) := blk_cell b1 0
        have p11 : X2.cell? ⟨x1.heap.size, 1, none⟩ = some (.slice (some ⟨g3, 0, none⟩) 22 22) := blk_cell b1 1
        have l1 := blk_lt b1
        clear b1
        go_upto_region 13 with fail
        rw [← WX2.out]
        obtain ⟨g, hg, hrow⟩ := HT.out 3 _ rfl
        obtain rfl : g3 = g := Option.some.inj hg
        have cT : Chg wT X2 Nothing := ((((CT.out.trans AU.out (fun _ _ h => h)).trans CU.out (fun _ _ h => h)).trans HC.out (fun _ _ h => h)).trans D1.out (fun _ _ h => h)).trans D2.out (fun _ _ h => h)
        have RT := Lib.hid (Sees.of_owns (row_chg hrow cT (fun _ _ h => h)))
        clear hg hrow cT
        obtain ⟨g, hg, hrow⟩ := HU.out 3 _ rfl
        obtain rfl : k3 = g := Option.some.inj hg
        have cU : Chg wU X2 Nothing := ((CU.out.trans HC.out (fun _ _ h => h)).trans D1.out (fun _ _ h => h)).trans D2.out (fun _ _ h => h)
        have RU := Lib.hid (Sees.of_owns (row_chg hrow cU (fun _ _ h => h)))
        clear hg hrow cU
        go_wp2_with fail
        refine (check_any 1 (some ⟨g3, 0, none⟩) 22 (trP_Least base room) X2 RT.out).mono ?_
        rintro e x3 ⟨he, h3⟩
        obtain rfl : e = .returned (.int .i64 0) := by rw [he, trC_Least]
        have D3 := Lib.hid h3
        have p10 := h3.cell p10 id
        have p11 := h3.cell p11 id
        have b2 := (h3.block _ (blk_lt P2.out) id).trans P2.out
        have p20 : x3.cell? ⟨x2.heap.size, 0, none⟩ = some (.int .i64 1) := blk_cell b2 0
        have p21 : x3.cell? ⟨x2.heap.size, 1, none⟩ = some (.slice (some ⟨k3, 0, none⟩) 22 22) := blk_cell b2 1
        clear he h3 b2
        go_wp2_with fail
        refine (csame_true 1 (some ⟨g3, 0, none⟩) (some ⟨k3, 0, none⟩) 22 22 22 (trP_Least base room) x3 (RT.out.chg D3.out) (RU.out.chg D3.out) rfl (by show 22 ≤ _; decide)).mono ?_
        rintro e x4 ⟨rfl, h4⟩
        have D4 := Lib.hid h4
        clear h4 p10 p11 p20 p21 l1
        go_wp2_with fail
        go_roundg (gk - 1)
        case measure => have := HK.out; omega
        case rel => exact ⟨4, by have := HK.out; omega, rfl, (((HC.out.trans D1.out (fun _ _ h => h)).trans D2.out (fun _ _ h => h)).trans D3.out (fun _ _ h => h)).trans D4.out (fun _ _ h => h)⟩
      · obtain rfl : kd = 5 := by omega
        clear hkd
        go_wp2_with fail
        refine (prog20_5 _ 1 (some ⟨g0, 0, none⟩) 45 45 2 (some ⟨g1, 0, none⟩) 117 117 2 (some ⟨g2, 0, none⟩) 77 77 1 (some ⟨g3, 0, none⟩) 22 22 1 (some ⟨g4, 0, none⟩) 41 41 1 (some ⟨g5, 0, none⟩) 4 4 1 (some ⟨g6, 0, none⟩) 32 32).mono ?_
        rintro e x1 ⟨rfl, h1⟩
        obtain ⟨X1, hX1⟩ : ∃ X, X = x1.alloc (.cells #[.int .i64 1, .slice (some ⟨g4, 0, none⟩) 41 41] 26) := ⟨_, rfl⟩
        have D1 := Lib.hid (show Chg wr X1 Nothing from by rw [hX1]; exact h1.alloc _)
        have P1 := Lib.hid (show X1.heap[x1.heap.size]? = some (.cells #[.int .i64 1, .slice (some ⟨g4, 0, none⟩) 41 41] 26 (0, 0)) from by rw [hX1]; exact heap_alloc_new x1 _)
        have WX1 := Lib.hid hX1
        clear h1 hX1 e0 e1 e2 e3 e4 e5 e6 e7 e8 e9 e10 e11 e12 e13 lT lU mT mU
        have bU := D1.out.block _ (blk_lt BU2.out) id |>.trans BU2.out
        have lU := blk_lt bU
        have mU : ¬ wU.heap.size = X1.heap.size := by omega
        have f0 : X1.cell? ⟨wU.heap.size, 0, none⟩ = some (.int .i64 1) := blk_cell bU 0
        have f1 : X1.cell? ⟨wU.heap.size, 1, none⟩ = some (.slice (some ⟨k0, 0, none⟩) 45 45) := blk_cell bU 1
        have f2 : X1.cell? ⟨wU.heap.size, 2, none⟩ = some (.int .i64 2) := blk_cell bU 2
        have f3 : X1.cell? ⟨wU.heap.size, 3, none⟩ = some (.slice (some ⟨k1, 0, none⟩) 117 117) := blk_cell bU 3
        have f4 : X1.cell? ⟨wU.heap.size, 4, none⟩ = some (.int .i64 2) := blk_cell bU 4
        have f5 : X1.cell? ⟨wU.heap.size, 5, none⟩ = some (.slice (some ⟨k2, 0, none⟩) 77 77) := blk_cell bU 5
        have f6 : X1.cell? ⟨wU.heap.size, 6, none⟩ = some (.int .i64 1) := blk_cell bU 6
        have f7 : X1.cell? ⟨wU.heap.size, 7, none⟩ = some (.slice (some ⟨k3, 0, none⟩) 22 22) := blk_cell bU 7
        have f8 : X1.cell? ⟨wU.heap.size, 8, none⟩ = some (.int .i64 1) := blk_cell bU 8
        have f9 : X1.cell? ⟨wU.heap.size, 9, none⟩ = some (.slice (some ⟨k4, 0, none⟩) 41 41) := blk_cell bU 9
        have f10 : X1.cell? ⟨wU.heap.size, 10, none⟩ = some (.int .i64 1) := blk_cell bU 10
        have f11 : X1.cell? ⟨wU.heap.size, 11, none⟩ = some (.slice (some ⟨k5, 0, none⟩) 4 4) := blk_cell bU 11
        have f12 : X1.cell? ⟨wU.heap.size, 12, none⟩ = some (.int .i64 1) := blk_cell bU 12
        have f13 : X1.cell? ⟨wU.heap.size, 13, none⟩ = some (.slice (some ⟨k6, 0, none⟩) 32 32) := blk_cell bU 13
        clear bU
        go_upto_region 12 with fail
        rw [← WX1.out]
        go_wp2_with fail
        refine (prog20_5 _ 1 (some ⟨k0, 0, none⟩) 45 45 2 (some ⟨k1, 0, none⟩) 117 117 2 (some ⟨k2, 0, none⟩) 77 77 1 (some ⟨k3, 0, none⟩) 22 22 1 (some ⟨k4, 0, none⟩) 41 41 1 (some ⟨k5, 0, none⟩) 4 4 1 (some ⟨k6, 0, none⟩) 32 32).mono ?_
        rintro e x2 ⟨rfl, h2⟩
        obtain ⟨X2, hX2⟩ : ∃ X, X = x2.alloc (.cells #[.int .i64 1, .slice (some ⟨k4, 0, none⟩) 41 41] 26) := ⟨_, rfl⟩
        have D2 := Lib.hid (show Chg X1 X2 Nothing from by rw [hX2]; exact h2.alloc _)
        have P2 := Lib.hid (show X2.heap[x2.heap.size]? = some (.cells #[.int .i64 1, .slice (some ⟨k4, 0, none⟩) 41 41] 26 (0, 0)) from by rw [hX2]; exact heap_alloc_new x2 _)
        have WX2 := Lib.hid hX2
        clear h2 hX2 f0 f1 f2 f3 f4 f5 f6 f7 f8 f9 f10 f11 f12 f13 lU mU
        have b1 := (D2.out.block _ (blk_lt P1.out) id).trans P1.out
        have p10 : X2.cell? ⟨x1.heap.size, 0, none⟩ = some (.int .i64 1) := blk_cell b1 0
        have p11 : X2.cell? ⟨x1.heap.size, 1, none⟩ = some (.slice (some ⟨g4, 0, none⟩) 41 41) := blk_cell b1 1
        have l1 := blk_lt b1
        clear b1
        go_upto_region 13 with fail
        rw [← WX2.out]
        obtain ⟨g, hg, hrow⟩ := HT.out 4 _ rfl
        obtain rfl : g4 = g := Option.some.inj hg
        have cT : Chg wT X2 Nothing := ((((CT.out.trans AU.out (fun _ _ h => h)).trans CU.out (fun _ _ h => h)).trans HC.out (fun _ _ h => h)).trans D1.out (fun _ _ h => h)).trans D2.out (fun _ _ h => h)
        have RT := Lib.hid (Sees.of_owns (row_chg hrow cT (fun _ _ h => h)))
        clear hg hrow cT
        obtain ⟨g, hg, hrow⟩ := HU.out 4 _ rfl
        obtain rfl : k4 = g := Option.some.inj hg
        have cU : Chg wU X2 Nothing := ((CU.out.trans HC.out (fun _ _ h => h)).trans D1.out (fun _ _ h => h)).trans D2.out (fun _ _ h => h)
        have RU := Lib.hid (Sees.of_owns (row_chg hrow cU (fun _ _ h => h)))
        clear hg hrow cU
        go_wp2_with fail
        refine (check_any 1 (some ⟨g4, 0, none⟩) 41 (trP_After base room) X2 RT.out).mono ?_
        rintro e x3 ⟨he, h3⟩
        obtain rfl : e = .returned (.int .i64 0) := by rw [he, trC_After]
        have D3 := Lib.hid h3
        have p10 := h3.cell p10 id
        have p11 := h3.cell p11 id
        have b2 := (h3.block _ (blk_lt P2.out) id).trans P2.out
        have p20 : x3.cell? ⟨x2.heap.size, 0, none⟩ = some (.int .i64 1) := blk_cell b2 0
        have p21 : x3.cell? ⟨x2.heap.size, 1, none⟩ = some (.slice (some ⟨k4, 0, none⟩) 41 41) := blk_cell b2 1
        clear he h3 b2
        go_wp2_with fail
        refine (csame_true 1 (some ⟨g4, 0, none⟩) (some ⟨k4, 0, none⟩) 41 41 41 (trP_After base room) x3 (RT.out.chg D3.out) (RU.out.chg D3.out) rfl (by show 41 ≤ _; decide)).mono ?_
        rintro e x4 ⟨rfl, h4⟩
        have D4 := Lib.hid h4
        clear h4 p10 p11 p20 p21 l1
        go_wp2_with fail
        go_roundg (gk - 1)
        case measure => have := HK.out; omega
        case rel => exact ⟨5, by have := HK.out; omega, rfl, (((HC.out.trans D1.out (fun _ _ h => h)).trans D2.out (fun _ _ h => h)).trans D3.out (fun _ _ h => h)).trans D4.out (fun _ _ h => h)⟩
      · obtain rfl : kd = 6 := by omega
        clear hkd
        go_wp2_with fail
        refine (prog20_6 _ 1 (some ⟨g0, 0, none⟩) 45 45 2 (some ⟨g1, 0, none⟩) 117 117 2 (some ⟨g2, 0, none⟩) 77 77 1 (some ⟨g3, 0, none⟩) 22 22 1 (some ⟨g4, 0, none⟩) 41 41 1 (some ⟨g5, 0, none⟩) 4 4 1 (some ⟨g6, 0, none⟩) 32 32).mono ?_
        rintro e x1 ⟨rfl, h1⟩
        obtain ⟨X1, hX1⟩ : ∃ X, X = x1.alloc (.cells #[.int .i64 1, .slice (some ⟨g5, 0, none⟩) 4 4] 26) := ⟨_, rfl⟩
        have D1 := Lib.hid (show Chg wr X1 Nothing from by rw [hX1]; exact h1.alloc _)
        have P1 := Lib.hid (show X1.heap[x1.heap.size]? = some (.cells #[.int .i64 1, .slice (some ⟨g5, 0, none⟩) 4 4] 26 (0, 0)) from by rw [hX1]; exact heap_alloc_new x1 _)
        have WX1 := Lib.hid hX1
        clear h1 hX1 e0 e1 e2 e3 e4 e5 e6 e7 e8 e9 e10 e11 e12 e13 lT lU mT mU
        have bU := D1.out.block _ (blk_lt BU2.out) id |>.trans BU2.out
        have lU := blk_lt bU
        have mU : ¬ wU.heap.size = X1.heap.size := by omega
        have f0 : X1.cell? ⟨wU.heap.size, 0, none⟩ = some (.int .i64 1) := blk_cell bU 0
        have f1 : X1.cell? ⟨wU.heap.size, 1, none⟩ = some (.slice (some ⟨k0, 0, none⟩) 45 45) := blk_cell bU 1
        have f2 : X1.cell? ⟨wU.heap.size, 2, none⟩ = some (.int .i64 2) := blk_cell bU 2
        have f3 : X1.cell? ⟨wU.heap.size, 3, none⟩ = some (.slice (some ⟨k1, 0, none⟩) 117 117) := blk_cell bU 3
        have f4 : X1.cell? ⟨wU.heap.size, 4, none⟩ = some (.int .i64 2) := blk_cell bU 4
        have f5 : X1.cell? ⟨wU.heap.size, 5, none⟩ = some (.slice (some ⟨k2, 0, none⟩) 77 77) := blk_cell bU 5
        have f6 : X1.cell? ⟨wU.heap.size, 6, none⟩ = some (.int .i64 1) := blk_cell bU 6
        have f7 : X1.cell? ⟨wU.heap.size, 7, none⟩ = some (.slice (some ⟨k3, 0, none⟩) 22 22) := blk_cell bU 7
        have f8 : X1.cell? ⟨wU.heap.size, 8, none⟩ = some (.int .i64 1) := blk_cell bU 8
        have f9 : X1.cell? ⟨wU.heap.size, 9, none⟩ = some (.slice (some ⟨k4, 0, none⟩) 41 41) := blk_cell bU 9
        have f10 : X1.cell? ⟨wU.heap.size, 10, none⟩ = some (.int .i64 1) := blk_cell bU 10
        have f11 : X1.cell? ⟨wU.heap.size, 11, none⟩ = some (.slice (some ⟨k5, 0, none⟩) 4 4) := blk_cell bU 11
        have f12 : X1.cell? ⟨wU.heap.size, 12, none⟩ = some (.int .i64 1) := blk_cell bU 12
        have f13 : X1.cell? ⟨wU.heap.size, 13, none⟩ = some (.slice (some ⟨k6, 0, none⟩) 32 32) := blk_cell bU 13
        clear bU
        go_upto_region 12 with fail
        rw [← WX1.out]
        go_wp2_with fail
        refine (prog20_6 _ 1 (some ⟨k0, 0, none⟩) 45 45 2 (some ⟨k1, 0, none⟩) 117 117 2 (some ⟨k2, 0, none⟩) 77 77 1 (some ⟨k3, 0, none⟩) 22 22 1 (some ⟨k4, 0, none⟩) 41 41 1 (some ⟨k5, 0, none⟩) 4 4 1 (some ⟨k6, 0, none⟩) 32 32).mono ?_
        rintro e x2 ⟨rfl, h2⟩
        obtain ⟨X2, hX2⟩ : ∃ X, X = x2.alloc (.cells #[.int .i64 1, .slice (some ⟨k5, 0, none⟩) 4 4] 26) := ⟨_, rfl⟩
        have D2 := Lib.hid (show Chg X1 X2 Nothing from by rw [hX2]; exact h2.alloc _)
        have P2 := Lib.hid (show X2.heap[x2.heap.size]? = some (.cells #[.int .i64 1, .slice (some ⟨k5, 0, none⟩) 4 4] 26 (0, 0)) from by rw [hX2]; exact heap_alloc_new x2 _)
        have WX2 := Lib.hid hX2
        clear h2 hX2 f0 f1 f2 f3 f4 f5 f6 f7 f8 f9 f10 f11 f12 f13 lU mU
        have b1 := (D2.out.block _ (blk_lt P1.out) id).trans P1.out
        have p10 : X2.cell? ⟨x1.heap.size, 0, none⟩ = some (.int .i64 1) := blk_cell b1 0
        have p11 : X2.cell? ⟨x1.heap.size, 1, none⟩ = some (.slice (some ⟨g5, 0, none⟩) 4 4) := blk_cell b1 1
        have l1 := blk_lt b1
        clear b1
        go_upto_region 13 with fail
        rw [← WX2.out]
        obtain ⟨g, hg, hrow⟩ := HT.out 5 _ rfl
        obtain rfl : g5 = g := Option.some.inj hg
        have cT : Chg wT X2 Nothing := ((((CT.out.trans AU.out (fun _ _ h => h)).trans CU.out (fun _ _ h => h)).trans HC.out (fun _ _ h => h)).trans D1.out (fun _ _ h => h)).trans D2.out (fun _ _ h => h)
        have RT := Lib.hid (Sees.of_owns (row_chg hrow cT (fun _ _ h => h)))
        clear hg hrow cT
        obtain ⟨g, hg, hrow⟩ := HU.out 5 _ rfl
        obtain rfl : k5 = g := Option.some.inj hg
        have cU : Chg wU X2 Nothing := ((CU.out.trans HC.out (fun _ _ h => h)).trans D1.out (fun _ _ h => h)).trans D2.out (fun _ _ h => h)
        have RU := Lib.hid (Sees.of_owns (row_chg hrow cU (fun _ _ h => h)))
        clear hg hrow cU
        go_wp2_with fail
        refine (check_any 1 (some ⟨g5, 0, none⟩) 4 (trP_Len base room) X2 RT.out).mono ?_
        rintro e x3 ⟨he, h3⟩
        obtain rfl : e = .returned (.int .i64 0) := by rw [he, trC_Len]
        have D3 := Lib.hid h3
        have p10 := h3.cell p10 id
        have p11 := h3.cell p11 id
        have b2 := (h3.block _ (blk_lt P2.out) id).trans P2.out
        have p20 : x3.cell? ⟨x2.heap.size, 0, none⟩ = some (.int .i64 1) := blk_cell b2 0
        have p21 : x3.cell? ⟨x2.heap.size, 1, none⟩ = some (.slice (some ⟨k5, 0, none⟩) 4 4) := blk_cell b2 1
        clear he h3 b2
        go_wp2_with fail
        refine (csame_true 1 (some ⟨g5, 0, none⟩) (some ⟨k5, 0, none⟩) 4 4 4 (trP_Len base room) x3 (RT.out.chg D3.out) (RU.out.chg D3.out) rfl (by show 4 ≤ _; decide)).mono ?_
        rintro e x4 ⟨rfl, h4⟩
        have D4 := Lib.hid h4
        clear h4 p10 p11 p20 p21 l1
        go_wp2_with fail
        go_roundg (gk - 1)
        case measure => have := HK.out; omega
        case rel => exact ⟨6, by have := HK.out; omega, rfl, (((HC.out.trans D1.out (fun _ _ h => h)).trans D2.out (fun _ _ h => h)).trans D3.out (fun _ _ h => h)).trans D4.out (fun _ _ h => h)⟩
      · obtain rfl : kd = 7 := by omega
        clear hkd
        go_wp2_with fail
        refine (prog20_7 _ 1 (some ⟨g0, 0, none⟩) 45 45 2 (some ⟨g1, 0, none⟩) 117 117 2 (some ⟨g2, 0, none⟩) 77 77 1 (some ⟨g3, 0, none⟩) 22 22 1 (some ⟨g4, 0, none⟩) 41 41 1 (some ⟨g5, 0, none⟩) 4 4 1 (some ⟨g6, 0, none⟩) 32 32).mono ?_
        rintro e x1 ⟨rfl, h1⟩
        obtain ⟨X1, hX1⟩ : ∃ X, X = x1.alloc (.cells #[.int .i64 1, .slice (some ⟨g6, 0, none⟩) 32 32] 26) := ⟨_, rfl⟩
        have D1 := Lib.hid (show Chg wr X1 Nothing from by rw [hX1]; exact h1.alloc _)
        have P1 := Lib.hid (show X1.heap[x1.heap.size]? = some (.cells #[.int .i64 1, .slice (some ⟨g6, 0, none⟩) 32 32] 26 (0, 0)) from by rw [hX1]; exact heap_alloc_new x1 _)
        have WX1 := Lib.hid hX1
        clear h1 hX1 e0 e1 e2 e3 e4 e5 e6 e7 e8 e9 e10 e11 e12 e13 lT lU mT mU
        have bU := D1.out.block _ (blk_lt BU2.out) id |>.trans BU2.out
        have lU := blk_lt bU
        have mU : ¬ wU.heap.size = X1.heap.size := by omega
        have f0 : X1.cell? ⟨wU.heap.size, 0, none⟩ = some (.int .i64 1) := blk_cell bU 0
        have f1 : X1.cell? ⟨wU.heap.size, 1, none⟩ = some (.slice (some ⟨k0, 0, none⟩) 45 45) := blk_cell bU 1
        have f2 : X1.cell? ⟨wU.heap.size, 2, none⟩ = some (.int .i64 2) := blk_cell bU 2
        have f3 : X1.cell? ⟨wU.heap.size, 3, none⟩ = some (.slice (some ⟨k1, 0, none⟩) 117 117) := blk_cell bU 3
        have f4 : X1.cell? ⟨wU.heap.size, 4, none⟩ = some (.int .i64 2) := blk_cell bU 4
        have f5 : X1.cell? ⟨wU.heap.size, 5, none⟩ = some (.slice (some ⟨k2, 0, none⟩) 77 77) := blk_cell bU 5
        have f6 : X1.cell? ⟨wU.heap.size, 6, none⟩ = some (.int .i64 1) := blk_cell bU 6
        have f7 : X1.cell? ⟨wU.heap.size, 7, none⟩ = some (.slice (some ⟨k3, 0, none⟩) 22 22) := blk_cell bU 7
        have f8 : X1.cell? ⟨wU.heap.size, 8, none⟩ = some (.int .i64 1) := blk_cell bU 8
        have f9 : X1.cell? ⟨wU.heap.size, 9, none⟩ = some (.slice (some ⟨k4, 0, none⟩) 41 41) := blk_cell bU 9
        have f10 : X1.cell? ⟨wU.heap.size, 10, none⟩ = some (.int .i64 1) := blk_cell bU 10
        have f11 : X1.cell? ⟨wU.heap.size, 11, none⟩ = some (.slice (some ⟨k5, 0, none⟩) 4 4) := blk_cell bU 11
        have f12 : X1.cell? ⟨wU.heap.size, 12, none⟩ = some (.int .i64 1) := blk_cell bU 12
        have f13 : X1.cell? ⟨wU.heap.size, 13, none⟩ = some (.slice (some ⟨k6, 0, none⟩) 32 32) := blk_cell bU 13
        clear bU
        go_upto_region 12 with fail
        rw [← WX1.out]
        go_wp2_with fail
        refine (prog20_7 _ 1 (some ⟨k0, 0, none⟩) 45 45 2 (some ⟨k1, 0, none⟩) 117 117 2 (some ⟨k2, 0, none⟩) 77 77 1 (some ⟨k3, 0, none⟩) 22 22 1 (some ⟨k4, 0, none⟩) 41 41 1 (some ⟨k5, 0, none⟩) 4 4 1 (some ⟨k6, 0, none⟩) 32 32).mono ?_
        rintro e x2 ⟨rfl, h2⟩
        obtain ⟨X2, hX2⟩ : ∃ X, X = x2.alloc (.cells #[.int .i64 1, .slice (some ⟨k6, 0, none⟩) 32 32] 26) := ⟨_, rfl⟩
        have D2 := Lib.hid (show Chg X1 X2 Nothing from by rw [hX2]; exact h2.alloc _)
        have P2 := Lib.hid (show X2.heap[x2.heap.size]? = some (.cells #[.int .i64 1, .slice (some ⟨k6, 0, none⟩) 32 32] 26 (0, 0)) from by rw [hX2]; exact heap_alloc_new x2 _)
        have WX2 := Lib.hid hX2
        clear h2 hX2 f0 f1 f2 f3 f4 f5 f6 f7 f8 f9 f10 f11 f12 f13 lU mU
        have b1 := (D2.out.block _ (blk_lt P1.out) id).trans P1.out
        have p10 : X2.cell? ⟨x1.heap.size, 0, none⟩ = some (.int .i64 1) := blk_cell b1 0
        have p11 : X2.cell? ⟨x1.heap.size, 1, none⟩ = some (.slice (some ⟨g6, 0, none⟩) 32 32) := blk_cell b1 1
        have l1 := blk_lt b1
        clear b1
        go_upto_region 13 with fail
        rw [← WX2.out]
        obtain ⟨g, hg, hrow⟩ := HT.out 6 _ rfl
        obtain rfl : g6 = g := Option.some.inj hg
        have cT : Chg wT X2 Nothing := ((((CT.out.trans AU.out (fun _ _ h => h)).trans CU.out (fun _ _ h => h)).trans HC.out (fun _ _ h => h)).trans D1.out (fun _ _ h => h)).trans D2.out (fun _ _ h => h)
        have RT := Lib.hid (Sees.of_owns (row_chg hrow cT (fun _ _ h => h)))
        clear hg hrow cT
        obtain ⟨g, hg, hrow⟩ := HU.out 6 _ rfl
        obtain rfl : k6 = g := Option.some.inj hg
        have cU : Chg wU X2 Nothing := ((CU.out.trans HC.out (fun _ _ h => h)).trans D1.out (fun _ _ h => h)).trans D2.out (fun _ _ h => h)
        have RU := Lib.hid (Sees.of_owns (row_chg hrow cU (fun _ _ h => h)))
        clear hg hrow cU
        go_wp2_with fail
        refine (check_any 1 (some ⟨g6, 0, none⟩) 32 (trP_All base room) X2 RT.out).mono ?_
        rintro e x3 ⟨he, h3⟩
        obtain rfl : e = .returned (.int .i64 0) := by rw [he, trC_All]
        have D3 := Lib.hid h3
        have p10 := h3.cell p10 id
        have p11 := h3.cell p11 id
        have b2 := (h3.block _ (blk_lt P2.out) id).trans P2.out
        have p20 : x3.cell? ⟨x2.heap.size, 0, none⟩ = some (.int .i64 1) := blk_cell b2 0
        have p21 : x3.cell? ⟨x2.heap.size, 1, none⟩ = some (.slice (some ⟨k6, 0, none⟩) 32 32) := blk_cell b2 1
        clear he h3 b2
        go_wp2_with fail
        refine (csame_true 1 (some ⟨g6, 0, none⟩) (some ⟨k6, 0, none⟩) 32 32 32 (trP_All base room) x3 (RT.out.chg D3.out) (RU.out.chg D3.out) rfl (by show 32 ≤ _; decide)).mono ?_
        rintro e x4 ⟨rfl, h4⟩
        have D4 := Lib.hid h4
        clear h4 p10 p11 p20 p21 l1
        go_wp2_with fail
        go_roundg (gk - 1)
        case measure => have := HK.out; omega
        case rel => exact ⟨7, by have := HK.out; omega, rfl, (((HC.out.trans D1.out (fun _ _ h => h)).trans D2.out (fun _ _ h => h)).trans D3.out (fun _ _ h => h)).trans D4.out (fun _ _ h => h)⟩
    · obtain rfl : kd = 8 := by omega
      clear hlt hk
      go_wp2_with fail
      go_ret
      exact ⟨rfl, ((((C1.out.trans AT.out (fun _ _ h => h)).trans CT.out (fun _ _ h => h)).trans AU.out (fun _ _ h => h)).trans CU.out (fun _ _ h => h)).trans HC.out (fun _ _ h => h)⟩

set_option maxRecDepth 100000 in
set_option maxHeartbeats 40000000 in
theorem makes20_bad (w : World) (base cells : Int) (h1 : -9223372036854775808 ≤ cells) (h2 : cells < 9223372036854775808) (hmk : ∀ w, Calls Tryz.prog 8 #[.int .i64 base, .int .i64 cells] w fun e w' => e = .returned (.tuple #[.agg #[.int .i64 0, .slice none 0 0, .int .i64 0, .slice none 0 0, .int .i64 0, .slice none 0 0, .int .i64 0, .slice none 0 0, .int .i64 0, .slice none 0 0, .int .i64 0, .slice none 0 0, .int .i64 0, .slice none 0 0], .int .i64 200]) ∧ Chg w w' Nothing) (hft : ∀ w, Calls Tryz.prog 9 #[.int .i64 base, .int .i64 cells] w fun e w' => e = .returned (.bool false) ∧ w' = w) :
    Calls Tryz.prog 3 #[.int .i64 base, .int .i64 cells] w fun e w' => e = .returned (.bool true) ∧ Chg w w' Nothing := by
  obtain ⟨room, hroom⟩ : ∃ r, r = trRoom cells := ⟨_, rfl⟩
  have HR := Lib.hid hroom
  have HM := Lib.hid hmk
  have HF := Lib.hid hft
  have HB := Lib.hid (And.intro h1 h2)
  clear h1 h2 hmk hft hroom
  have n1 : (room != room) = false := by simp
  go_enter Tryz.func3, Tryz.ntmps3
  go_wp2_with fail
  refine (live20_any w).mono ?_
  rintro e w1 ⟨rfl, hc⟩
  have C1 := Lib.hid hc
  clear hc
  go_wp2_with fail
  refine (rroom20_any _ cells HB.out.1 HB.out.2).mono ?_
  rintro e w2 ⟨he, rfl⟩
  rw [← HR.out] at he
  subst he
  go_wp2_with fail
  refine (HM.out _).mono ?_
  rintro e wT ⟨rfl, hc⟩
  obtain ⟨XT, hX⟩ : ∃ X, X = wT.alloc (.cells #[.int .i64 0, .slice none 0 0, .int .i64 0, .slice none 0 0, .int .i64 0, .slice none 0 0, .int .i64 0, .slice none 0 0, .int .i64 0, .slice none 0 0, .int .i64 0, .slice none 0 0, .int .i64 0, .slice none 0 0] 28) := ⟨_, rfl⟩
  have CT := Lib.hid (show Chg wT XT Nothing from by rw [hX]; exact (Chg.refl _ _).alloc _)
  have AT := Lib.hid hc
  have BT := Lib.hid (show XT.heap[wT.heap.size]? = some (.cells #[.int .i64 0, .slice none 0 0, .int .i64 0, .slice none 0 0, .int .i64 0, .slice none 0 0, .int .i64 0, .slice none 0 0, .int .i64 0, .slice none 0 0, .int .i64 0, .slice none 0 0, .int .i64 0, .slice none 0 0] 28 (0, 0)) from by rw [hX]; exact heap_alloc_new wT _)
  have WT := Lib.hid hX
  clear hc hX
  go_upto_region 4 with fail
  rw [← WT.out]
  go_wp2_with fail
  refine (HM.out _).mono ?_
  rintro e wU ⟨rfl, hc⟩
  obtain ⟨XU, hX⟩ : ∃ X, X = wU.alloc (.cells #[.int .i64 0, .slice none 0 0, .int .i64 0, .slice none 0 0, .int .i64 0, .slice none 0 0, .int .i64 0, .slice none 0 0, .int .i64 0, .slice none 0 0, .int .i64 0, .slice none 0 0, .int .i64 0, .slice none 0 0] 28) := ⟨_, rfl⟩
  have CU := Lib.hid (show Chg wU XU Nothing from by rw [hX]; exact (Chg.refl _ _).alloc _)
  have AU := Lib.hid hc
  have BU := Lib.hid (show XU.heap[wU.heap.size]? = some (.cells #[.int .i64 0, .slice none 0 0, .int .i64 0, .slice none 0 0, .int .i64 0, .slice none 0 0, .int .i64 0, .slice none 0 0, .int .i64 0, .slice none 0 0, .int .i64 0, .slice none 0 0, .int .i64 0, .slice none 0 0] 28 (0, 0)) from by rw [hX]; exact heap_alloc_new wU _)
  have WU := Lib.hid hX
  clear hc hX
  go_upto_region 5 with fail
  rw [← WU.out]
  go_wp2_with fail
  refine (HF.out _).mono ?_
  rintro e w5 ⟨rfl, rfl⟩
  go_wp2_with fail
  refine (trroom_any _ cells HB.out.1 HB.out.2).mono ?_
  rintro e w6 ⟨he, rfl⟩
  rw [← HR.out] at he
  subst he
  go_wp2_with fail
  go_loopg [12] 7 (fun k v wr => ∃ i : Nat, i + k = 7 ∧ v = .int .i64 ((i : Int) + 1) ∧ Chg w6 wr Nothing)
  case atStart => exact ⟨0, rfl, rfl, Chg.refl _ _⟩
  case round =>
    obtain ⟨i, hk, rfl, hc⟩ := hrel
    obtain ⟨kd, hkd⟩ : ∃ kd : Int, kd = (i : Int) + 1 := ⟨_, rfl⟩
    rw [← hkd]
    have HK := Lib.hid hk
    have HC := Lib.hid hc
    clear hc
    have BT2 := Lib.hid ((HC.out.block _ (by have := blk_lt BT.out; have := AU.out.size; have := CU.out.size; omega) id).trans ((CU.out.block _ (by have := blk_lt BT.out; have := AU.out.size; omega) id).trans ((AU.out.block _ (blk_lt BT.out) id).trans BT.out)))
    have BU2 := Lib.hid ((HC.out.block _ (blk_lt BU.out) id).trans BU.out)
    by_cases hlt : i < 7
    · have bT := BT2.out
      have lT := blk_lt bT
      have lU := blk_lt BU2.out
      have mT : ¬ wT.heap.size = wr.heap.size := by omega
      have mU : ¬ wU.heap.size = wr.heap.size := by omega
      have e0 : wr.cell? ⟨wT.heap.size, 0, none⟩ = some (.int .i64 0) := blk_cell bT 0
      have e1 : wr.cell? ⟨wT.heap.size, 1, none⟩ = some (.slice none 0 0) := blk_cell bT 1
      have e2 : wr.cell? ⟨wT.heap.size, 2, none⟩ = some (.int .i64 0) := blk_cell bT 2
      have e3 : wr.cell? ⟨wT.heap.size, 3, none⟩ = some (.slice none 0 0) := blk_cell bT 3
      have e4 : wr.cell? ⟨wT.heap.size, 4, none⟩ = some (.int .i64 0) := blk_cell bT 4
      have e5 : wr.cell? ⟨wT.heap.size, 5, none⟩ = some (.slice none 0 0) := blk_cell bT 5
      have e6 : wr.cell? ⟨wT.heap.size, 6, none⟩ = some (.int .i64 0) := blk_cell bT 6
      have e7 : wr.cell? ⟨wT.heap.size, 7, none⟩ = some (.slice none 0 0) := blk_cell bT 7
      have e8 : wr.cell? ⟨wT.heap.size, 8, none⟩ = some (.int .i64 0) := blk_cell bT 8
      have e9 : wr.cell? ⟨wT.heap.size, 9, none⟩ = some (.slice none 0 0) := blk_cell bT 9
      have e10 : wr.cell? ⟨wT.heap.size, 10, none⟩ = some (.int .i64 0) := blk_cell bT 10
      have e11 : wr.cell? ⟨wT.heap.size, 11, none⟩ = some (.slice none 0 0) := blk_cell bT 11
      have e12 : wr.cell? ⟨wT.heap.size, 12, none⟩ = some (.int .i64 0) := blk_cell bT 12
      have e13 : wr.cell? ⟨wT.heap.size, 13, none⟩ = some (.slice none 0 0) := blk_cell bT 13
      clear bT
      have hi : i = 0 ∨ i = 1 ∨ i = 2 ∨ i = 3 ∨ i = 4 ∨ i = 5 ∨ i = 6 := by omega
      clear hlt hk
      rcases hi with rfl | rfl | rfl | rfl | rfl | rfl | rfl
      · obtain rfl : kd = 1 := by omega
        clear hkd
        go_wp2_with fail
        refine (prog20_1 _ 0 none 0 0 0 none 0 0 0 none 0 0 0 none 0 0 0 none 0 0 0 none 0 0 0 none 0 0).mono ?_
        rintro e x1 ⟨rfl, h1⟩
        obtain ⟨X1, hX1⟩ : ∃ X, X = x1.alloc (.cells #[.int .i64 0, .slice none 0 0] 26) := ⟨_, rfl⟩
        have D1 := Lib.hid (show Chg wr X1 Nothing from by rw [hX1]; exact h1.alloc _)
        have P1 := Lib.hid (show X1.heap[x1.heap.size]? = some (.cells #[.int .i64 0, .slice none 0 0] 26 (0, 0)) from by rw [hX1]; exact heap_alloc_new x1 _)
        have WX1 := Lib.hid hX1
        clear h1 hX1 e0 e1 e2 e3 e4 e5 e6 e7 e8 e9 e10 e11 e12 e13 lT lU mT mU
        have bU := D1.out.block _ (blk_lt BU2.out) id |>.trans BU2.out
        have lU := blk_lt bU
        have mU : ¬ wU.heap.size = X1.heap.size := by omega
        have f0 : X1.cell? ⟨wU.heap.size, 0, none⟩ = some (.int .i64 0) := blk_cell bU 0
        have f1 : X1.cell? ⟨wU.heap.size, 1, none⟩ = some (.slice none 0 0) := blk_cell bU 1
        have f2 : X1.cell? ⟨wU.heap.size, 2, none⟩ = some (.int .i64 0) := blk_cell bU 2
        have f3 : X1.cell? ⟨wU.heap.size, 3, none⟩ = some (.slice none 0 0) := blk_cell bU 3
        have f4 : X1.cell? ⟨wU.heap.size, 4, none⟩ = some (.int .i64 0) := blk_cell bU 4
        have f5 : X1.cell? ⟨wU.heap.size, 5, none⟩ = some (.slice none 0 0) := blk_cell bU 5
        have f6 : X1.cell? ⟨wU.heap.size, 6, none⟩ = some (.int .i64 0) := blk_cell bU 6
        have f7 : X1.cell? ⟨wU.heap.size, 7, none⟩ = some (.slice none 0 0) := blk_cell bU 7
        have f8 : X1.cell? ⟨wU.heap.size, 8, none⟩ = some (.int .i64 0) := blk_cell bU 8
        have f9 : X1.cell? ⟨wU.heap.size, 9, none⟩ = some (.slice none 0 0) := blk_cell bU 9
        have f10 : X1.cell? ⟨wU.heap.size, 10, none⟩ = some (.int .i64 0) := blk_cell bU 10
        have f11 : X1.cell? ⟨wU.heap.size, 11, none⟩ = some (.slice none 0 0) := blk_cell bU 11
        have f12 : X1.cell? ⟨wU.heap.size, 12, none⟩ = some (.int .i64 0) := blk_cell bU 12
        have f13 : X1.cell? ⟨wU.heap.size, 13, none⟩ = some (.slice none 0 0) := blk_cell bU 13
        clear bU
        go_upto_region 12 with fail
        rw [← WX1.out]
        go_wp2_with fail
        refine (prog20_1 _ 0 none 0 0 0 none 0 0 0 none 0 0 0 none 0 0 0 none 0 0 0 none 0 0 0 none 0 0).mono ?_
        rintro e x2 ⟨rfl, h2⟩
        obtain ⟨X2, hX2⟩ : ∃ X, X = x2.alloc (.cells #[.int .i64 0, .slice none 0 0] 26) := ⟨_, rfl⟩
        have D2 := Lib.hid (show Chg X1 X2 Nothing from by rw [hX2]; exact h2.alloc _)
        have P2 := Lib.hid (show X2.heap[x2.heap.size]? = some (.cells #[.int .i64 0, .slice none 0 0] 26 (0, 0)) from by rw [hX2]; exact heap_alloc_new x2 _)
        have WX2 := Lib.hid hX2
        clear h2 hX2 f0 f1 f2 f3 f4 f5 f6 f7 f8 f9 f10 f11 f12 f13 lU mU
        have b1 := (D2.out.block _ (blk_lt P1.out) id).trans P1.out
        have p10 : X2.cell? ⟨x1.heap.size, 0, none⟩ = some (.int .i64 0) := blk_cell b1 0
        have p11 : X2.cell? ⟨x1.heap.size, 1, none⟩ = some (.slice none 0 0) := blk_cell b1 1
        have l1 := blk_lt b1
        clear b1
        go_upto_region 13 with fail
        rw [← WX2.out]
        go_wp2_with fail
        go_roundg (gk - 1)
        case measure => have := HK.out; omega
        case rel => exact ⟨1, by have := HK.out; omega, rfl, (HC.out.trans D1.out (fun _ _ h => h)).trans D2.out (fun _ _ h => h)⟩
      · obtain rfl : kd = 2 := by omega
        clear hkd
        go_wp2_with fail
        refine (prog20_2 _ 0 none 0 0 0 none 0 0 0 none 0 0 0 none 0 0 0 none 0 0 0 none 0 0 0 none 0 0).mono ?_
        rintro e x1 ⟨rfl, h1⟩
        obtain ⟨X1, hX1⟩ : ∃ X, X = x1.alloc (.cells #[.int .i64 0, .slice none 0 0] 26) := ⟨_, rfl⟩
        have D1 := Lib.hid (show Chg wr X1 Nothing from by rw [hX1]; exact h1.alloc _)
        have P1 := Lib.hid (show X1.heap[x1.heap.size]? = some (.cells #[.int .i64 0, .slice none 0 0] 26 (0, 0)) from by rw [hX1]; exact heap_alloc_new x1 _)
        have WX1 := Lib.hid hX1
        clear h1 hX1 e0 e1 e2 e3 e4 e5 e6 e7 e8 e9 e10 e11 e12 e13 lT lU mT mU
        have bU := D1.out.block _ (blk_lt BU2.out) id |>.trans BU2.out
        have lU := blk_lt bU
        have mU : ¬ wU.heap.size = X1.heap.size := by omega
        have f0 : X1.cell? ⟨wU.heap.size, 0, none⟩ = some (.int .i64 0) := blk_cell bU 0
        have f1 : X1.cell? ⟨wU.heap.size, 1, none⟩ = some (.slice none 0 0) := blk_cell bU 1
        have f2 : X1.cell? ⟨wU.heap.size, 2, none⟩ = some (.int .i64 0) := blk_cell bU 2
        have f3 : X1.cell? ⟨wU.heap.size, 3, none⟩ = some (.slice none 0 0) := blk_cell bU 3
        have f4 : X1.cell? ⟨wU.heap.size, 4, none⟩ = some (.int .i64 0) := blk_cell bU 4
        have f5 : X1.cell? ⟨wU.heap.size, 5, none⟩ = some (.slice none 0 0) := blk_cell bU 5
        have f6 : X1.cell? ⟨wU.heap.size, 6, none⟩ = some (.int .i64 0) := blk_cell bU 6
        have f7 : X1.cell? ⟨wU.heap.size, 7, none⟩ = some (.slice none 0 0) := blk_cell bU 7
        have f8 : X1.cell? ⟨wU.heap.size, 8, none⟩ = some (.int .i64 0) := blk_cell bU 8
        have f9 : X1.cell? ⟨wU.heap.size, 9, none⟩ = some (.slice none 0 0) := blk_cell bU 9
        have f10 : X1.cell? ⟨wU.heap.size, 10, none⟩ = some (.int .i64 0) := blk_cell bU 10
        have f11 : X1.cell? ⟨wU.heap.size, 11, none⟩ = some (.slice none 0 0) := blk_cell bU 11
        have f12 : X1.cell? ⟨wU.heap.size, 12, none⟩ = some (.int .i64 0) := blk_cell bU 12
        have f13 : X1.cell? ⟨wU.heap.size, 13, none⟩ = some (.slice none 0 0) := blk_cell bU 13
        clear bU
        go_upto_region 12 with fail
        rw [← WX1.out]
        go_wp2_with fail
        refine (prog20_2 _ 0 none 0 0 0 none 0 0 0 none 0 0 0 none 0 0 0 none 0 0 0 none 0 0 0 none 0 0).mono ?_
        rintro e x2 ⟨rfl, h2⟩
        obtain ⟨X2, hX2⟩ : ∃ X, X = x2.alloc (.cells #[.int .i64 0, .slice none 0 0] 26) := ⟨_, rfl⟩
        have D2 := Lib.hid (show Chg X1 X2 Nothing from by rw [hX2]; exact h2.alloc _)
        have P2 := Lib.hid (show X2.heap[x2.heap.size]? = some (.cells #[.int .i64 0, .slice none 0 0] 26 (0, 0)) from by rw [hX2]; exact heap_alloc_new x2 _)
        have WX2 := Lib.hid hX2
        clear h2 hX2 f0 f1 f2 f3 f4 f5 f6 f7 f8 f9 f10 f11 f12 f13 lU mU
        have b1 := (D2.out.block _ (blk_lt P1.out) id).trans P1.out
        have p10 : X2.cell? ⟨x1.heap.size, 0, none⟩ = some (.int .i64 0) := blk_cell b1 0
        have p11 : X2.cell? ⟨x1.heap.size, 1, none⟩ = some (.slice none 0 0) := blk_cell b1 1
        have l1 := blk_lt b1
        clear b1
        go_upto_region 13 with fail
        rw [← WX2.out]
        go_wp2_with fail
        go_roundg (gk - 1)
        case measure => have := HK.out; omega
        case rel => exact ⟨2, by have := HK.out; omega, rfl, (HC.out.trans D1.out (fun _ _ h => h)).trans D2.out (fun _ _ h => h)⟩
      · obtain rfl : kd = 3 := by omega
        clear hkd
        go_wp2_with fail
        refine (prog20_3 _ 0 none 0 0 0 none 0 0 0 none 0 0 0 none 0 0 0 none 0 0 0 none 0 0 0 none 0 0).mono ?_
        rintro e x1 ⟨rfl, h1⟩
        obtain ⟨X1, hX1⟩ : ∃ X, X = x1.alloc (.cells #[.int .i64 0, .slice none 0 0] 26) := ⟨_, rfl⟩
        have D1 := Lib.hid (show Chg wr X1 Nothing from by rw [hX1]; exact h1.alloc _)
        have P1 := Lib.hid (show X1.heap[x1.heap.size]? = some (.cells #[.int .i64 0, .slice none 0 0] 26 (0, 0)) from by rw [hX1]; exact heap_alloc_new x1 _)
        have WX1 := Lib.hid hX1
        clear h1 hX1 e0 e1 e2 e3 e4 e5 e6 e7 e8 e9 e10 e11 e12 e13 lT lU mT mU
        have bU := D1.out.block _ (blk_lt BU2.out) id |>.trans BU2.out
        have lU := blk_lt bU
        have mU : ¬ wU.heap.size = X1.heap.size := by omega
        have f0 : X1.cell? ⟨wU.heap.size, 0, none⟩ = some (.int .i64 0) := blk_cell bU 0
        have f1 : X1.cell? ⟨wU.heap.size, 1, none⟩ = some (.slice none 0 0) := blk_cell bU 1
        have f2 : X1.cell? ⟨wU.heap.size, 2, none⟩ = some (.int .i64 0) := blk_cell bU 2
        have f3 : X1.cell? ⟨wU.heap.size, 3, none⟩ = some (.slice none 0 0) := blk_cell bU 3
        have f4 : X1.cell? ⟨wU.heap.size, 4, none⟩ = some (.int .i64 0) := blk_cell bU 4
        have f5 : X1.cell? ⟨wU.heap.size, 5, none⟩ = some (.slice none 0 0) := blk_cell bU 5
        have f6 : X1.cell? ⟨wU.heap.size, 6, none⟩ = some (.int .i64 0) := blk_cell bU 6
        have f7 : X1.cell? ⟨wU.heap.size, 7, none⟩ = some (.slice none 0 0) := blk_cell bU 7
        have f8 : X1.cell? ⟨wU.heap.size, 8, none⟩ = some (.int .i64 0) := blk_cell bU 8
        have f9 : X1.cell? ⟨wU.heap.size, 9, none⟩ = some (.slice none 0 0) := blk_cell bU 9
        have f10 : X1.cell? ⟨wU.heap.size, 10, none⟩ = some (.int .i64 0) := blk_cell bU 10
        have f11 : X1.cell? ⟨wU.heap.size, 11, none⟩ = some (.slice none 0 0) := blk_cell bU 11
        have f12 : X1.cell? ⟨wU.heap.size, 12, none⟩ = some (.int .i64 0) := blk_cell bU 12
        have f13 : X1.cell? ⟨wU.heap.size, 13, none⟩ = some (.slice none 0 0) := blk_cell bU 13
        clear bU
        go_upto_region 12 with fail
        rw [← WX1.out]
        go_wp2_with fail
        refine (prog20_3 _ 0 none 0 0 0 none 0 0 0 none 0 0 0 none 0 0 0 none 0 0 0 none 0 0 0 none 0 0).mono ?_
        rintro e x2 ⟨rfl, h2⟩
        obtain ⟨X2, hX2⟩ : ∃ X, X = x2.alloc (.cells #[.int .i64 0, .slice none 0 0] 26) := ⟨_, rfl⟩
        have D2 := Lib.hid (show Chg X1 X2 Nothing from by rw [hX2]; exact h2.alloc _)
        have P2 := Lib.hid (show X2.heap[x2.heap.size]? = some (.cells #[.int .i64 0, .slice none 0 0] 26 (0, 0)) from by rw [hX2]; exact heap_alloc_new x2 _)
        have WX2 := Lib.hid hX2
        clear h2 hX2 f0 f1 f2 f3 f4 f5 f6 f7 f8 f9 f10 f11 f12 f13 lU mU
        have b1 := (D2.out.block _ (blk_lt P1.out) id).trans P1.out
        have p10 : X2.cell? ⟨x1.heap.size, 0, none⟩ = some (.int .i64 0) := blk_cell b1 0
        have p11 : X2.cell? ⟨x1.heap.size, 1, none⟩ = some (.slice none 0 0) := blk_cell b1 1
        have l1 := blk_lt b1
        clear b1
        go_upto_region 13 with fail
        rw [← WX2.out]
        go_wp2_with fail
        go_roundg (gk - 1)
        case measure => have := HK.out; omega
        case rel => exact ⟨3, by have := HK.out; omega, rfl, (HC.out.trans D1.out (fun _ _ h => h)).trans D2.out (fun _ _ h => h)⟩
      · obtain rfl : kd = 4 := by omega
        clear hkd
        go_wp2_with fail
        refine (prog20_4 _ 0 none 0 0 0 none 0 0 0 none 0 0 0 none 0 0 0 none 0 0 0 none 0 0 0 none 0 0).mono ?_
        rintro e x1 ⟨rfl, h1⟩
        obtain ⟨X1, hX1⟩ : ∃ X, X = x1.alloc (.cells #[.int .i64 0, .slice none 0 0] 26) := ⟨_, rfl⟩
        have D1 := Lib.hid (show Chg wr X1 Nothing from by rw [hX1]; exact h1.alloc _)
        have P1 := Lib.hid (show X1.heap[x1.heap.size]? = some (.cells #[.int .i64 0, .slice none 0 0] 26 (0, 0)) from by rw [hX1]; exact heap_alloc_new x1 _)
        have WX1 := Lib.hid hX1
        clear h1 hX1 e0 e1 e2 e3 e4 e5 e6 e7 e8 e9 e10 e11 e12 e13 lT lU mT mU
        have bU := D1.out.block _ (blk_lt BU2.out) id |>.trans BU2.out
        have lU := blk_lt bU
        have mU : ¬ wU.heap.size = X1.heap.size := by omega
        have f0 : X1.cell? ⟨wU.heap.size, 0, none⟩ = some (.int .i64 0) := blk_cell bU 0
        have f1 : X1.cell? ⟨wU.heap.size, 1, none⟩ = some (.slice none 0 0) := blk_cell bU 1
        have f2 : X1.cell? ⟨wU.heap.size, 2, none⟩ = some (.int .i64 0) := blk_cell bU 2
        have f3 : X1.cell? ⟨wU.heap.size, 3, none⟩ = some (.slice none 0 0) := blk_cell bU 3
        have f4 : X1.cell? ⟨wU.heap.size, 4, none⟩ = some (.int .i64 0) := blk_cell bU 4
        have f5 : X1.cell? ⟨wU.heap.size, 5, none⟩ = some (.slice none 0 0) := blk_cell bU 5
        have f6 : X1.cell? ⟨wU.heap.size, 6, none⟩ = some (.int .i64 0) := blk_cell bU 6
        have f7 : X1.cell? ⟨wU.heap.size, 7, none⟩ = some (.slice none 0 0) := blk_cell bU 7
        have f8 : X1.cell? ⟨wU.heap.size, 8, none⟩ = some (.int .i64 0) := blk_cell bU 8
        have f9 : X1.cell? ⟨wU.heap.size, 9, none⟩ = some (.slice none 0 0) := blk_cell bU 9
        have f10 : X1.cell? ⟨wU.heap.size, 10, none⟩ = some (.int .i64 0) := blk_cell bU 10
        have f11 : X1.cell? ⟨wU.heap.size, 11, none⟩ = some (.slice none 0 0) := blk_cell bU 11
        have f12 : X1.cell? ⟨wU.heap.size, 12, none⟩ = some (.int .i64 0) := blk_cell bU 12
        have f13 : X1.cell? ⟨wU.heap.size, 13, none⟩ = some (.slice none 0 0) := blk_cell bU 13
        clear bU
        go_upto_region 12 with fail
        rw [← WX1.out]
        go_wp2_with fail
        refine (prog20_4 _ 0 none 0 0 0 none 0 0 0 none 0 0 0 none 0 0 0 none 0 0 0 none 0 0 0 none 0 0).mono ?_
        rintro e x2 ⟨rfl, h2⟩
        obtain ⟨X2, hX2⟩ : ∃ X, X = x2.alloc (.cells #[.int .i64 0, .slice none 0 0] 26) := ⟨_, rfl⟩
        have D2 := Lib.hid (show Chg X1 X2 Nothing from by rw [hX2]; exact h2.alloc _)
        have P2 := Lib.hid (show X2.heap[x2.heap.size]? = some (.cells #[.int .i64 0, .slice none 0 0] 26 (0, 0)) from by rw [hX2]; exact heap_alloc_new x2 _)
        have WX2 := Lib.hid hX2
        clear h2 hX2 f0 f1 f2 f3 f4 f5 f6 f7 f8 f9 f10 f11 f12 f13 lU mU
        have b1 := (D2.out.block _ (blk_lt P1.out) id).trans P1.out
        have p10 : X2.cell? ⟨x1.heap.size, 0, none⟩ = some (.int .i64 0) := blk_cell b1 0
        have p11 : X2.cell? ⟨x1.heap.size, 1, none⟩ = some (.slice none 0 0) := blk_cell b1 1
        have l1 := blk_lt b1
        clear b1
        go_upto_region 13 with fail
        rw [← WX2.out]
        go_wp2_with fail
        go_roundg (gk - 1)
        case measure => have := HK.out; omega
        case rel => exact ⟨4, by have := HK.out; omega, rfl, (HC.out.trans D1.out (fun _ _ h => h)).trans D2.out (fun _ _ h => h)⟩
      · obtain rfl : kd = 5 := by omega
        clear hkd
        go_wp2_with fail
        refine (prog20_5 _ 0 none 0 0 0 none 0 0 0 none 0 0 0 none 0 0 0 none 0 0 0 none 0 0 0 none 0 0).mono ?_
        rintro e x1 ⟨rfl, h1⟩
        obtain ⟨X1, hX1⟩ : ∃ X, X = x1.alloc (.cells #[.int .i64 0, .slice none 0 0] 26) := ⟨_, rfl⟩
        have D1 := Lib.hid (show Chg wr X1 Nothing from by rw [hX1]; exact h1.alloc _)
        have P1 := Lib.hid (show X1.heap[x1.heap.size]? = some (.cells #[.int .i64 0, .slice none 0 0] 26 (0, 0)) from by rw [hX1]; exact heap_alloc_new x1 _)
        have WX1 := Lib.hid hX1
        clear h1 hX1 e0 e1 e2 e3 e4 e5 e6 e7 e8 e9 e10 e11 e12 e13 lT lU mT mU
        have bU := D1.out.block _ (blk_lt BU2.out) id |>.trans BU2.out
        have lU := blk_lt bU
        have mU : ¬ wU.heap.size = X1.heap.size := by omega
        have f0 : X1.cell? ⟨wU.heap.size, 0, none⟩ = some (.int .i64 0) := blk_cell bU 0
        have f1 : X1.cell? ⟨wU.heap.size, 1, none⟩ = some (.slice none 0 0) := blk_cell bU 1
        have f2 : X1.cell? ⟨wU.heap.size, 2, none⟩ = some (.int .i64 0) := blk_cell bU 2
        have f3 : X1.cell? ⟨wU.heap.size, 3, none⟩ = some (.slice none 0 0) := blk_cell bU 3
        have f4 : X1.cell? ⟨wU.heap.size, 4, none⟩ = some (.int .i64 0) := blk_cell bU 4
        have f5 : X1.cell? ⟨wU.heap.size, 5, none⟩ = some (.slice none 0 0) := blk_cell bU 5
        have f6 : X1.cell? ⟨wU.heap.size, 6, none⟩ = some (.int .i64 0) := blk_cell bU 6
        have f7 : X1.cell? ⟨wU.heap.size, 7, none⟩ = some (.slice none 0 0) := blk_cell bU 7
        have f8 : X1.cell? ⟨wU.heap.size, 8, none⟩ = some (.int .i64 0) := blk_cell bU 8
        have f9 : X1.cell? ⟨wU.heap.size, 9, none⟩ = some (.slice none 0 0) := blk_cell bU 9
        have f10 : X1.cell? ⟨wU.heap.size, 10, none⟩ = some (.int .i64 0) := blk_cell bU 10
        have f11 : X1.cell? ⟨wU.heap.size, 11, none⟩ = some (.slice none 0 0) := blk_cell bU 11
        have f12 : X1.cell? ⟨wU.heap.size, 12, none⟩ = some (.int .i64 0) := blk_cell bU 12
        have f13 : X1.cell? ⟨wU.heap.size, 13, none⟩ = some (.slice none 0 0) := blk_cell bU 13
        clear bU
        go_upto_region 12 with fail
        rw [← WX1.out]
        go_wp2_with fail
        refine (prog20_5 _ 0 none 0 0 0 none 0 0 0 none 0 0 0 none 0 0 0 none 0 0 0 none 0 0 0 none 0 0).mono ?_
        rintro e x2 ⟨rfl, h2⟩
        obtain ⟨X2, hX2⟩ : ∃ X, X = x2.alloc (.cells #[.int .i64 0, .slice none 0 0] 26) := ⟨_, rfl⟩
        have D2 := Lib.hid (show Chg X1 X2 Nothing from by rw [hX2]; exact h2.alloc _)
        have P2 := Lib.hid (show X2.heap[x2.heap.size]? = some (.cells #[.int .i64 0, .slice none 0 0] 26 (0, 0)) from by rw [hX2]; exact heap_alloc_new x2 _)
        have WX2 := Lib.hid hX2
        clear h2 hX2 f0 f1 f2 f3 f4 f5 f6 f7 f8 f9 f10 f11 f12 f13 lU mU
        have b1 := (D2.out.block _ (blk_lt P1.out) id).trans P1.out
        have p10 : X2.cell? ⟨x1.heap.size, 0, none⟩ = some (.int .i64 0) := blk_cell b1 0
        have p11 : X2.cell? ⟨x1.heap.size, 1, none⟩ = some (.slice none 0 0) := blk_cell b1 1
        have l1 := blk_lt b1
        clear b1
        go_upto_region 13 with fail
        rw [← WX2.out]
        go_wp2_with fail
        go_roundg (gk - 1)
        case measure => have := HK.out; omega
        case rel => exact ⟨5, by have := HK.out; omega, rfl, (HC.out.trans D1.out (fun _ _ h => h)).trans D2.out (fun _ _ h => h)⟩
      · obtain rfl : kd = 6 := by omega
        clear hkd
        go_wp2_with fail
        refine (prog20_6 _ 0 none 0 0 0 none 0 0 0 none 0 0 0 none 0 0 0 none 0 0 0 none 0 0 0 none 0 0).mono ?_
        rintro e x1 ⟨rfl, h1⟩
        obtain ⟨X1, hX1⟩ : ∃ X, X = x1.alloc (.cells #[.int .i64 0, .slice none 0 0] 26) := ⟨_, rfl⟩
        have D1 := Lib.hid (show Chg wr X1 Nothing from by rw [hX1]; exact h1.alloc _)
        have P1 := Lib.hid (show X1.heap[x1.heap.size]? = some (.cells #[.int .i64 0, .slice none 0 0] 26 (0, 0)) from by rw [hX1]; exact heap_alloc_new x1 _)
        have WX1 := Lib.hid hX1
        clear h1 hX1 e0 e1 e2 e3 e4 e5 e6 e7 e8 e9 e10 e11 e12 e13 lT lU mT mU
        have bU := D1.out.block _ (blk_lt BU2.out) id |>.trans BU2.out
        have lU := blk_lt bU
        have mU : ¬ wU.heap.size = X1.heap.size := by omega
        have f0 : X1.cell? ⟨wU.heap.size, 0, none⟩ = some (.int .i64 0) := blk_cell bU 0
        have f1 : X1.cell? ⟨wU.heap.size, 1, none⟩ = some (.slice none 0 0) := blk_cell bU 1
        have f2 : X1.cell? ⟨wU.heap.size, 2, none⟩ = some (.int .i64 0) := blk_cell bU 2
        have f3 : X1.cell? ⟨wU.heap.size, 3, none⟩ = some (.slice none 0 0) := blk_cell bU 3
        have f4 : X1.cell? ⟨wU.heap.size, 4, none⟩ = some (.int .i64 0) := blk_cell bU 4
        have f5 : X1.cell? ⟨wU.heap.size, 5, none⟩ = some (.slice none 0 0) := blk_cell bU 5
        have f6 : X1.cell? ⟨wU.heap.size, 6, none⟩ = some (.int .i64 0) := blk_cell bU 6
        have f7 : X1.cell? ⟨wU.heap.size, 7, none⟩ = some (.slice none 0 0) := blk_cell bU 7
        have f8 : X1.cell? ⟨wU.heap.size, 8, none⟩ = some (.int .i64 0) := blk_cell bU 8
        have f9 : X1.cell? ⟨wU.heap.size, 9, none⟩ = some (.slice none 0 0) := blk_cell bU 9
        have f10 : X1.cell? ⟨wU.heap.size, 10, none⟩ = some (.int .i64 0) := blk_cell bU 10
        have f11 : X1.cell? ⟨wU.heap.size, 11, none⟩ = some (.slice none 0 0) := blk_cell bU 11
        have f12 : X1.cell? ⟨wU.heap.size, 12, none⟩ = some (.int .i64 0) := blk_cell bU 12
        have f13 : X1.cell? ⟨wU.heap.size, 13, none⟩ = some (.slice none 0 0) := blk_cell bU 13
        clear bU
        go_upto_region 12 with fail
        rw [← WX1.out]
        go_wp2_with fail
        refine (prog20_6 _ 0 none 0 0 0 none 0 0 0 none 0 0 0 none 0 0 0 none 0 0 0 none 0 0 0 none 0 0).mono ?_
        rintro e x2 ⟨rfl, h2⟩
        obtain ⟨X2, hX2⟩ : ∃ X, X = x2.alloc (.cells #[.int .i64 0, .slice none 0 0] 26) := ⟨_, rfl⟩
        have D2 := Lib.hid (show Chg X1 X2 Nothing from by rw [hX2]; exact h2.alloc _)
        have P2 := Lib.hid (show X2.heap[x2.heap.size]? = some (.cells #[.int .i64 0, .slice none 0 0] 26 (0, 0)) from by rw [hX2]; exact heap_alloc_new x2 _)
        have WX2 := Lib.hid hX2
        clear h2 hX2 f0 f1 f2 f3 f4 f5 f6 f7 f8 f9 f10 f11 f12 f13 lU mU
        have b1 := (D2.out.block _ (blk_lt P1.out) id).trans P1.out
        have p10 : X2.cell? ⟨x1.heap.size, 0, none⟩ = some (.int .i64 0) := blk_cell b1 0
        have p11 : X2.cell? ⟨x1.heap.size, 1, none⟩ = some (.slice none 0 0) := blk_cell b1 1
        have l1 := blk_lt b1
        clear b1
        go_upto_region 13 with fail
        rw [← WX2.out]
        go_wp2_with fail
        go_roundg (gk - 1)
        case measure => have := HK.out; omega
        case rel => exact ⟨6, by have := HK.out; omega, rfl, (HC.out.trans D1.out (fun _ _ h => h)).trans D2.out (fun _ _ h => h)⟩
      · obtain rfl : kd = 7 := by omega
        clear hkd
        go_wp2_with fail
        refine (prog20_7 _ 0 none 0 0 0 none 0 0 0 none 0 0 0 none 0 0 0 none 0 0 0 none 0 0 0 none 0 0).mono ?_
        rintro e x1 ⟨rfl, h1⟩
        obtain ⟨X1, hX1⟩ : ∃ X, X = x1.alloc (.cells #[.int .i64 0, .slice none 0 0] 26) := ⟨_, rfl⟩
        have D1 := Lib.hid (show Chg wr X1 Nothing from by rw [hX1]; exact h1.alloc _)
        have P1 := Lib.hid (show X1.heap[x1.heap.size]? = some (.cells #[.int .i64 0, .slice none 0 0] 26 (0, 0)) from by rw [hX1]; exact heap_alloc_new x1 _)
        have WX1 := Lib.hid hX1
        clear h1 hX1 e0 e1 e2 e3 e4 e5 e6 e7 e8 e9 e10 e11 e12 e13 lT lU mT mU
        have bU := D1.out.block _ (blk_lt BU2.out) id |>.trans BU2.out
        have lU := blk_lt bU
        have mU : ¬ wU.heap.size = X1.heap.size := by omega
        have f0 : X1.cell? ⟨wU.heap.size, 0, none⟩ = some (.int .i64 0) := blk_cell bU 0
        have f1 : X1.cell? ⟨wU.heap.size, 1, none⟩ = some (.slice none 0 0) := blk_cell bU 1
        have f2 : X1.cell? ⟨wU.heap.size, 2, none⟩ = some (.int .i64 0) := blk_cell bU 2
        have f3 : X1.cell? ⟨wU.heap.size, 3, none⟩ = some (.slice none 0 0) := blk_cell bU 3
        have f4 : X1.cell? ⟨wU.heap.size, 4, none⟩ = some (.int .i64 0) := blk_cell bU 4
        have f5 : X1.cell? ⟨wU.heap.size, 5, none⟩ = some (.slice none 0 0) := blk_cell bU 5
        have f6 : X1.cell? ⟨wU.heap.size, 6, none⟩ = some (.int .i64 0) := blk_cell bU 6
        have f7 : X1.cell? ⟨wU.heap.size, 7, none⟩ = some (.slice none 0 0) := blk_cell bU 7
        have f8 : X1.cell? ⟨wU.heap.size, 8, none⟩ = some (.int .i64 0) := blk_cell bU 8
        have f9 : X1.cell? ⟨wU.heap.size, 9, none⟩ = some (.slice none 0 0) := blk_cell bU 9
        have f10 : X1.cell? ⟨wU.heap.size, 10, none⟩ = some (.int .i64 0) := blk_cell bU 10
        have f11 : X1.cell? ⟨wU.heap.size, 11, none⟩ = some (.slice none 0 0) := blk_cell bU 11
        have f12 : X1.cell? ⟨wU.heap.size, 12, none⟩ = some (.int .i64 0) := blk_cell bU 12
        have f13 : X1.cell? ⟨wU.heap.size, 13, none⟩ = some (.slice none 0 0) := blk_cell bU 13
        clear bU
        go_upto_region 12 with fail
        rw [← WX1.out]
        go_wp2_with fail
        refine (prog20_7 _ 0 none 0 0 0 none 0 0 0 none 0 0 0 none 0 0 0 none 0 0 0 none 0 0 0 none 0 0).mono ?_
        rintro e x2 ⟨rfl, h2⟩
        obtain ⟨X2, hX2⟩ : ∃ X, X = x2.alloc (.cells #[.int .i64 0, .slice none 0 0] 26) := ⟨_, rfl⟩
        have D2 := Lib.hid (show Chg X1 X2 Nothing from by rw [hX2]; exact h2.alloc _)
        have P2 := Lib.hid (show X2.heap[x2.heap.size]? = some (.cells #[.int .i64 0, .slice none 0 0] 26 (0, 0)) from by rw [hX2]; exact heap_alloc_new x2 _)
        have WX2 := Lib.hid hX2
        clear h2 hX2 f0 f1 f2 f3 f4 f5 f6 f7 f8 f9 f10 f11 f12 f13 lU mU
        have b1 := (D2.out.block _ (blk_lt P1.out) id).trans P1.out
        have p10 : X2.cell? ⟨x1.heap.size, 0, none⟩ = some (.int .i64 0) := blk_cell b1 0
        have p11 : X2.cell? ⟨x1.heap.size, 1, none⟩ = some (.slice none 0 0) := blk_cell b1 1
        have l1 := blk_lt b1
        clear b1
        go_upto_region 13 with fail
        rw [← WX2.out]
        go_wp2_with fail
        go_roundg (gk - 1)
        case measure => have := HK.out; omega
        case rel => exact ⟨7, by have := HK.out; omega, rfl, (HC.out.trans D1.out (fun _ _ h => h)).trans D2.out (fun _ _ h => h)⟩
    · obtain rfl : kd = 8 := by omega
      clear hlt hk
      go_wp2_with fail
      go_ret
      exact ⟨rfl, ((((C1.out.trans AT.out (fun _ _ h => h)).trans CT.out (fun _ _ h => h)).trans AU.out (fun _ _ h => h)).trans CU.out (fun _ _ h => h)).trans HC.out (fun _ _ h => h)⟩

theorem makes20_walk (w : World) (base cells : Int) (h1 : -9223372036854775808 ≤ cells) (h2 : cells < 9223372036854775808) :
    Calls Tryz.prog 3 #[.int .i64 base, .int .i64 cells] w fun e w' => e = .returned (.bool true) ∧ Chg w w' Nothing := by
  have hr : 0 ≤ trRoom cells := by unfold trRoom; split <;> (try split) <;> omega
  have hr2 : trRoom cells ≠ 0 → 7 ≤ cells := by unfold trRoom; split <;> omega
  by_cases ha : trRoom cells = 0
  · exact makes20_bad w base cells h1 h2 (fun W => trmake_badA W base cells _ rfl h1 h2 ha) (fun W => rfits20_badA W base cells _ rfl h1 h2 (by omega))
  by_cases hb : base < 0
  · exact makes20_bad w base cells h1 h2 (fun W => trmake_badB W base cells _ rfl h1 h2 ha hb) (fun W => rfits20_badB W base cells _ rfl h1 h2 (by omega) (by omega))
  by_cases hc : 256 < cells
  · exact makes20_bad w base cells h1 h2 (fun W => trmake_badC W base cells _ rfl h1 h2 ha hb hc) (fun W => rfits20_badC W base cells _ rfl h1 h2 (by omega) (by omega) (by omega))
  by_cases hd : 256 - cells < base
  · exact makes20_bad w base cells h1 h2 (fun W => trmake_badD W base cells _ rfl h1 h2 ha hb hc hd) (fun W => rfits20_badD W base cells _ rfl h1 h2 (by omega) (by omega) (by omega) (by omega))
  · exact makes20_good w base cells (by omega) (hr2 ha) (by omega) (by omega)
end Go.Proofs.YtgeapkalabijmaaGreat
