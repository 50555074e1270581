/- MachineRuns: the walk. -/
import Derived.Test.YthgllaomafhdkaaGreatM5D
namespace Go.Proofs.YthgllaomafhdkaaGreat
open Go Go.RowKit
set_option maxRecDepth 100000
set_option maxHeartbeats 1000000
set_option linter.unusedVariables false
set_option linter.unusedSimpArgs false

theorem runs_walk (c t f r : Int) (tag : Int) (ac : Option Addr) (cc : Nat) (code : List Ins) (aa : Option Addr) (na : Nat) (args : List Nat) (af : Option Addr) (nf : Nat) (feed : List Nat) (w : World)
    (hb : code.length * 24 ≤ 140737488351232) (hab : args.length * 8 ≤ 140737488351232) (hs : Sees w ac (insV code)) (hac : ac = none → cc = 0) (hcl : code.length ≤ cc) (ha : Sees w aa (args.map fl)) (haa : aa = none → na = 0) (hal : args.length ≤ na) (hf : Sees w af (feed.map fl)) (hfl : feed.length ≤ 9223372036854775807)
    (hx : ∀ i ∈ code, i.2.2 < 18446744073709551616) (hax : ∀ y ∈ args, y < 18446744073709551616) (hfx : ∀ y ∈ feed, y < 18446744073709551616) :
    Calls Tryz.prog 5 #[.agg #[.int .i64 c, .int .i64 t, .int .i64 f, .int .i64 r], .agg #[.int .i64 tag, .slice ac code.length cc], .slice aa args.length na, .slice af feed.length nf] w fun e w' => e = .returned (.bool true) ∧ Chg w w' Nothing := by
  have HB := Lib.hid hb
  have HAB := Lib.hid hab
  have HS := Lib.hid hs
  have HAC := Lib.hid hac
  have HCL := Lib.hid hcl
  have HA := Lib.hid ha
  have HAA := Lib.hid haa
  have HAL := Lib.hid hal
  have HF := Lib.hid hf
  have HFL := Lib.hid hfl
  have HX := Lib.hid hx
  have HAX := Lib.hid hax
  have HFX := Lib.hid hfx
  clear hb hab hs hac hcl ha haa hal hf hfl hx hax hfx
  go_enter Tryz.func5, Tryz.ntmps5
  go_wp2_with fail
  with_reducible refine (live08_any _).mono ?_
  rintro e w1 ⟨rfl, hc1⟩
  obtain ⟨i0, i1, i2, i3, j0, j1, z0, z1⟩ := law_cells hc1
  have C1 := Lib.hid hc1
  have L1 := Lib.hid (law_old hc1)
  clear hc1
  go_wp2_with fail
  by_cases hok : CfgOk c t f r ∧ args.length ≤ 8
  · have HCF := Lib.hid hok
    refine (begun_good c t f r tag ac cc code aa na args _ (by have := HB.out; omega) (by have := HAB.out; omega) (HS.out.chg L1.out) (code_row (HS.out.chg L1.out) HCL.out HAC.out) (HA.out.chg L1.out) HAC.out HAA.out HCL.out HAL.out HX.out HAX.out hok).mono ?_
    clear hok
    rintro e w2 ⟨pb, m, q, lb, F, R, rfl, hB⟩
    have B2 := Lib.hid hB
    clear hB i0 i1 i2 i3 j0 j1 z0 z1
    go_wp2_with fail
    obtain ⟨f, rfl⟩ := Int.eq_ofNat_of_zero_le (show 0 ≤ f by have := HCF.out.1.2.2.1; omega)
    have hf1 : f ≤ 1024 := by have := HCF.out.1.2.2.1; omega
    go_loopg [12] (f + 3) (fun k i wr => ∃ n s g F R, n + k = f + 3 ∧ i = .int .i64 ((n : Nat) : Int) ∧ g ≤ n ∧ Both w1 wr pb m q lb F R s ((g : Nat) : Int))
    case atStart => exact ⟨0, _, 0, _, _, by simp, rfl, Nat.le_refl _, B2.out⟩
    case round =>
      obtain ⟨n, s, g, F', R', hn, rfl, hgn, hB⟩ := hrel
      have B := Lib.hid hB
      have HN := Lib.hid (And.intro hn hgn)
      obtain ⟨i0, i1, i2, i3, j0, j1, z0, z1⟩ := law_cells (C1.out.trans B.out.chg (fun _ _ h => h))
      clear hB B2 i0 i1 i3 j0 j1 z1
      by_cases hlt : n < f + 3
      · have hd : decide (n < f + 3) = true := by simpa using hlt
        have hd2 : decide ((n : Int) < (f : Int) + 3) = true := decide_eq_true (by omega)
        have hn5 : n ≤ 1030 := by omega
        go_wp2_with fail
        have BD := Lib.hid (B.out.quiet ((Chg.refl _ Nothing).drew))
        clear hgn hn
        by_cases h5 : n % 5 = 0
        · have h5a : ((n : Int) % 5 == 0) = true := by rw [beq_iff_eq]; omega
          have h5b : ((n : Int).tmod 5 == 0) = true := by rw [beq_iff_eq, Int.tmod_eq_emod_of_nonneg (by omega)]; omega
          have h5c : (n % 5 == 0) = true := by rw [beq_iff_eq]; exact h5
          clear h5
          refine beginL (fun w' => w'.cell? ⟨pb, 0, none⟩ = some (.pointer (some ⟨m, 0, none⟩)) ∧ w'.cell? ⟨pb, 1, none⟩ = some (.pointer (some ⟨q, 0, none⟩))) 21 (by kernel_rfl) ⟨blk_cell BD.out.pr 0, blk_cell BD.out.pr 1⟩ (fun hHeld => ?_)
          refine takeL 0 2 (v := ?_) rfl (by kernel_rfl) (fun _ _ _ h => h) (by rfl) (by assumption) ?_ ?_
          rotate_left
          · (intro w hSw; (try dsimp only at hSw); go_simp; try with_reducible rfl)
          try simp only [Act.put, List.setIfInBounds_toArray, List.set_cons_zero, List.set_cons_succ]
          refine takeL 1 2 (v := ?_) rfl (by kernel_rfl) (fun _ _ _ h => h) (by rfl) (by assumption) ?_ ?_
          rotate_left
          · (intro w hSw; (try dsimp only at hSw); go_simp; try with_reducible rfl)
          try simp only [Act.put, List.setIfInBounds_toArray, List.set_cons_zero, List.set_cons_succ]
          refine oneL 2 rfl (by kernel_rfl) (by rfl) (fun K hK => ?_)
          go_simp
          go_at_call 31
          refine (bstep_any w1 _ pb m q lb F' R' s g af nf feed BD.out (by have := HN.out; omega) HFL.out (HF.out.chg L1.out) HFX.out).mono ?_
          rintro e x1 ⟨F2, R2, rfl, hB2⟩
          have BS := Lib.hid hB2
          clear hB2
          go_wp2_with fail
          refine hK.out _ _ ⟨blk_cell BS.out.pr 0, blk_cell BS.out.pr 1⟩ (fun hHeld => ?_)
          clear hK K
          try simp only [Act.put, List.setIfInBounds_toArray, List.set_cons_zero, List.set_cons_succ]
          refine takeL 3 2 (v := ?_) rfl (by kernel_rfl) (fun _ _ _ h => h) (by rfl) (by assumption) ?_ ?_
          rotate_left
          · (intro w hSw; (try dsimp only at hSw); go_simp; try with_reducible rfl)
          try simp only [Act.put, List.setIfInBounds_toArray, List.set_cons_zero, List.set_cons_succ]
          refine takeL 4 2 (v := ?_) rfl (by kernel_rfl) (fun _ _ _ h => h) (by rfl) (by assumption) ?_ ?_
          rotate_left
          · (intro w hSw; (try dsimp only at hSw); go_simp; try with_reducible rfl)
          try simp only [Act.put, List.setIfInBounds_toArray, List.set_cons_zero, List.set_cons_succ]
          refine takeL 5 2 (v := ?_) rfl (by kernel_rfl) (fun _ _ _ h => h) (by rfl) (by assumption) ?_ ?_
          rotate_left
          · (intro w hSw; (try dsimp only at hSw); go_simp; try with_reducible rfl)
          try simp only [Act.put, List.setIfInBounds_toArray, List.set_cons_zero, List.set_cons_succ]
          refine takeL 6 2 (v := ?_) rfl (by kernel_rfl) (fun _ _ _ h => h) (by rfl) (by assumption) ?_ ?_
          rotate_left
          · (intro w hSw; (try dsimp only at hSw); go_simp; try with_reducible rfl)
          try simp only [Act.put, List.setIfInBounds_toArray, List.set_cons_zero, List.set_cons_succ]
          refine takeL 7 2 (v := ?_) rfl (by kernel_rfl) (fun _ _ _ h => h) (by rfl) (by assumption) ?_ ?_
          rotate_left
          · (intro w hSw; (try dsimp only at hSw); go_simp; try with_reducible rfl)
          try simp only [Act.put, List.setIfInBounds_toArray, List.set_cons_zero, List.set_cons_succ]
          refine takeL 8 2 (v := ?_) rfl (by kernel_rfl) (fun _ _ _ h => h) (by rfl) (by assumption) ?_ ?_
          rotate_left
          · (intro w hSw; (try dsimp only at hSw); go_simp; try with_reducible rfl)
          try simp only [Act.put, List.setIfInBounds_toArray, List.set_cons_zero, List.set_cons_succ]
          refine takeL 9 2 (v := ?_) rfl (by kernel_rfl) (fun _ _ _ h => h) (by rfl) (by assumption) ?_ ?_
          rotate_left
          · (intro w hSw; (try dsimp only at hSw); go_simp; try with_reducible rfl)
          try simp only [Act.put, List.setIfInBounds_toArray, List.set_cons_zero, List.set_cons_succ]
          refine takeL 10 2 (v := ?_) rfl (by kernel_rfl) (fun _ _ _ h => h) (by rfl) (by assumption) ?_ ?_
          rotate_left
          · (intro w hSw; (try dsimp only at hSw); go_simp; try with_reducible rfl)
          try simp only [Act.put, List.setIfInBounds_toArray, List.set_cons_zero, List.set_cons_succ]
          refine takeL 11 2 (v := ?_) rfl (by kernel_rfl) (fun _ _ _ h => h) (by rfl) (by assumption) ?_ ?_
          rotate_left
          · (intro w hSw; (try dsimp only at hSw); go_simp; try with_reducible rfl)
          try simp only [Act.put, List.setIfInBounds_toArray, List.set_cons_zero, List.set_cons_succ]
          refine takeL 12 2 (v := ?_) rfl (by kernel_rfl) (fun _ _ _ h => h) (by rfl) (by assumption) ?_ ?_
          rotate_left
          · (intro w hSw; (try dsimp only at hSw); go_simp; try with_reducible rfl)
          try simp only [Act.put, List.setIfInBounds_toArray, List.set_cons_zero, List.set_cons_succ]
          refine takeL 13 2 (v := ?_) rfl (by kernel_rfl) (fun _ _ _ h => h) (by rfl) (by assumption) ?_ ?_
          rotate_left
          · (intro w hSw; (try dsimp only at hSw); go_simp; try with_reducible rfl)
          try simp only [Act.put, List.setIfInBounds_toArray, List.set_cons_zero, List.set_cons_succ]
          refine takeL 14 2 (v := ?_) rfl (by kernel_rfl) (fun _ _ _ h => h) (by rfl) (by assumption) ?_ ?_
          rotate_left
          · (intro w hSw; (try dsimp only at hSw); go_simp; try with_reducible rfl)
          try simp only [Act.put, List.setIfInBounds_toArray, List.set_cons_zero, List.set_cons_succ]
          refine takeL 15 2 (v := ?_) rfl (by kernel_rfl) (fun _ _ _ h => h) (by rfl) (by assumption) ?_ ?_
          rotate_left
          · (intro w hSw; (try dsimp only at hSw); go_simp; try with_reducible rfl)
          try simp only [Act.put, List.setIfInBounds_toArray, List.set_cons_zero, List.set_cons_succ]
          refine takeL 16 2 (v := ?_) rfl (by kernel_rfl) (fun _ _ _ h => h) (by rfl) (by assumption) ?_ ?_
          rotate_left
          · (intro w hSw; (try dsimp only at hSw); go_simp; try with_reducible rfl)
          try simp only [Act.put, List.setIfInBounds_toArray, List.set_cons_zero, List.set_cons_succ]
          refine oneL 17 rfl (by kernel_rfl) (by rfl) (fun K hK => ?_)
          go_simp
          go_at_call 32
          refine (seen_any w1 _ pb m q lb _ _ _ _ BS.out).mono ?_
          rintro e x2 ⟨rfl, hB3⟩
          have BE := Lib.hid hB3
          clear hB3
          go_wp2_with fail
          refine hK.out _ _ ⟨blk_cell BE.out.pr 0, blk_cell BE.out.pr 1⟩ (fun hHeld => ?_)
          clear hK K
          try simp only [Act.put, List.setIfInBounds_toArray, List.set_cons_zero, List.set_cons_succ]
          refine takeL 18 2 (v := ?_) rfl (by kernel_rfl) (fun _ _ _ h => h) (by rfl) (by assumption) ?_ ?_
          rotate_left
          · (intro w hSw; (try dsimp only at hSw); go_simp; try with_reducible rfl)
          try simp only [Act.put, List.setIfInBounds_toArray, List.set_cons_zero, List.set_cons_succ]
          refine takeL 19 2 (v := ?_) rfl (by kernel_rfl) (fun _ _ _ h => h) (by rfl) (by assumption) ?_ ?_
          rotate_left
          · (intro w hSw; (try dsimp only at hSw); go_simp; try with_reducible rfl)
          try simp only [Act.put, List.setIfInBounds_toArray, List.set_cons_zero, List.set_cons_succ]
          refine takeL 20 2 (v := ?_) rfl (by kernel_rfl) (fun _ _ _ h => h) (by rfl) (by assumption) ?_ ?_
          rotate_left
          · (intro w hSw; (try dsimp only at hSw); go_simp; try with_reducible rfl)
          try simp only [Act.put, List.setIfInBounds_toArray, List.set_cons_zero, List.set_cons_succ]
          refine doneL (by kernel_rfl) ?_ _
          go_wp2_with fail
          go_roundg (gk - 1)
          case measure => have := HN.out; omega
          case rel => exact ⟨n + 1, _, oneK s g, _, _, by have := HN.out; omega, by go_num, by have := HN.out; unfold oneK; split <;> omega, BE.out⟩
        · have h5a : ((n : Int) % 5 == 0) = false := by rw [beq_eq_false_iff_ne]; omega
          have h5b : ((n : Int).tmod 5 == 0) = false := by rw [beq_eq_false_iff_ne, ne_eq, Int.tmod_eq_emod_of_nonneg (by omega)]; omega
          have h5c : (n % 5 == 0) = false := by rw [beq_eq_false_iff_ne]; exact h5
          clear h5
          refine beginL (fun w' => w'.cell? ⟨pb, 0, none⟩ = some (.pointer (some ⟨m, 0, none⟩)) ∧ w'.cell? ⟨pb, 1, none⟩ = some (.pointer (some ⟨q, 0, none⟩))) 21 (by kernel_rfl) ⟨blk_cell BD.out.pr 0, blk_cell BD.out.pr 1⟩ (fun hHeld => ?_)
          refine takeL 0 2 (v := ?_) rfl (by kernel_rfl) (fun _ _ _ h => h) (by rfl) (by assumption) ?_ ?_
          rotate_left
          · (intro w hSw; (try dsimp only at hSw); go_simp; try with_reducible rfl)
          try simp only [Act.put, List.setIfInBounds_toArray, List.set_cons_zero, List.set_cons_succ]
          refine takeL 1 2 (v := ?_) rfl (by kernel_rfl) (fun _ _ _ h => h) (by rfl) (by assumption) ?_ ?_
          rotate_left
          · (intro w hSw; (try dsimp only at hSw); go_simp; try with_reducible rfl)
          try simp only [Act.put, List.setIfInBounds_toArray, List.set_cons_zero, List.set_cons_succ]
          refine oneL 2 rfl (by kernel_rfl) (by rfl) (fun K hK => ?_)
          go_simp
          go_at_call 31
          refine (bstep_any w1 _ pb m q lb F' R' s g af nf feed BD.out (by have := HN.out; omega) HFL.out (HF.out.chg L1.out) HFX.out).mono ?_
          rintro e x1 ⟨F2, R2, rfl, hB2⟩
          have BS := Lib.hid hB2
          clear hB2
          go_wp2_with fail
          refine hK.out _ _ ⟨blk_cell BS.out.pr 0, blk_cell BS.out.pr 1⟩ (fun hHeld => ?_)
          clear hK K
          try simp only [Act.put, List.setIfInBounds_toArray, List.set_cons_zero, List.set_cons_succ]
          refine takeL 3 2 (v := ?_) rfl (by kernel_rfl) (fun _ _ _ h => h) (by rfl) (by assumption) ?_ ?_
          rotate_left
          · (intro w hSw; (try dsimp only at hSw); go_simp; try with_reducible rfl)
          try simp only [Act.put, List.setIfInBounds_toArray, List.set_cons_zero, List.set_cons_succ]
          refine takeL 4 2 (v := ?_) rfl (by kernel_rfl) (fun _ _ _ h => h) (by rfl) (by assumption) ?_ ?_
          rotate_left
          · (intro w hSw; (try dsimp only at hSw); go_simp; try with_reducible rfl)
          try simp only [Act.put, List.setIfInBounds_toArray, List.set_cons_zero, List.set_cons_succ]
          refine takeL 5 2 (v := ?_) rfl (by kernel_rfl) (fun _ _ _ h => h) (by rfl) (by assumption) ?_ ?_
          rotate_left
          · (intro w hSw; (try dsimp only at hSw); go_simp; try with_reducible rfl)
          try simp only [Act.put, List.setIfInBounds_toArray, List.set_cons_zero, List.set_cons_succ]
          refine takeL 6 2 (v := ?_) rfl (by kernel_rfl) (fun _ _ _ h => h) (by rfl) (by assumption) ?_ ?_
          rotate_left
          · (intro w hSw; (try dsimp only at hSw); go_simp; try with_reducible rfl)
          try simp only [Act.put, List.setIfInBounds_toArray, List.set_cons_zero, List.set_cons_succ]
          refine takeL 7 2 (v := ?_) rfl (by kernel_rfl) (fun _ _ _ h => h) (by rfl) (by assumption) ?_ ?_
          rotate_left
          · (intro w hSw; (try dsimp only at hSw); go_simp; try with_reducible rfl)
          try simp only [Act.put, List.setIfInBounds_toArray, List.set_cons_zero, List.set_cons_succ]
          refine takeL 8 2 (v := ?_) rfl (by kernel_rfl) (fun _ _ _ h => h) (by rfl) (by assumption) ?_ ?_
          rotate_left
          · (intro w hSw; (try dsimp only at hSw); go_simp; try with_reducible rfl)
          try simp only [Act.put, List.setIfInBounds_toArray, List.set_cons_zero, List.set_cons_succ]
          refine skipL 9 2 rfl (by kernel_rfl) (fun _ _ _ h => h) (by rfl) (by assumption) ?_
          try simp only [Act.put, List.setIfInBounds_toArray, List.set_cons_zero, List.set_cons_succ]
          refine skipL 10 2 rfl (by kernel_rfl) (fun _ _ _ h => h) (by rfl) (by assumption) ?_
          try simp only [Act.put, List.setIfInBounds_toArray, List.set_cons_zero, List.set_cons_succ]
          refine skipL 11 2 rfl (by kernel_rfl) (fun _ _ _ h => h) (by rfl) (by assumption) ?_
          try simp only [Act.put, List.setIfInBounds_toArray, List.set_cons_zero, List.set_cons_succ]
          refine skipL 12 2 rfl (by kernel_rfl) (fun _ _ _ h => h) (by rfl) (by assumption) ?_
          try simp only [Act.put, List.setIfInBounds_toArray, List.set_cons_zero, List.set_cons_succ]
          refine skipL 13 2 rfl (by kernel_rfl) (fun _ _ _ h => h) (by rfl) (by assumption) ?_
          try simp only [Act.put, List.setIfInBounds_toArray, List.set_cons_zero, List.set_cons_succ]
          refine skipL 14 2 rfl (by kernel_rfl) (fun _ _ _ h => h) (by rfl) (by assumption) ?_
          try simp only [Act.put, List.setIfInBounds_toArray, List.set_cons_zero, List.set_cons_succ]
          refine skipL 15 2 rfl (by kernel_rfl) (fun _ _ _ h => h) (by rfl) (by assumption) ?_
          try simp only [Act.put, List.setIfInBounds_toArray, List.set_cons_zero, List.set_cons_succ]
          refine skipL 16 2 rfl (by kernel_rfl) (fun _ _ _ h => h) (by rfl) (by assumption) ?_
          try simp only [Act.put, List.setIfInBounds_toArray, List.set_cons_zero, List.set_cons_succ]
          refine skipL 17 2 rfl (by kernel_rfl) (fun _ _ _ h => h) (by rfl) (by assumption) ?_
          try simp only [Act.put, List.setIfInBounds_toArray, List.set_cons_zero, List.set_cons_succ]
          refine skipL 18 2 rfl (by kernel_rfl) (fun _ _ _ h => h) (by rfl) (by assumption) ?_
          try simp only [Act.put, List.setIfInBounds_toArray, List.set_cons_zero, List.set_cons_succ]
          refine takeL 19 2 (v := ?_) rfl (by kernel_rfl) (fun _ _ _ h => h) (by rfl) (by assumption) ?_ ?_
          rotate_left
          · (intro w hSw; (try dsimp only at hSw); go_simp; try with_reducible rfl)
          try simp only [Act.put, List.setIfInBounds_toArray, List.set_cons_zero, List.set_cons_succ]
          refine takeL 20 2 (v := ?_) rfl (by kernel_rfl) (fun _ _ _ h => h) (by rfl) (by assumption) ?_ ?_
          rotate_left
          · (intro w hSw; (try dsimp only at hSw); go_simp; try with_reducible rfl)
          try simp only [Act.put, List.setIfInBounds_toArray, List.set_cons_zero, List.set_cons_succ]
          refine doneL (by kernel_rfl) ?_ _
          go_wp2_with fail
          go_roundg (gk - 1)
          case measure => have := HN.out; omega
          case rel => exact ⟨n + 1, _, oneK s g, _, _, by have := HN.out; omega, by go_num, by have := HN.out; unfold oneK; split <;> omega, BS.out⟩
      · have hd : decide (n < f + 3) = false := by simpa using hlt
        have hd2 : decide ((n : Int) < (f : Int) + 3) = false := decide_eq_false (by omega)
        go_wp2_with fail
        have BD := Lib.hid (B.out.quiet ((Chg.refl _ Nothing).drew))
        refine beginL (fun w' => w'.cell? ⟨pb, 0, none⟩ = some (.pointer (some ⟨m, 0, none⟩)) ∧ w'.cell? ⟨pb, 1, none⟩ = some (.pointer (some ⟨q, 0, none⟩))) 13 (by kernel_rfl) ⟨blk_cell BD.out.pr 0, blk_cell BD.out.pr 1⟩ (fun hHeld => ?_)
        refine takeL 0 2 (v := ?_) rfl (by kernel_rfl) (fun _ _ _ h => h) (by rfl) (by assumption) ?_ ?_
        rotate_left
        · (intro w hSw; (try dsimp only at hSw); go_simp; try with_reducible rfl)
        try simp only [Act.put, List.setIfInBounds_toArray, List.set_cons_zero, List.set_cons_succ]
        refine takeL 1 2 (v := ?_) rfl (by kernel_rfl) (fun _ _ _ h => h) (by rfl) (by assumption) ?_ ?_
        rotate_left
        · (intro w hSw; (try dsimp only at hSw); go_simp; try with_reducible rfl)
        try simp only [Act.put, List.setIfInBounds_toArray, List.set_cons_zero, List.set_cons_succ]
        refine takeL 2 2 (v := ?_) rfl (by kernel_rfl) (fun _ _ _ h => h) (by rfl) (by assumption) ?_ ?_
        rotate_left
        · (intro w hSw; (try dsimp only at hSw); go_simp; try with_reducible rfl)
        try simp only [Act.put, List.setIfInBounds_toArray, List.set_cons_zero, List.set_cons_succ]
        refine takeL 3 2 (v := ?_) rfl (by kernel_rfl) (fun _ _ _ h => h) (by rfl) (by assumption) ?_ ?_
        rotate_left
        · (intro w hSw; (try dsimp only at hSw); go_simp; try with_reducible rfl)
        try simp only [Act.put, List.setIfInBounds_toArray, List.set_cons_zero, List.set_cons_succ]
        refine takeL 4 2 (v := ?_) rfl (by kernel_rfl) (fun _ _ _ h => h) (by rfl) (by assumption) ?_ ?_
        rotate_left
        · (intro w hSw; (try dsimp only at hSw); go_simp; try with_reducible rfl)
        try simp only [Act.put, List.setIfInBounds_toArray, List.set_cons_zero, List.set_cons_succ]
        refine takeL 5 2 (v := ?_) rfl (by kernel_rfl) (fun _ _ _ h => h) (by rfl) (by assumption) ?_ ?_
        rotate_left
        · (intro w hSw; (try dsimp only at hSw); go_simp; try with_reducible rfl)
        try simp only [Act.put, List.setIfInBounds_toArray, List.set_cons_zero, List.set_cons_succ]
        refine takeL 6 2 (v := ?_) rfl (by kernel_rfl) (fun _ _ _ h => h) (by rfl) (by assumption) ?_ ?_
        rotate_left
        · (intro w hSw; (try dsimp only at hSw); go_simp; try with_reducible rfl)
        try simp only [Act.put, List.setIfInBounds_toArray, List.set_cons_zero, List.set_cons_succ]
        refine takeL 7 2 (v := ?_) rfl (by kernel_rfl) (fun _ _ _ h => h) (by rfl) (by assumption) ?_ ?_
        rotate_left
        · (intro w hSw; (try dsimp only at hSw); go_simp; try with_reducible rfl)
        try simp only [Act.put, List.setIfInBounds_toArray, List.set_cons_zero, List.set_cons_succ]
        refine takeL 8 2 (v := ?_) rfl (by kernel_rfl) (fun _ _ _ h => h) (by rfl) (by assumption) ?_ ?_
        rotate_left
        · (intro w hSw; (try dsimp only at hSw); go_simp; try with_reducible rfl)
        try simp only [Act.put, List.setIfInBounds_toArray, List.set_cons_zero, List.set_cons_succ]
        refine takeL 9 2 (v := ?_) rfl (by kernel_rfl) (fun _ _ _ h => h) (by rfl) (by assumption) ?_ ?_
        rotate_left
        · (intro w hSw; (try dsimp only at hSw); go_simp; try with_reducible rfl)
        try simp only [Act.put, List.setIfInBounds_toArray, List.set_cons_zero, List.set_cons_succ]
        refine oneL 10 rfl (by kernel_rfl) (by rfl) (fun K hK => ?_)
        go_simp
        go_at_call 32
        refine (seen_any w1 _ pb m q lb _ _ _ _ BD.out).mono ?_
        rintro e x2 ⟨rfl, hB3⟩
        have BE := Lib.hid hB3
        clear hB3
        go_wp2_with fail
        refine hK.out _ _ ⟨blk_cell BE.out.pr 0, blk_cell BE.out.pr 1⟩ (fun hHeld => ?_)
        clear hK K
        try simp only [Act.put, List.setIfInBounds_toArray, List.set_cons_zero, List.set_cons_succ]
        refine takeL 11 2 (v := ?_) rfl (by kernel_rfl) (fun _ _ _ h => h) (by rfl) (by assumption) ?_ ?_
        rotate_left
        · (intro w hSw; (try dsimp only at hSw); go_simp; try with_reducible rfl)
        try simp only [Act.put, List.setIfInBounds_toArray, List.set_cons_zero, List.set_cons_succ]
        refine takeL 12 2 (v := ?_) rfl (by kernel_rfl) (fun _ _ _ h => h) (by rfl) (by assumption) ?_ ?_
        rotate_left
        · (intro w hSw; (try dsimp only at hSw); go_simp; try with_reducible rfl)
        try simp only [Act.put, List.setIfInBounds_toArray, List.set_cons_zero, List.set_cons_succ]
        refine doneL (by kernel_rfl) ?_ _
        go_wp2_with fail
        go_ret
        exact ⟨rfl, L1.out.trans BE.out.chg (fun _ _ h => h)⟩
  · refine (begun_bad c t f r tag ac cc code aa na args _ (by have := HB.out; omega) (by have := HAB.out; omega) (HS.out.chg L1.out) (code_row (HS.out.chg L1.out) HCL.out HAC.out) (HA.out.chg L1.out) HAC.out HAA.out HCL.out HAL.out HX.out HAX.out hok).mono ?_
    clear hok
    rintro e w2 ⟨rfl, hc2⟩
    have CE := Lib.hid (L1.out.trans hc2 (fun _ _ h => h))
    clear hc2 i0 i1 i2 i3 j0 j1 z0 z1
    go_wp2_with fail
    go_ret
    exact ⟨rfl, CE.out⟩
end Go.Proofs.YthgllaomafhdkaaGreat
