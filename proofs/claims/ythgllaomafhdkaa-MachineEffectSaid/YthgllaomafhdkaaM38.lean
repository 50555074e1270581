/- MachineEffect: the walk. -/
import Derived.Test.YthgllaomafhdkaaM36
import Derived.Test.YthgllaomafhdkaaK9
namespace Go.Proofs.Ythgllaomafhdkaa
open Go Go.RowKit
set_option maxRecDepth 100000
set_option maxHeartbeats 1000000
set_option linter.unusedVariables false
set_option linter.unusedSimpArgs false

theorem mplace_q (m : Nat) (F : Nat → Prop) (s : Mc) (w : World) (h : Ma w m F s) : Calls Try.prog 13 #[.pointer (some ⟨m, 0, none⟩)] w fun e w' => e = .returned (.int .i64 (s.at_ : Int)) ∧ w' = w := by
  have c25 : w.cell? ⟨m, 25, none⟩ = some (.int .i64 (s.at_ : Int)) := h.cell 25 (fun pn pc pb ac cc ao co ar cr => rfl)
  clear h
  go_enter Try.func13, Try.ntmps13
  go_wp2_with fail
  go_ret
  exact ⟨rfl, rfl⟩
theorem mdepth_q (m : Nat) (F : Nat → Prop) (s : Mc) (w : World) (h : Ma w m F s) : Calls Try.prog 14 #[.pointer (some ⟨m, 0, none⟩)] w fun e w' => e = .returned (.int .i64 (s.calls.length : Int)) ∧ w' = w := by
  obtain ⟨hF, T, pn, pc, pb, ac, cc, ao, co, ar, cr, hM, hT⟩ := h
  have c24 : w.cell? ⟨m, 24, none⟩ = some (.pointer (some ⟨pc, 0, none⟩)) := blk_cell hM.blk 24
  have HM := Lib.hid hM.cal
  clear hM
  go_enter Try.func14, Try.ntmps14
  go_wp2_with fail
  with_reducible refine (SI.len_any pc _ _ 16 _ HM.out).mono ?_
  rintro e w1 ⟨rfl, rfl⟩
  go_wp2_with fail
  go_ret
  exact ⟨rfl, rfl⟩
theorem mplace_w (m : Nat) (F : Nat → Prop) (s : Mc) (w : World) (h : Ma w m F s) : Calls Try.prog 13 #[.pointer (some ⟨m, 0, none⟩)] w fun e w' => e = .returned (.int .i64 (s.at_ : Int)) ∧ w = w' := (mplace_q m F s w h).mono fun e w' ⟨h1, h2⟩ => ⟨h1, h2.symm⟩
theorem mdepth_w (m : Nat) (F : Nat → Prop) (s : Mc) (w : World) (h : Ma w m F s) : Calls Try.prog 14 #[.pointer (some ⟨m, 0, none⟩)] w fun e w' => e = .returned (.int .i64 (s.calls.length : Int)) ∧ w = w' := (mdepth_q m F s w h).mono fun e w' ⟨h1, h2⟩ => ⟨h1, h2.symm⟩
theorem give_len {s : Mc} (h : s.waits = true) (x : Nat) : (giveP s x).1.s.length = s.s.length + 1 := by
  unfold giveP
  rw [if_pos h]
  simp
set_option maxRecDepth 100000 in
set_option maxHeartbeats 16000000 in
theorem effect_walk (c t f r : Int) (tag : Int) (ac : Option Addr) (cc : Nat) (code : List Ins) (aa : Option Addr) (na : Nat) (args : List Nat) (af : Option Addr) (nf : Nat) (feed : List Nat) (w : World)
    (hb : code.length * 24 ≤ 140737488355328) (hs : Sees w ac (insV code)) (hc : (∀ k, CodeB ac code k → k < w.heap.size) ∧ RRow w (CodeB ac code) (.slice ac code.length cc) code.length 3 (insV code)) (ha : Sees w aa (args.map fl)) (hf : Sees w af (feed.map fl)) (hfl : feed.length ≤ 9223372036854775807)
    (hx : ∀ i ∈ code, i.2.2 < 18446744073709551616) (hax : ∀ y ∈ args, y < 18446744073709551616) (hfx : ∀ y ∈ feed, y < 18446744073709551616) :
    Calls Try.prog 4 #[.agg #[.int .i64 c, .int .i64 t, .int .i64 f, .int .i64 r], .agg #[.int .i64 tag, .slice ac code.length cc], .slice aa args.length na, .slice af feed.length nf] w fun e w' => e = .returned (.bool true) ∧ Chg w w' Nothing := by
  by_cases hok : CfgOk c t f r ∧ args.length ≤ 8
  · obtain ⟨hcfg, hal⟩ := hok
    have HCF := Lib.hid hcfg
    have HAL := Lib.hid hal
    have HB := Lib.hid hb
    have HS := Lib.hid hs
    have HC := Lib.hid hc
    have HA := Lib.hid ha
    have HF := Lib.hid hf
    have HFL := Lib.hid hfl
    have HX := Lib.hid hx
    have HAX := Lib.hid hax
    have HFX := Lib.hid hfx
    clear hb hs hc ha hf hfl hx hax hfx hcfg hal
    go_enter Try.func4, Try.ntmps4
    go_wp2_with fail
    with_reducible refine (live08_any _).mono ?_
    rintro e w1 ⟨rfl, hc1⟩
    obtain ⟨i0, i1, i2, i3, j0, j1, z0, z1⟩ := law_cells hc1
    have C1 := Lib.hid hc1
    clear hc1
    go_wp2_with fail
    refine (mnew_good c t f r tag ac cc code aa na args _ HCF.out HAL.out HB.out (HS.out.chg (law_old C1.out)) (HA.out.chg (law_old C1.out))).mono ?_
    rintro e w2 ⟨m, rfl, hm, hc2⟩
    have R2 := Lib.hid (show Run0 ((w.alloc (cfgBx c t f r)).alloc (prgBx tag ac code.length cc)) w2 m _ (mc0 c t f r tag code args) from ⟨hm, mc0_fine HCF.out HX.out HAX.out, C1.out.trans hc2 (fun _ _ h => h), fun k hk => Nat.le_trans C1.out.size hk.1⟩)
    clear i0 i1 i2 i3 j0 j1 z0 z1 hm hc2 C1
    obtain ⟨i0, i1, i2, i3, j0, j1, z0, z1⟩ := law_cells R2.out.chg
    go_wp2_with fail
    have CW := Lib.hid (law_old R2.out.chg)
    refine (rnew_good c t f r tag ac cc code aa na args (CodeB ac code) _ HCF.out HAL.out (fun k hk => Nat.lt_of_lt_of_le (HC.out.1 k hk) CW.out.size) (HC.out.2.move (fun b hb => ⟨hb, CW.out.block b (HC.out.1 b hb) id⟩)) (HA.out.chg CW.out)).mono ?_
    rintro e w3 ⟨q, lb, rfl, hq, hq1, hq2, hc3⟩
    have R3 := Lib.hid (R2.out.quiet hc3)
    clear i0 i1 i2 i3 j0 j1 z0 z1 hq hq1 hq2 hc3 R2 CW
    obtain ⟨i0, i1, i2, i3, j0, j1, z0, z1⟩ := law_cells R3.out.chg
    go_wp2_with fail
    clear i0 i1 i2 i3 j0 j1 z0 z1
    go_loopg [12, 13] (f.toNat + 1) (fun k v i wr => ∃ (n g : Nat) (F : Nat → Prop) (s : Mc), n + k = f.toNat + 1 ∧ g ≤ n ∧ v = .int .i64 (g : Nat) ∧ i = .int .i64 (n : Nat) ∧ Run0 ((w.alloc (cfgBx c t f r)).alloc (prgBx tag ac code.length cc)) wr m F s ∧ Goes s (mc0 c t f r tag code args) n)
    case atStart => exact ⟨0, 0, _, _, by simp, Nat.le_refl _, rfl, rfl, R3.out, Goes.begin ..⟩
    case round =>
      obtain ⟨n, g, F, s, hn, hg, rfl, rfl, hR, hG⟩ := hrel
      have hf1 := HCF.out.2.2.1.1
      have hf2 := HCF.out.2.2.1.2
      have hnf : (n : Int) ≤ f := by have := hR.fine.ok.used; rw [hG.used, hG.facts.2.2.1] at this; exact this
      have hd : decide ((n : Int) ≤ f) = true := decide_eq_true hnf
      obtain ⟨i0, i1, i2, i3, j0, j1, z0, z1⟩ := law_cells hR.chg
      have hcl := hG.class hR.fine
      have R := Lib.hid hR
      have G := Lib.hid hG
      have CL := Lib.hid hcl
      have HN := Lib.hid hn
      have HG := Lib.hid hg
      have HF1 := Lib.hid (And.intro hf1 hf2)
      clear hR hG hcl hn hg hf1 hf2 R3
      go_wp2_with fail
      with_reducible refine (mstack_any m F s _ R.out.ma).mono ?_
      rintro e wa ⟨sa, sc, rfl, -, hca⟩
      have RA := Lib.hid (R.out.quiet hca)
      clear hca
      go_wp2_with fail
      with_reducible refine (mplace_any m F s _ RA.out.ma).mono ?_
      rintro e wb ⟨rfl, hcb⟩
      have RB := Lib.hid (RA.out.quiet hcb)
      clear hcb RA
      go_wp2_with fail
      with_reducible refine (mdepth_any m F s _ RB.out.ma).mono ?_
      rintro e wd ⟨rfl, hcd⟩
      have RD := Lib.hid (RB.out.quiet hcd)
      clear hcd RB
      go_wp2_with fail
      with_reducible refine (mstep_any m F s _ RD.out.ma RD.out.fine).mono ?_
      rintro e w4 ⟨rfl, hS, hf⟩
      have R4 := Lib.hid (RD.out.next hS hf)
      clear hS hf i0 i1 i2 i3 j0 j1 z0 z1 RD
      obtain ⟨i0, i1, i2, i3, j0, j1, z0, z1⟩ := law_cells R4.out.chg
      rcases CL.out with ⟨u, hu, he⟩ | ⟨hu, hwn⟩
      · have e1 : askV (stepP s).2 = .agg #[.int .i64 4, .int .i64 0, .float .f64 0, .bool false] := by rw [he.ask]; rfl
        rw [e1]
        have C4 := Lib.hid (law_old (R4.out.box (.cells #[.int .i64 4, .int .i64 0, .float .f64 0, .bool false] 36)).chg)
        clear he e1 hu CL R4
        go_wp2_with fail
        go_ret
        exact ⟨rfl, C4.out⟩
      · have hG5 := G.out.step hwn
        have hn1 : n + 1 ≤ f.toNat := by have hu' : ((n + 1 : Nat) : Int) ≤ f := hu; omega
        have HN1 := Lib.hid hn1
        have hkk := hwn.kind
        have hwt := hwn.waits
        obtain ⟨x, hx, hx1, hx2, hef⟩ := step_eff R.out.fine.ok G.out.waits G.out.how (by rcases hwn.kind with e | e | e | e <;> rw [e] <;> decide)
        rw [G.out.facts.2.2.2.2.2.1] at hx
        have hx : code[s.at_]? = some x := hx
        obtain ⟨op, xn, xv⟩ := x
        have hat := (List.getElem?_eq_some_iff.1 hx).1
        obtain ⟨cb, co, hca, hc0, hc1, hc2⟩ := ins_cells HS.out hx
        subst hca
        have CO := Lib.hid (law_old R4.out.chg)
        have n0 := CO.out.cell hc0 id
        have n1 := CO.out.cell hc1 id
        have n2 := CO.out.cell hc2 id
        have hcz : cb < w4.heap.size := cell_lt n0
        have hlen := hef.len
        have hjmp := hef.jump
        have hcll := hef.call
        have hret := hef.ret
        have hrst := hef.rest
        have hT := takes_bd hx1 hx2
        have hsl := R.out.fine.len
        have hcl4 := R.out.ma.fits.2.1
        dsimp only at hlen hjmp hcll hret hrst hx1 hx2 n0 n1 n2
        have hrd := hef.rd
        dsimp only at hrd
        obtain ⟨T, hTe⟩ : ∃ T, takesOf op = T := ⟨_, rfl⟩
        obtain ⟨L, hLe⟩ : ∃ L, laysOf op = L := ⟨_, rfl⟩
        have TE := Lib.hid (And.intro hTe hLe)
        rw [hTe, hLe] at hlen hT
        clear hwn hef hu hn1 hx hc0 hc1 hc2 CL CO hTe hLe
        generalize (stepP s).1 = s4 at *
        generalize (stepP s).2 = a at *
        obtain ⟨ak, acl, ax, afi⟩ := a
        dsimp only at hG5 hkk hwt hlen hrd
        have ea : askV ⟨ak, acl, ax, afi⟩ = .agg #[.int .i64 ak, .int .i64 acl, fl ax, .bool afi] := rfl
        rw [ea]
        clear ea
        have R5 := Lib.hid (R4.out.box (.cells #[.int .i64 ak, .int .i64 acl, fl ax, .bool afi] 36))
        have R6 := Lib.hid (R5.out.box (.cells #[.int .i64 op, .int .i64 xn, fl xv] 46))
        have A5 := Lib.hid (heap_alloc_new w4 (.cells #[.int .i64 ak, .int .i64 acl, fl ax, .bool afi] 36))
        have gl := HG.out
        have nl := HN1.out
        have fl2 := HF1.out
        have gw : (g : Int) ≤ 4096 := by omega
        have nw : (n : Int) ≤ 4096 := by omega
        have hl4 := R4.out.fine.len
        have hc4 := R4.out.ma.fits.2.1
        have d4 : (ak == 4) = false := by rcases hkk with e | e | e | e <;> subst e <;> rfl
        have b1 : decide ((code.length : Int) ≤ (s.at_ : Int)) = false := decide_eq_false (by omega)
        have hsi : (s.s.length : Int) ≤ 64 := by omega
        have haw : (s.at_ : Int) ≤ 9223372036854775806 := by have := HB.out; omega
        have hdw : (s.calls.length : Int) ≤ 16 := by omega
        have HT1 := hT.1
        have HT2 := hT.2.1
        have HT3 := hT.2.2.1
        have HT4 := hT.2.2.2
        have LEN := Lib.hid hlen
        have HX1 := Lib.hid (And.intro hx1 hx2)
        have ls : (s4.s.length : Int) = s.s.length - T + (L - (if ak = 1 then 1 else 0)) := by rw [hlen]; omega
        have LS := Lib.hid ls
        have GG := Lib.hid hG5
        have WT := Lib.hid hwt
        have RD := Lib.hid hrd
        have J := Lib.hid (And.intro hjmp (And.intro hcll (And.intro hret hrst)))
        clear gl nl fl2 hl4 hc4 hT hsl hcl4 hlen ls hx1 hx2 hjmp hcll hret hrst hG5 hkk hwt hrd R4
        go_wp2_with fail
        with_reducible refine (effect_any op _ HX1.out.1 HX1.out.2).mono ?_
        rw [TE.out.1, TE.out.2]
        rintro e w6 ⟨rfl, hc6⟩
        have R7 := Lib.hid (R6.out.quiet hc6)
        have A7 := Lib.hid ((hc6.block _ (blk_lt (blk_alloc A5.out (.cells #[.int .i64 op, .int .i64 xn, fl xv] 46))) id).trans (blk_alloc A5.out (.cells #[.int .i64 op, .int .i64 xn, fl xv] 46)))
        have I7 := Lib.hid (show w6.heap[w4.heap.size + 1]? = some (.cells #[.int .i64 op, .int .i64 xn, fl xv] 46 (0, 0)) from (hc6.block _ (by simp) id).trans step_blk)
        clear hc6 R5 R6 A5 i0 i1 i2 i3 j0 j1 z0 z1 n0 n1 n2
        have y0 : w6.cell? ⟨w4.heap.size, 0, none⟩ = some (.int .i64 ak) := blk_cell A7.out 0
        have u0 : w6.cell? ⟨w4.heap.size + 1, 0, none⟩ = some (.int .i64 op) := blk_cell I7.out 0
        have u1 : w6.cell? ⟨w4.heap.size + 1, 1, none⟩ = some (.int .i64 xn) := blk_cell I7.out 1
        by_cases hk1 : ak = 1
        · subst hk1
          have e1 : (((s4.s.length : Nat) : Int) != (s.s.length : Int) - T + (L - 1)) = false := by rw [LS.out]; simp
          have H16 := Lib.hid (RD.out rfl)
          have G5 := Lib.hid (GG.out.1 (fedP feed g) rfl)
          have hls := LS.out
          rw [if_pos rfl] at hls
          have LS1 := Lib.hid hls
          clear RD GG LS hls
          go_wp2_with fail
          with_reducible refine (mstack_any m _ s4 _ R7.out.ma).mono ?_
          rintro e w7 ⟨ta, tc, rfl, -, hc7⟩
          have R8 := Lib.hid (R7.out.quiet hc7)
          have A8 := Lib.hid ((hc7.block _ (blk_lt A7.out) id).trans A7.out)
          have y0 := hc7.cell y0 id
          have u0 := hc7.cell u0 id
          have u1 := hc7.cell u1 id
          have h16 : op = 16 := H16.out
          subst h16
          have tt : T = 1 := by rw [← TE.out.1]; decide
          have tl : L = 1 := by rw [← TE.out.2]; decide
          obtain ⟨p, q⟩ := J.out.2.2.2 (.inr (by decide))
          have p1 : ((s4.at_ : Int) != (s.at_ : Int) + 1) = false := by rw [p]; simp
          have dq : ((s4.calls.length : Int) != (s.calls.length : Int)) = false := by rw [q]; simp
          have W4 := Lib.hid (give_went (show s4.waits = true from WT.out) (fedP feed g)).1
          have GL := Lib.hid (give_len (show s4.waits = true from WT.out) (fedP feed g))
          have fin : (((giveP s4 (fedP feed g)).1.s.length : Int) != (s.s.length : Int)) = false := by rw [GL.out]; have h := LS1.out; rw [tt, tl] at h; rw [bne_eq_false_iff_eq]; omega
          clear hc7 R7 A7 I7 tt tl p q
          go_wp2_with (first | (go_at_call 13; refine (mplace_w m _ s4 _ R8.out.ma).mono ?_; rintro e w' ⟨rfl, rfl⟩) | (go_at_call 14; refine (mdepth_w m _ s4 _ R8.out.ma).mono ?_; rintro e w' ⟨rfl, rfl⟩))
          with_reducible refine (fed_any af nf g feed _ (by have := gw; omega) HFL.out (HF.out.chg (law_old R8.out.chg))).mono ?_
          rintro e w8 ⟨rfl, rfl⟩
          go_wp2_with fail
          with_reducible refine (mgive_any m _ s4 (fedP feed g) _ R8.out.ma R8.out.fine (fedP_lt HFX.out g)).mono ?_
          rw [W4.out]
          rintro e w9 ⟨rfl, hS9, hf9⟩
          have R9 := Lib.hid (R8.out.next hS9 hf9)
          clear hS9 hf9 y0 u0 u1 R8 A8
          go_wp2_with fail
          with_reducible refine (mstack_any m _ _ _ R9.out.ma).mono ?_
          rintro e wz ⟨tz, cz, rfl, -, hcz⟩
          have RZ := Lib.hid (R9.out.quiet hcz)
          clear hcz R9
          go_wp2_with fail
          go_roundg (gk - 1)
          case measure => have := HN.out; have := HN1.out; omega
          case rel => exact ⟨n + 1, g + 1, _, _, by have := HN.out; have := HN1.out; omega, by have := HG.out; omega, by go_num, by go_num, RZ.out, G5.out⟩
        · have dk : (ak == 1) = false := beq_eq_false_iff_ne.2 hk1
          have e1 : (((s4.s.length : Nat) : Int) != (s.s.length : Int) - T + L) = false := by rw [LS.out, if_neg hk1]; simp
          go_wp2_with fail
          with_reducible refine (mstack_any m _ s4 _ R7.out.ma).mono ?_
          rintro e w7 ⟨ta, tc, rfl, -, hc7⟩
          have R8 := Lib.hid (R7.out.quiet hc7)
          have y0 := hc7.cell y0 id
          have u0 := hc7.cell u0 id
          have u1 := hc7.cell u1 id
          clear hc7 R7 A7 I7
          have G5 := Lib.hid (GG.out.2 hk1)
          have hcase : (op = 11 ∨ op = 12 ∨ op = 13) ∨ op = 14 ∨ op = 15 ∨ (op < 11 ∨ 15 < op) := by have := HX1.out; omega
          clear hk1
          rcases hcase with hj | rfl | rfl | ho
          · obtain ⟨ha, q⟩ := J.out.1 hj
            have dq : ((s4.calls.length : Int) != (s.calls.length : Int)) = false := by rw [q]; simp
            by_cases p : (s4.at_ : Int) = (s.at_ : Int) + 1
            · have p1 : ((s4.at_ : Int) != (s.at_ : Int) + 1) = false := by rw [p]; simp
              clear p q ha
              rcases hj with rfl | rfl | rfl
              all_goals
                go_wp2_with fail
                go_quiet ((first | (go_at_call 13; exact Calls.quiet_of_same (mplace_q m _ s4 _ (R8.out.ma.drewN _))) | (go_at_call 14; exact Calls.quiet_of_same (mdepth_q m _ s4 _ (R8.out.ma.drewN _)))))
                go_wp2_with fail
                go_roundg (gk - 1)
                case measure => have := HN.out; have := HN1.out; omega
                case rel => exact ⟨n + 1, g, _, _, by have := HN.out; have := HN1.out; omega, by have := HG.out; omega, rfl, by go_num, R8.out.quiet ((Chg.refl _ _).drewN _), G5.out⟩
            · have p1 : ((s4.at_ : Int) != (s.at_ : Int) + 1) = true := by simpa using p
              have p2 : ((s4.at_ : Int) != xn) = false := by
                rcases ha with ha | ha
                · exact absurd ha (by omega)
                · rw [ha]; simp
              clear p q ha
              rcases hj with rfl | rfl | rfl
              all_goals
                go_wp2_with fail
                go_quiet ((first | (go_at_call 13; exact Calls.quiet_of_same (mplace_q m _ s4 _ (R8.out.ma.drewN _))) | (go_at_call 14; exact Calls.quiet_of_same (mdepth_q m _ s4 _ (R8.out.ma.drewN _)))))
                go_wp2_with fail
                go_roundg (gk - 1)
                case measure => have := HN.out; have := HN1.out; omega
                case rel => exact ⟨n + 1, g, _, _, by have := HN.out; have := HN1.out; omega, by have := HG.out; omega, rfl, by go_num, R8.out.quiet ((Chg.refl _ _).drewN _), G5.out⟩
          · obtain ⟨p, q⟩ := J.out.2.1 rfl
            have p1 : ((s4.at_ : Int) != xn) = false := by rw [p]; simp
            have dq : ((s4.calls.length : Int) != (s.calls.length : Int) + 1) = false := by rw [q]; simp
            clear p q
            go_wp2_with fail
            go_quiet ((first | (go_at_call 13; exact Calls.quiet_of_same (mplace_q m _ s4 _ (R8.out.ma.drewN _))) | (go_at_call 14; exact Calls.quiet_of_same (mdepth_q m _ s4 _ (R8.out.ma.drewN _)))))
            go_wp2_with fail
            go_roundg (gk - 1)
            case measure => have := HN.out; have := HN1.out; omega
            case rel => exact ⟨n + 1, g, _, _, by have := HN.out; have := HN1.out; omega, by have := HG.out; omega, rfl, by go_num, R8.out.quiet ((Chg.refl _ _).drewN _), G5.out⟩
          · have q := J.out.2.2.1 rfl
            have dq : ((s4.calls.length : Int) != (s.calls.length : Int) - 1) = false := by simp; omega
            clear q
            go_wp2_with (first | (go_at_call 13; refine (mplace_w m _ s4 _ R8.out.ma).mono ?_; rintro e w' ⟨rfl, rfl⟩) | (go_at_call 14; refine (mdepth_w m _ s4 _ R8.out.ma).mono ?_; rintro e w' ⟨rfl, rfl⟩))
            go_roundg (gk - 1)
            case measure => have := HN.out; have := HN1.out; omega
            case rel => exact ⟨n + 1, g, _, _, by have := HN.out; have := HN1.out; omega, by have := HG.out; omega, rfl, by go_num, R8.out, G5.out⟩
          · obtain ⟨p, q⟩ := J.out.2.2.2 ho
            have p1 : ((s4.at_ : Int) != (s.at_ : Int) + 1) = false := by rw [p]; simp
            have dq : ((s4.calls.length : Int) != (s.calls.length : Int)) = false := by rw [q]; simp
            have o1 : (op == 11) = false := beq_eq_false_iff_ne.2 (by omega)
            have o2 : (op == 12) = false := beq_eq_false_iff_ne.2 (by omega)
            have o3 : (op == 13) = false := beq_eq_false_iff_ne.2 (by omega)
            have o4 : (op == 14) = false := beq_eq_false_iff_ne.2 (by omega)
            have o5 : (op == 15) = false := beq_eq_false_iff_ne.2 (by omega)
            clear p q ho
            go_wp2_with (first | (go_at_call 13; refine (mplace_w m _ s4 _ R8.out.ma).mono ?_; rintro e w' ⟨rfl, rfl⟩) | (go_at_call 14; refine (mdepth_w m _ s4 _ R8.out.ma).mono ?_; rintro e w' ⟨rfl, rfl⟩))
            go_roundg (gk - 1)
            case measure => have := HN.out; have := HN1.out; omega
            case rel => exact ⟨n + 1, g, _, _, by have := HN.out; have := HN1.out; omega, by have := HG.out; omega, rfl, by go_num, R8.out, G5.out⟩
  · have H := Lib.hid hok
    have HX := Lib.hid hx
    clear hok hb hs hc ha hf hfl hx hax hfx
    go_enter Try.func4, Try.ntmps4
    go_wp2_with fail
    with_reducible refine (live08_any _).mono ?_
    rintro e w1 ⟨rfl, hc1⟩
    obtain ⟨i0, i1, i2, i3, j0, j1, z0, z1⟩ := law_cells hc1
    have C1 := Lib.hid hc1
    clear hc1
    go_wp2_with fail
    with_reducible refine (mnew_bad c t f r tag ac code.length cc aa args.length na _ H.out).mono ?_
    rintro e w2 ⟨rfl, hc2⟩
    have C2 := Lib.hid (C1.out.trans hc2 (fun _ _ h => h))
    clear hc2 C1 i0 i1 i2 i3 j0 j1 z0 z1
    obtain ⟨i0, i1, i2, i3, j0, j1, z0, z1⟩ := law_cells C2.out
    go_wp2_with fail
    with_reducible refine (rnew_bad c t f r tag ac code.length cc aa args.length na _ H.out).mono ?_
    rintro e w3 ⟨rfl, hc3⟩
    have C3 := Lib.hid (law_old (C2.out.trans hc3 (fun _ _ h => h)))
    clear hc3 C2 i0 i1 i2 i3 j0 j1 z0 z1
    go_wp2_with fail
    go_ret
    exact ⟨rfl, C3.out⟩
end Go.Proofs.Ythgllaomafhdkaa
