/- MachineAlike: the walk. -/
import Derived.Test.YthgllaomafhdkaaGreatK9
import Derived.Test.YthgllaomafhdkaaGreatK9
import Derived.Lib.QuoteBits
namespace Go.Proofs.YthgllaomafhdkaaGreat
open Go Go.RowKit
set_option maxRecDepth 100000
set_option maxHeartbeats 1000000
set_option linter.unusedVariables false
set_option linter.unusedSimpArgs false

theorem and7 (t : Int) : 0 ≤ bits .and .i64 t 7 ∧ bits .and .i64 t 7 ≤ 7 := by
  show 0 ≤ IntKind.i64.wrap ((BitVec.ofInt 64 t &&& BitVec.ofInt 64 7).toNat : Int) ∧ IntKind.i64.wrap ((BitVec.ofInt 64 t &&& BitVec.ofInt 64 7).toNat : Int) ≤ 7
  have h : (BitVec.ofInt 64 t &&& BitVec.ofInt 64 7).toNat ≤ 7 := by
    rw [BitVec.toNat_and, show (BitVec.ofInt 64 7).toNat = 7 from by decide]
    exact Nat.and_le_right
  rw [Go.Lib.wrap_i64_small _ (by omega)]
  omega
theorem thr_bd (t : Int) : 1 ≤ wrap64 (1 + (wrap64 (bits .and .i64 t 7 + 3)).tmod 8) ∧ wrap64 (1 + (wrap64 (bits .and .i64 t 7 + 3)).tmod 8) ≤ 8 := by
  obtain ⟨h1, h2⟩ := and7 t
  generalize bits .and .i64 t 7 = x at h1 h2
  rw [IntWalk.wrap64_in (x + 3) ⟨by omega, by omega⟩]
  have h3 := Int.tmod_nonneg 8 (show (0 : Int) ≤ x + 3 by omega)
  have h4 := Int.tmod_lt_of_pos (x + 3) (show (0 : Int) < 8 by decide)
  rw [IntWalk.wrap64_in _ ⟨by omega, by omega⟩]
  omega
set_option maxRecDepth 100000 in
set_option maxHeartbeats 8000000 in
theorem alike_walk (c t f r tag : Int) (ac : Option Addr) (cc : Nat) (code : List Ins) (aa : Option Addr) (na : Nat) (args : List Nat) (af : Option Addr) (nf : Nat) (feed : List Nat) (w : World)
    (hb : code.length * 24 ≤ 140737488355328) (hs : Sees w ac (insV code)) (hc : (∀ k, CodeB ac code k → k < w.heap.size) ∧ RRow w (CodeB ac code) (.slice ac code.length cc) code.length 3 (insV code)) (ha : Sees w aa (args.map fl)) (hf : Sees w af (feed.map fl)) (hfl : feed.length ≤ 9223372036854775807)
    (hx : ∀ i ∈ code, i.2.2 < 18446744073709551616) (hax : ∀ y ∈ args, y < 18446744073709551616) (hfx : ∀ y ∈ feed, y < 18446744073709551616) :
    Calls Tryz.prog 3 #[.agg #[.int .i64 c, .int .i64 t, .int .i64 f, .int .i64 r], .agg #[.int .i64 tag, .slice ac code.length cc], .slice aa args.length na, .slice af feed.length nf] w fun e w' => e = .returned (.bool true) ∧ Chg w w' Nothing := by
  obtain ⟨dt, hdt, ht1, ht8⟩ : ∃ dt, wrap64 (1 + (wrap64 (bits .and .i64 t 7 + 3)).tmod 8) = dt ∧ 1 ≤ dt ∧ dt ≤ 8 := ⟨_, rfl, thr_bd t⟩
  have HT := Lib.hid (And.intro ht1 ht8)
  have HB := Lib.hid hb
  have HS := Lib.hid hs
  have HC := Lib.hid hc
  have HA := Lib.hid ha
  have HF := Lib.hid hf
  have HFL := Lib.hid hfl
  have HX := Lib.hid hx
  have HAX := Lib.hid hax
  have HFX := Lib.hid hfx
  clear ht1 ht8 hb hs hc ha hf hfl hx hax hfx
  go_enter Tryz.func3, Tryz.ntmps3
  go_wp2_with fail
  with_reducible refine (live08_any _).mono ?_
  rintro e w1 ⟨rfl, hc1⟩
  obtain ⟨i0, i1, i2, i3, j0, j1, z0, z1⟩ := law_cells hc1
  have C1 := Lib.hid hc1
  clear hc1
  go_wp2_with fail
  clear hdt
  have C2 := Lib.hid (C1.out.alloc (cfgBx c dt f r))
  have D0 := Lib.hid (heap_alloc_new w1 (cfgBx c dt f r))
  clear i0 i1 i2 i3 j0 j1 z0 z1
  obtain ⟨i0, i1, i2, i3, j0, j1, z0, z1⟩ := law_cells C2.out
  have hcfg : (CfgOk c t f r ∧ args.length ≤ 8) ∨ (¬ (CfgOk c t f r ∧ args.length ≤ 8) ∧ (CfgOk c dt f r ∧ args.length ≤ 8)) ∨ (¬ (CfgOk c t f r ∧ args.length ≤ 8) ∧ ¬ (CfgOk c dt f r ∧ args.length ≤ 8)) := by
    by_cases h1 : CfgOk c t f r ∧ args.length ≤ 8
    · exact .inl h1
    · by_cases h2 : CfgOk c dt f r ∧ args.length ≤ 8
      · exact .inr (.inl ⟨h1, h2⟩)
      · exact .inr (.inr ⟨h1, h2⟩)
  rcases hcfg with hok | ⟨hno, hok⟩ | ⟨hno, hno2⟩
  · have hokd : CfgOk c dt f r := ⟨hok.1.1, HT.out, hok.1.2.2.1, hok.1.2.2.2⟩
    have HCF := Lib.hid hok.1
    have HCD := Lib.hid hokd
    have HAL := Lib.hid hok.2
    clear hok hokd
    refine (mnew_good c t f r tag ac cc code aa na args _ HCF.out HAL.out HB.out (HS.out.chg (law_old C2.out)) (HA.out.chg (law_old C2.out))).mono ?_
    rintro e w2 ⟨m1, rfl, hm, hc2⟩
    have R2 := Lib.hid (show Run0 ((w.alloc (cfgBx c t f r)).alloc (prgBx tag ac code.length cc)) w2 m1 _ (mc0 c t f r tag code args) from ⟨hm, mc0_fine HCF.out HX.out HAX.out, C2.out.trans hc2 (fun _ _ h => h), fun k hk => Nat.le_trans C2.out.size hk.1⟩)
    have D2 := Lib.hid ((hc2.block _ (blk_lt D0.out) id).trans D0.out)
    clear i0 i1 i2 i3 j0 j1 z0 z1 hm hc2 C1 C2 D0
    obtain ⟨i0, i1, i2, i3, j0, j1, z0, z1⟩ := law_cells R2.out.chg
    have e0 : w2.cell? ⟨w1.heap.size, 0, none⟩ = some (.int .i64 c) := blk_cell D2.out 0
    have e1 : w2.cell? ⟨w1.heap.size, 1, none⟩ = some (.int .i64 dt) := blk_cell D2.out 1
    have e2 : w2.cell? ⟨w1.heap.size, 2, none⟩ = some (.int .i64 f) := blk_cell D2.out 2
    have e3 : w2.cell? ⟨w1.heap.size, 3, none⟩ = some (.int .i64 r) := blk_cell D2.out 3
    have z2 := blk_lt D2.out
    go_wp2_with fail
    refine (mnew_good c dt f r tag ac cc code aa na args _ HCD.out HAL.out HB.out (HS.out.chg (law_old R2.out.chg)) (HA.out.chg (law_old R2.out.chg))).mono ?_
    rintro e w3 ⟨m2, rfl, hm, hc3⟩
    have P3 := Lib.hid (show Pair0 ((w.alloc (cfgBx c t f r)).alloc (prgBx tag ac code.length cc)) w3 m1 _ (mc0 c t f r tag code args) m2 _ ((mc0 c t f r tag code args).thr dt) from ⟨R2.out.quiet hc3, ⟨hm, mc0_fine HCD.out HX.out HAX.out, R2.out.chg.trans hc3 (fun _ _ h => h), fun k hk => Nat.le_trans R2.out.chg.size hk.1⟩, fun k hk h2 => by have := R2.out.ma.lt k hk; have := h2.1; omega⟩)
    have D3 := Lib.hid ((hc3.block _ (blk_lt D2.out) id).trans D2.out)
    clear hm hc3 D2 R2
    clear i0 i1 i2 i3 j0 j1 z0 z1 e0 e1 e2 e3 z2
    obtain ⟨i0, i1, i2, i3, j0, j1, z0, z1⟩ := law_cells P3.out.a.chg
    have e0 : w3.cell? ⟨w1.heap.size, 0, none⟩ = some (.int .i64 c) := blk_cell D3.out 0
    have e1 : w3.cell? ⟨w1.heap.size, 1, none⟩ = some (.int .i64 dt) := blk_cell D3.out 1
    have e2 : w3.cell? ⟨w1.heap.size, 2, none⟩ = some (.int .i64 f) := blk_cell D3.out 2
    have e3 : w3.cell? ⟨w1.heap.size, 3, none⟩ = some (.int .i64 r) := blk_cell D3.out 3
    have z2 := blk_lt D3.out
    go_wp2_with fail
    have CW := Lib.hid (law_old P3.out.a.chg)
    refine (rnew_good c t f r tag ac cc code aa na args (CodeB ac code) _ HCF.out HAL.out (fun k hk => Nat.lt_of_lt_of_le (HC.out.1 k hk) CW.out.size) (HC.out.2.move (fun b hb => ⟨hb, CW.out.block b (HC.out.1 b hb) id⟩)) (HA.out.chg CW.out)).mono ?_
    rintro e w4 ⟨q1, lb1, rfl, hq, hq1, hq2, hc4⟩
    have P4 := Lib.hid (P3.out.quiet hc4)
    have D4 := Lib.hid ((hc4.block _ (blk_lt D3.out) id).trans D3.out)
    clear hq hq1 hq2 hc4 P3 D3 CW
    clear i0 i1 i2 i3 j0 j1 z0 z1 e0 e1 e2 e3 z2
    obtain ⟨i0, i1, i2, i3, j0, j1, z0, z1⟩ := law_cells P4.out.a.chg
    have e0 : w4.cell? ⟨w1.heap.size, 0, none⟩ = some (.int .i64 c) := blk_cell D4.out 0
    have e1 : w4.cell? ⟨w1.heap.size, 1, none⟩ = some (.int .i64 dt) := blk_cell D4.out 1
    have e2 : w4.cell? ⟨w1.heap.size, 2, none⟩ = some (.int .i64 f) := blk_cell D4.out 2
    have e3 : w4.cell? ⟨w1.heap.size, 3, none⟩ = some (.int .i64 r) := blk_cell D4.out 3
    have z2 := blk_lt D4.out
    go_wp2_with fail
    have CW := Lib.hid (law_old P4.out.a.chg)
    refine (rnew_good c dt f r tag ac cc code aa na args (CodeB ac code) _ HCD.out HAL.out (fun k hk => Nat.lt_of_lt_of_le (HC.out.1 k hk) CW.out.size) (HC.out.2.move (fun b hb => ⟨hb, CW.out.block b (HC.out.1 b hb) id⟩)) (HA.out.chg CW.out)).mono ?_
    rintro e w5 ⟨q2, lb2, rfl, hq, hq1, hq2, hc5⟩
    have P5 := Lib.hid (P4.out.quiet hc5)
    clear hq hq1 hq2 hc5 P4 D4 CW
    clear i0 i1 i2 i3 j0 j1 z0 z1 e0 e1 e2 e3 z2
    obtain ⟨i0, i1, i2, i3, j0, j1, z0, z1⟩ := law_cells P5.out.a.chg
    go_wp2_with fail
    clear i0 i1 i2 i3 j0 j1 z0 z1
    go_loopg [15, 16] (f.toNat + 1) (fun k v i wr => ∃ (n g : Nat) (F1 F2 : Nat → Prop) (s : Mc), n + k = f.toNat + 1 ∧ g ≤ n ∧ v = .int .i64 (g : Nat) ∧ i = .int .i64 (n : Nat) ∧ Pair0 ((w.alloc (cfgBx c t f r)).alloc (prgBx tag ac code.length cc)) wr m1 F1 s m2 F2 (s.thr dt) ∧ Goes s (mc0 c t f r tag code args) n)
    case atStart => exact ⟨0, 0, _, _, _, by simp, Nat.le_refl _, rfl, rfl, P5.out, Goes.begin ..⟩
    case round =>
      obtain ⟨n, g, F1, F2, s, hn, hg, rfl, rfl, hP, hG⟩ := hrel
      have hf1 := HCF.out.2.2.1.1
      have hf2 := HCF.out.2.2.1.2
      have hnf : (n : Int) ≤ f := by have := hP.a.fine.ok.used; rw [hG.used, hG.facts.2.2.1] at this; exact this
      have hd : decide ((n : Int) ≤ f) = true := decide_eq_true hnf
      obtain ⟨i0, i1, i2, i3, j0, j1, z0, z1⟩ := law_cells hP.a.chg
      have hcl := hG.class hP.a.fine
      have P := Lib.hid hP
      have G := Lib.hid hG
      have CL := Lib.hid hcl
      have HN := Lib.hid hn
      have HG := Lib.hid hg
      have HF1 := Lib.hid (And.intro hf1 hf2)
      clear hP hG hcl hn hg hf1 hf2 P5
      go_wp2_with fail
      with_reducible refine (mstep_any m1 F1 s _ P.out.a.ma P.out.a.fine).mono ?_
      rintro e w6 ⟨rfl, hS, hf⟩
      have P6 := Lib.hid (P.out.stepA hS hf)
      clear hS hf i0 i1 i2 i3 j0 j1 z0 z1 P
      have hst := step_thr s dt
      have h2 : (stepP (s.thr dt)).2 = (stepP s).2 := by rw [hst]; rfl
      have h1 : (stepP (s.thr dt)).1 = (stepP s).1.thr dt := by rw [hst]; rfl
      clear hst
      have H1 := Lib.hid h1
      have H2 := Lib.hid h2
      clear h1 h2
      obtain ⟨ak, acl, ax, afi, hsa⟩ : ∃ ak acl ax afi, (stepP s).2 = ⟨ak, acl, ax, afi⟩ := ⟨_, _, _, _, rfl⟩
      have ea : askV (stepP s).2 = .agg #[.int .i64 ak, .int .i64 acl, fl ax, .bool afi] := by rw [hsa]; rfl
      rw [ea]
      have HSA := Lib.hid hsa
      have EA := Lib.hid ea
      clear hsa ea
      go_wp2_with fail
      have X6 := Lib.hid (P6.out.a.beside (.cells #[.int .i64 ak, .int .i64 acl, fl ax, .bool afi] 35))
      have B6 := Lib.hid (show ¬ F2 w6.heap.size from fun hF => Nat.lt_irrefl _ (P6.out.b.ma.lt _ hF))
      have P6' := Lib.hid (P6.out.quiet ((Chg.refl _ _).alloc (.cells #[.int .i64 ak, .int .i64 acl, fl ax, .bool afi] 35)))
      clear P6
      with_reducible refine (mstep_any m2 F2 (s.thr dt) _ P6'.out.b.ma P6'.out.b.fine).mono ?_
      rw [H2.out, H1.out, EA.out]
      rintro e w7 ⟨rfl, hS, hf⟩
      have X7 := Lib.hid (show w7.heap[w6.heap.size]? = some (.cells #[.int .i64 ak, .int .i64 acl, fl ax, .bool afi] 35 (0, 0)) from (hS.keep X6.out.1 B6.out).1)
      have P7 := Lib.hid (P6'.out.stepB hS hf)
      clear hS hf P6' X6 B6
      have k0 : w7.cell? ⟨w6.heap.size, 0, none⟩ = some (.int .i64 ak) := blk_cell X7.out 0
      have k1 : w7.cell? ⟨w6.heap.size, 1, none⟩ = some (.int .i64 acl) := blk_cell X7.out 1
      have k2 : w7.cell? ⟨w6.heap.size, 2, none⟩ = some (fl ax) := blk_cell X7.out 2
      have k3 : w7.cell? ⟨w6.heap.size, 3, none⟩ = some (.bool afi) := blk_cell X7.out 3
      have kz := blk_lt X7.out
      go_wp2_with fail
      have P8 := Lib.hid (P7.out.quiet ((Chg.refl _ _).alloc (.cells #[.int .i64 ak, .int .i64 acl, fl ax, .bool afi] 35)))
      have X8 := Lib.hid (blk_alloc X7.out (.cells #[.int .i64 ak, .int .i64 acl, fl ax, .bool afi] 35))
      clear P7 X7 k0 k1 k2 k3 kz
      refine (same08_ask ⟨ak, acl, ax, afi⟩ _).mono ?_
      rintro e w8 ⟨rfl, hc8⟩
      have P9 := Lib.hid (P8.out.quiet hc8)
      have X9 := Lib.hid ((hc8.block _ (blk_lt X8.out) id).trans X8.out)
      clear hc8 P8 X8
      have k0 : w8.cell? ⟨w6.heap.size, 0, none⟩ = some (.int .i64 ak) := blk_cell X9.out 0
      have k1 : w8.cell? ⟨w6.heap.size, 1, none⟩ = some (.int .i64 acl) := blk_cell X9.out 1
      rcases CL.out with ⟨u, hu, he⟩ | ⟨hu, hwn⟩
      · have hak : ak = 4 := by have := he.ask; rw [HSA.out] at this; injection this
        subst hak
        have hfin := P9.out.a.fine
        clear hu he
        generalize (stepP s).1 = s4 at *
        have LO := Lib.hid (show s4.out.length ≤ 4096 by have := hfin.ok.outs; have := hfin.ok.used; have := hfin.ok.fuel; omega)
        have LR := Lib.hid (show s4.reads.length ≤ 4096 by have := hfin.ok.rds; have := hfin.ok.used; have := hfin.ok.fuel; omega)
        have LB := Lib.hid (show s4.buf.length ≤ 4096 by have := P9.out.a.ma.fits; omega)
        obtain ⟨h1, h2, h3, hh⟩ : ∃ h1 h2 h3, s4.how = (h1, h2, h3) := ⟨s4.how.1, s4.how.2.1, s4.how.2.2, rfl⟩
        have HH := Lib.hid hh
        have q1 : (h1 == h1) = true := by simp
        have q2 : (h2 == h2) = true := by simp
        have q3 : (h3 == h3) = true := by simp
        clear hfin hh CL G H1 H2 HSA EA
        go_wp2_with fail
        with_reducible refine (mend_any m1 _ s4 _ P9.out.a.ma).mono ?_
        rw [HH.out]
        rintro e w10 ⟨rfl, hc⟩
        have P10 := Lib.hid (P9.out.quiet hc)
        clear hc P9 X9 k0 k1
        go_wp2_with fail
        with_reducible refine (mend_any m2 _ (s4.thr dt) _ P10.out.b.ma).mono ?_
        rw [show (s4.thr dt).how = (h1, h2, h3) from HH.out]
        rintro e w11 ⟨rfl, hc⟩
        have P11 := Lib.hid (P10.out.quiet hc)
        clear hc P10
        go_wp2_with fail
        with_reducible refine (mout_any m1 _ s4 _ P11.out.a.ma LO.out).mono ?_
        rintro e w12 ⟨a1, c1, rfl, ho, hc⟩
        have O1 := Lib.hid (Sees.of_owns ho)
        have P12 := Lib.hid (P11.out.quiet hc)
        clear hc ho P11
        go_wp2_with fail
        refine (mout_any m2 _ (s4.thr dt) _ P12.out.b.ma (show (s4.thr dt).out.length ≤ 4096 from LO.out)).mono ?_
        rintro e w13 ⟨a2, c2, rfl, ho, hc⟩
        have O2 := Lib.hid (show Sees w13 a2 (s4.out.map fl) from Sees.of_owns ho)
        have O1 := Lib.hid (O1.out.chg hc)
        have P13 := Lib.hid (P12.out.quiet hc)
        clear hc ho P12
        go_wp2_with fail
        refine (exact08_true a1 a2 c1 c2 s4.out _ O1.out O2.out (by have := LO.out; omega)).mono ?_
        rintro e w14 ⟨rfl, n14, he14⟩
        have hc : Chg w13 w14 Nothing := by rw [he14]; exact (Chg.refl _ _).drewN _
        have P14 := Lib.hid (P13.out.quiet hc)
        clear hc he14 P13 O1 O2
        go_wp2_with fail
        with_reducible refine (mreads_any m1 _ s4 _ P14.out.a.ma LR.out).mono ?_
        rintro e w15 ⟨a3, c3, rfl, ho, hc⟩
        have O1 := Lib.hid (Sees.of_owns ho)
        have P15 := Lib.hid (P14.out.quiet hc)
        clear hc ho P14
        go_wp2_with fail
        refine (mreads_any m2 _ (s4.thr dt) _ P15.out.b.ma (show (s4.thr dt).reads.length ≤ 4096 from LR.out)).mono ?_
        rintro e w16 ⟨a4, c4, rfl, ho, hc⟩
        have O2 := Lib.hid (show Sees w16 a4 (tchV s4.reads) from Sees.of_owns ho)
        have O1 := Lib.hid (O1.out.chg hc)
        have P16 := Lib.hid (P15.out.quiet hc)
        clear hc ho P15
        go_wp2_with fail
        refine (touches08_true a3 a4 c3 c4 s4.reads _ O1.out O2.out (by have := LR.out; omega)).mono ?_
        rintro e w17 ⟨rfl, n17, he17⟩
        have hc : Chg w16 w17 Nothing := by rw [he17]; exact (Chg.refl _ _).drewN _
        have P17 := Lib.hid (P16.out.quiet hc)
        clear hc he17 P16 O1 O2
        go_wp2_with fail
        with_reducible refine (mwrites_any m1 _ s4 _ P17.out.a.ma).mono ?_
        rintro e w18 ⟨a5, c5, rfl, ho, hc⟩
        have O1 := Lib.hid (Sees.of_owns ho)
        have P18 := Lib.hid (P17.out.quiet hc)
        clear hc ho P17
        go_wp2_with fail
        with_reducible refine (mwrites_any m2 _ (s4.thr dt) _ P18.out.b.ma).mono ?_
        rintro e w19 ⟨a6, c6, rfl, ho, hc⟩
        have O2 := Lib.hid (show Sees w19 a6 (tchV s4.buf) from Sees.of_owns ho)
        have O1 := Lib.hid (O1.out.chg hc)
        have P19 := Lib.hid (P18.out.quiet hc)
        clear hc ho P18
        go_wp2_with fail
        refine (touches08_true a5 a6 c5 c6 s4.buf _ O1.out O2.out (by have := LB.out; omega)).mono ?_
        rintro e w20 ⟨rfl, n20, he20⟩
        have hc : Chg w19 w20 Nothing := by rw [he20]; exact (Chg.refl _ _).drewN _
        have P20 := Lib.hid (P19.out.quiet hc)
        clear hc he20 P19 O1 O2
        go_wp2_with fail
        with_reducible refine (mused_any m1 _ s4 _ P20.out.a.ma).mono ?_
        rintro e w21 ⟨rfl, hc⟩
        have P21 := Lib.hid (P20.out.quiet hc)
        clear hc P20
        go_wp2_with fail
        with_reducible refine (mused_any m2 _ (s4.thr dt) _ P21.out.b.ma).mono ?_
        rintro e w22 ⟨rfl, hc⟩
        have P22 := Lib.hid (law_old (P21.out.quiet hc).a.chg)
        have hus : (((s4.used : Nat) : Int) == ((s4.thr dt).used : Nat)) = true := by show ((s4.used : Int) == (s4.used : Int)) = true; simp
        clear hc P21
        go_wp2_with fail
        go_ret
        exact ⟨rfl, P22.out⟩
      · have hG5 := G.out.step hwn
        have hkk := hwn.kind
        have hwt := hwn.waits
        have hn1 : n + 1 ≤ f.toNat := by have hu' : ((n + 1 : Nat) : Int) ≤ f := hu; omega
        have HN1 := Lib.hid hn1
        rw [HSA.out] at hG5 hkk hwt
        have hgl : g ≤ 4096 := by have := HG.out; have := HF1.out; omega
        clear hwn hu hn1
        generalize (stepP s).1 = s4 at *
        by_cases h1 : ak = 1
        · subst h1
          have G5 := Lib.hid (hG5.1 (fedP feed g) rfl)
          have W4 := Lib.hid (give_went (show s4.waits = true from hwt) (fedP feed g)).1
          have HGL := Lib.hid hgl
          clear hkk hG5 hwt hgl CL H1 H2 HSA EA
          go_wp2_with fail
          with_reducible refine (fed_any af nf g feed _ HGL.out HFL.out (HF.out.chg (law_old P9.out.a.chg))).mono ?_
          rintro e w10 ⟨rfl, rfl⟩
          have gw : (g : Int) ≤ 4096 := by have := HGL.out; omega
          go_wp2_with fail
          with_reducible refine (mgive_any m1 _ s4 (fedP feed g) _ P9.out.a.ma P9.out.a.fine (fedP_lt HFX.out g)).mono ?_
          rw [W4.out]
          rintro e w11 ⟨rfl, hS7, hf7⟩
          have P10 := Lib.hid (P9.out.stepA hS7 hf7)
          clear hS7 hf7 P9 X9 k0 k1
          go_wp2_with fail
          with_reducible refine (mgive_any m2 _ (s4.thr dt) (fedP feed g) _ P10.out.b.ma P10.out.b.fine (fedP_lt HFX.out g)).mono ?_
          rw [give_thr]
          dsimp only
          rw [W4.out]
          rintro e w12 ⟨rfl, hS7, hf7⟩
          have P11 := Lib.hid (P10.out.stepB hS7 hf7)
          clear hS7 hf7 P10
          have nw : (n : Int) ≤ 4096 := by have := HN1.out; have := HF1.out; omega
          go_wp2_with fail
          go_roundg (gk - 1)
          case measure => have := HN.out; have := HN1.out; omega
          case rel => exact ⟨n + 1, g + 1, _, _, _, by have := HN.out; have := HN1.out; omega, by have := HG.out; omega, by go_num, by go_num, P11.out, G5.out⟩
        · have G5 := Lib.hid (hG5.2 h1)
          have d1 : (ak == 1) = false := beq_eq_false_iff_ne.2 h1
          have d4 : (ak == 4) = false := by rcases hkk with e | e | e | e <;> (dsimp only at e; subst e; rfl)
          have nw : (n : Int) ≤ 4096 := by have := HN1.out; have := HF1.out; omega
          clear hkk hG5 hwt hgl h1 CL H1 H2 HSA EA
          go_wp2_with fail
          go_roundg (gk - 1)
          case measure => have := HN.out; have := HN1.out; omega
          case rel => exact ⟨n + 1, g, _, _, _, by have := HN.out; have := HN1.out; omega, by have := HG.out; omega, rfl, by go_num, P9.out, G5.out⟩
  · have HNO := Lib.hid hno
    have HCD := Lib.hid hok.1
    have HAL := Lib.hid hok.2
    clear hno hok
    have D2 := Lib.hid D0.out
    with_reducible refine (mnew_bad c t f r tag ac code.length cc aa args.length na _ HNO.out).mono ?_
    rintro e w3 ⟨rfl, hc⟩
    clear D0 C1
    clear i0 i1 i2 i3 j0 j1 z0 z1
    have C3 := Lib.hid (C2.out.trans hc (fun _ _ h => h))
    have D3 := Lib.hid ((hc.block _ (blk_lt D2.out) id).trans D2.out)
    clear hc C2 D2
    obtain ⟨i0, i1, i2, i3, j0, j1, z0, z1⟩ := law_cells C3.out
    have e0 : w3.cell? ⟨w1.heap.size, 0, none⟩ = some (.int .i64 c) := blk_cell D3.out 0
    have e1 : w3.cell? ⟨w1.heap.size, 1, none⟩ = some (.int .i64 dt) := blk_cell D3.out 1
    have e2 : w3.cell? ⟨w1.heap.size, 2, none⟩ = some (.int .i64 f) := blk_cell D3.out 2
    have e3 : w3.cell? ⟨w1.heap.size, 3, none⟩ = some (.int .i64 r) := blk_cell D3.out 3
    have z2 := blk_lt D3.out
    go_wp2_with fail
    refine (mnew_good c dt f r tag ac cc code aa na args _ HCD.out HAL.out HB.out (HS.out.chg (law_old C3.out)) (HA.out.chg (law_old C3.out))).mono ?_
    rintro e w4 ⟨m2, rfl, _, hc⟩
    clear i0 i1 i2 i3 j0 j1 z0 z1 e0 e1 e2 e3 z2
    have C4 := Lib.hid (C3.out.trans hc (fun _ _ h => h))
    have D4 := Lib.hid ((hc.block _ (blk_lt D3.out) id).trans D3.out)
    clear hc C3 D3
    obtain ⟨i0, i1, i2, i3, j0, j1, z0, z1⟩ := law_cells C4.out
    have e0 : w4.cell? ⟨w1.heap.size, 0, none⟩ = some (.int .i64 c) := blk_cell D4.out 0
    have e1 : w4.cell? ⟨w1.heap.size, 1, none⟩ = some (.int .i64 dt) := blk_cell D4.out 1
    have e2 : w4.cell? ⟨w1.heap.size, 2, none⟩ = some (.int .i64 f) := blk_cell D4.out 2
    have e3 : w4.cell? ⟨w1.heap.size, 3, none⟩ = some (.int .i64 r) := blk_cell D4.out 3
    have z2 := blk_lt D4.out
    go_wp2_with fail
    with_reducible refine (rnew_bad c t f r tag ac code.length cc aa args.length na _ HNO.out).mono ?_
    rintro e w5 ⟨rfl, hc⟩
    clear i0 i1 i2 i3 j0 j1 z0 z1 e0 e1 e2 e3 z2
    have C5 := Lib.hid (C4.out.trans hc (fun _ _ h => h))
    have D5 := Lib.hid ((hc.block _ (blk_lt D4.out) id).trans D4.out)
    clear hc C4 D4
    obtain ⟨i0, i1, i2, i3, j0, j1, z0, z1⟩ := law_cells C5.out
    have e0 : w5.cell? ⟨w1.heap.size, 0, none⟩ = some (.int .i64 c) := blk_cell D5.out 0
    have e1 : w5.cell? ⟨w1.heap.size, 1, none⟩ = some (.int .i64 dt) := blk_cell D5.out 1
    have e2 : w5.cell? ⟨w1.heap.size, 2, none⟩ = some (.int .i64 f) := blk_cell D5.out 2
    have e3 : w5.cell? ⟨w1.heap.size, 3, none⟩ = some (.int .i64 r) := blk_cell D5.out 3
    have z2 := blk_lt D5.out
    go_wp2_with fail
    have CW := Lib.hid (law_old C5.out)
    refine (rnew_good c dt f r tag ac cc code aa na args (CodeB ac code) _ HCD.out HAL.out (fun k hk => Nat.lt_of_lt_of_le (HC.out.1 k hk) CW.out.size) (HC.out.2.move (fun b hb => ⟨hb, CW.out.block b (HC.out.1 b hb) id⟩)) (HA.out.chg CW.out)).mono ?_
    rintro e w6 ⟨q, lb, rfl, _, _, _, hc⟩
    have C6 := Lib.hid (law_old (C5.out.trans hc (fun _ _ h => h)))
    clear hc
    clear i0 i1 i2 i3 j0 j1 z0 z1 e0 e1 e2 e3 z2
    go_wp2_with fail
    go_ret
    exact ⟨rfl, C6.out⟩
  · have HNO := Lib.hid hno
    have HN2 := Lib.hid hno2
    clear hno hno2
    have D2 := Lib.hid D0.out
    with_reducible refine (mnew_bad c t f r tag ac code.length cc aa args.length na _ HNO.out).mono ?_
    rintro e w3 ⟨rfl, hc⟩
    clear D0 C1
    clear i0 i1 i2 i3 j0 j1 z0 z1
    have C3 := Lib.hid (C2.out.trans hc (fun _ _ h => h))
    have D3 := Lib.hid ((hc.block _ (blk_lt D2.out) id).trans D2.out)
    clear hc C2 D2
    obtain ⟨i0, i1, i2, i3, j0, j1, z0, z1⟩ := law_cells C3.out
    have e0 : w3.cell? ⟨w1.heap.size, 0, none⟩ = some (.int .i64 c) := blk_cell D3.out 0
    have e1 : w3.cell? ⟨w1.heap.size, 1, none⟩ = some (.int .i64 dt) := blk_cell D3.out 1
    have e2 : w3.cell? ⟨w1.heap.size, 2, none⟩ = some (.int .i64 f) := blk_cell D3.out 2
    have e3 : w3.cell? ⟨w1.heap.size, 3, none⟩ = some (.int .i64 r) := blk_cell D3.out 3
    have z2 := blk_lt D3.out
    go_wp2_with fail
    with_reducible refine (mnew_bad c dt f r tag ac code.length cc aa args.length na _ HN2.out).mono ?_
    rintro e w4 ⟨rfl, hc⟩
    clear i0 i1 i2 i3 j0 j1 z0 z1 e0 e1 e2 e3 z2
    have C4 := Lib.hid (C3.out.trans hc (fun _ _ h => h))
    have D4 := Lib.hid ((hc.block _ (blk_lt D3.out) id).trans D3.out)
    clear hc C3 D3
    obtain ⟨i0, i1, i2, i3, j0, j1, z0, z1⟩ := law_cells C4.out
    have e0 : w4.cell? ⟨w1.heap.size, 0, none⟩ = some (.int .i64 c) := blk_cell D4.out 0
    have e1 : w4.cell? ⟨w1.heap.size, 1, none⟩ = some (.int .i64 dt) := blk_cell D4.out 1
    have e2 : w4.cell? ⟨w1.heap.size, 2, none⟩ = some (.int .i64 f) := blk_cell D4.out 2
    have e3 : w4.cell? ⟨w1.heap.size, 3, none⟩ = some (.int .i64 r) := blk_cell D4.out 3
    have z2 := blk_lt D4.out
    go_wp2_with fail
    with_reducible refine (rnew_bad c t f r tag ac code.length cc aa args.length na _ HNO.out).mono ?_
    rintro e w5 ⟨rfl, hc⟩
    clear i0 i1 i2 i3 j0 j1 z0 z1 e0 e1 e2 e3 z2
    have C5 := Lib.hid (C4.out.trans hc (fun _ _ h => h))
    have D5 := Lib.hid ((hc.block _ (blk_lt D4.out) id).trans D4.out)
    clear hc C4 D4
    obtain ⟨i0, i1, i2, i3, j0, j1, z0, z1⟩ := law_cells C5.out
    have e0 : w5.cell? ⟨w1.heap.size, 0, none⟩ = some (.int .i64 c) := blk_cell D5.out 0
    have e1 : w5.cell? ⟨w1.heap.size, 1, none⟩ = some (.int .i64 dt) := blk_cell D5.out 1
    have e2 : w5.cell? ⟨w1.heap.size, 2, none⟩ = some (.int .i64 f) := blk_cell D5.out 2
    have e3 : w5.cell? ⟨w1.heap.size, 3, none⟩ = some (.int .i64 r) := blk_cell D5.out 3
    have z2 := blk_lt D5.out
    go_wp2_with fail
    with_reducible refine (rnew_bad c dt f r tag ac code.length cc aa args.length na _ HN2.out).mono ?_
    rintro e w6 ⟨rfl, hc⟩
    have C6 := Lib.hid (law_old (C5.out.trans hc (fun _ _ h => h)))
    clear hc
    clear i0 i1 i2 i3 j0 j1 z0 z1 e0 e1 e2 e3 z2
    go_wp2_with fail
    go_ret
    exact ⟨rfl, C6.out⟩
end Go.Proofs.YthgllaomafhdkaaGreat
