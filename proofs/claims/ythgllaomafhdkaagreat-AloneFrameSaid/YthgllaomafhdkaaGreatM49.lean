/- AloneMore: the walk. -/
import Derived.Test.YthgllaomafhdkaaGreatM48
namespace Go.Proofs.YthgllaomafhdkaaGreat
open Go Go.RowKit
set_option maxRecDepth 100000
set_option maxHeartbeats 1000000
set_option linter.unusedVariables false
set_option linter.unusedSimpArgs false

/-- Two states of the call's own. -/
structure LW2 (w wi : World) (p : Nat) (F : Nat → Prop) (fs : List Nat) (q : Nat) (G : Nat → Prop) (gs : List Nat) : Prop where
  a : LW w wi p F fs
  b : LW w wi q G gs
  off : ∀ k, F k → ¬ G k
section
variable {w wi w' : World} {p q : Nat} {F G : Nat → Prop} {fs fs' gs gs' : List Nat}
theorem LW2.quiet (h : LW2 w wi p F fs q G gs) (hc : Chg wi w' Nothing) : LW2 w w' p F fs q G gs := ⟨h.a.quiet hc, h.b.quiet hc, h.off⟩
theorem LW2.box (h : LW2 w wi p F fs q G gs) (o : Obj) : LW2 w (wi.alloc o) p F fs q G gs := h.quiet ((Chg.refl _ _).alloc o)
theorem LW2.nextA (h : LW2 w wi p F fs q G gs) (hs : Sta w' p F (fs'.map fl)) (hc : Chg wi w' F) : LW2 w w' p F fs' q G gs :=
  ⟨h.a.next hs hc, ⟨h.b.st.chg hc (fun k hG hF => h.off k hF hG), (h.a.next hs hc).chg, h.b.new⟩, h.off⟩
theorem LW2.nextB (h : LW2 w wi p F fs q G gs) (hs : Sta w' q G (gs'.map fl)) (hc : Chg wi w' G) : LW2 w w' p F fs q G gs' :=
  ⟨⟨h.a.st.chg hc (fun k hF hG => h.off k hF hG), (h.b.next hs hc).chg, h.a.new⟩, h.b.next hs hc, h.off⟩
theorem LW.two (h : LW w wi p F fs) (hs : Sta w' q (Grow Nothing wi w') (gs.map fl)) (hc : Chg wi w' Nothing) : LW2 w w' p F fs q (Grow Nothing wi w') gs :=
  ⟨h.quiet hc, ⟨hs, h.chg.trans hc (fun _ _ h => h), fun k hk => by have := h.chg.size; rcases hk with hk | hk; exact hk.elim; have := hk.1; omega⟩, fun k hF hG => by
    have := h.st.lt k hF
    rcases hG with hG | hG
    · exact hG
    · have := hG.1; omega⟩
end
theorem short09_any (h1 h2 h3 u : Int) (ao ar aw : Option Addr) (no co nr cr nw cw : Nat) (w : World) :
    Calls Tryz.prog 48 #[.agg #[.int .i64 h1, .int .i64 h2, .int .i64 h3, .slice ao no co, .slice ar nr cr, .slice aw nw cw, .int .i64 u]] w fun e w' => e = .returned (.bool (h3 == 80 || h3 == 70)) ∧ Chg w w' Nothing := by
  by_cases q : h3 = 80
  · subst q
    go_enter Tryz.func48, Tryz.ntmps48
    go_wp2_with fail
    go_ret
    exact ⟨rfl, (Chg.refl _ _).alloc _⟩
  · have b1 : (h3 == 80) = false := beq_eq_false_iff_ne.2 q
    go_enter Tryz.func48, Tryz.ntmps48
    go_wp2_with fail
    go_ret
    rw [b1]
    exact ⟨rfl, (Chg.refl _ _).alloc _⟩
set_option maxRecDepth 100000 in
set_option maxHeartbeats 8000000 in
theorem more_walk (c t f r : Int) (tag : Int) (ac : Option Addr) (cc : Nat) (code : List Ins) (aa : Option Addr) (na : Nat) (args : List Nat) (af : Option Addr) (nf : Nat) (start : List Nat) (w : World)
    (hb : code.length * 24 ≤ 140737488355328) (hs : Sees w ac (insV code)) (ha : Sees w aa (args.map fl)) (hf : Sees w af (start.map fl)) (hfl : start.length ≤ 9223372036854775807)
    (hx : ∀ i ∈ code, i.2.2 < 18446744073709551616) (hax : ∀ y ∈ args, y < 18446744073709551616) (hfx : ∀ y ∈ start, y < 18446744073709551616) :
    Calls Tryz.prog 9 #[.agg #[.int .i64 c, .int .i64 t, .int .i64 f, .int .i64 r], .agg #[.int .i64 tag, .slice ac code.length cc], .slice aa args.length na, .slice af start.length nf] w fun e w' => e = .returned (.bool true) ∧ Chg w w' Nothing := by
  have HB := Lib.hid hb
  have HS := Lib.hid hs
  have HA := Lib.hid ha
  have HF := Lib.hid hf
  have HFL := Lib.hid hfl
  have HX := Lib.hid hx
  have HAX := Lib.hid hax
  have HFX := Lib.hid hfx
  clear hb hs ha hf hfl hx hax hfx
  go_enter Tryz.func9, Tryz.ntmps9
  go_wp2_with fail
  with_reducible refine (live09_any _).mono ?_
  rintro e w1 ⟨rfl, hc1⟩
  have C1 : Hid (Chg ((w.alloc (cfgBx c t f r)).alloc (prgBx tag ac code.length cc)) w1 Nothing) := Lib.hid hc1
  clear hc1
  go_wp2_with fail
  by_cases hl : 1 ≤ start.length ∧ start.length ≤ 256
  case neg =>
    have HL := Lib.hid (show start.length < 1 ∨ 256 < start.length by omega)
    clear hl
    with_reducible refine (given09_bad af start.length nf _ HL.out HFL.out).mono ?_
    rintro e w2 ⟨rfl, rfl⟩
    go_wp2_with fail
    go_ret
    exact ⟨rfl, law_old C1.out⟩
  have H1 := Lib.hid hl.1
  have H2 := Lib.hid hl.2
  clear hl
  with_reducible refine (given09_good af nf start _ (HF.out.chg (law_old C1.out)) H1.out H2.out).mono ?_
  rintro e w2 ⟨p, F, rfl, hL⟩
  have R2 := Lib.hid (hL.under C1.out)
  clear hL C1
  have NL := Lib.hid (show (start.map fixB).length = start.length from List.length_map ..)
  have NX := Lib.hid (show ∀ y ∈ start.map fixB, y < 18446744073709551616 from fun y hy => by obtain ⟨z, hz, rfl⟩ := List.mem_map.1 hy; exact fixB_lt (HFX.out z hz))
  generalize start.map fixB = fs at R2 NL NX
  have N2 := Lib.hid (show fs.length ≤ 256 by rw [NL.out]; exact H2.out)
  obtain ⟨i0, i1, i2, i3, j0, j1, z0, z1⟩ := law_cells R2.out.chg
  go_wp2_with fail
  with_reducible refine (T6.clone_any p F fs _ R2.out.st N2.out).mono ?_
  rintro e w3 ⟨q, rfl, hq, hst, hc⟩
  obtain ⟨G, R3⟩ : ∃ G, Hid (LW2 ((w.alloc (cfgBx c t f r)).alloc (prgBx tag ac code.length cc)) w3 p F fs q G fs) := ⟨_, Lib.hid (R2.out.two hst hc)⟩
  clear hq hst hc i0 i1 i2 i3 j0 j1 z0 z1 R2
  obtain ⟨i0, i1, i2, i3, j0, j1, z0, z1⟩ := law_cells R3.out.a.chg
  go_wp2_with fail
  by_cases hok : RunOk c t f r args.length fs.length
  case neg =>
    with_reducible refine (run_bad c t f r tag ac code.length cc aa args.length na p F fs _ R3.out.a.st hok).mono ?_
    rintro e w4 ⟨rfl, hc⟩
    rw [resA_lit]
    have R4 := Lib.hid (R3.out.quiet hc)
    clear hc hok i0 i1 i2 i3 j0 j1 z0 z1 R3
    go_wp2_with fail
    go_ret
    exact ⟨rfl, law_old (R4.out.box _).a.chg⟩
  have OK := Lib.hid hok
  clear hok
  refine (run_good c t f r tag ac cc code aa na args p F fs _ R3.out.a.st OK.out HB.out (HS.out.chg (law_old R3.out.a.chg)) (HA.out.chg (law_old R3.out.a.chg)) HX.out HAX.out NX.out).mono ?_
  rintro e w4 ⟨s, ao, co, ar, cr, aw, cw, hs, hov, hfin, hbl, rfl, ho, hr, hw, hst, hc⟩
  have R4 := Lib.hid (R3.out.nextA hst hc)
  have O4 := Lib.hid (And.intro (Sees.of_owns ho) (And.intro (Sees.of_owns hr) (Sees.of_owns hw)))
  have G4 := Lib.hid (show (∀ k, G k → k < w3.heap.size) from R3.out.b.st.lt)
  have Z34 := Lib.hid hc.size
  have OW := Lib.hid (And.intro ho (And.intro hr hw))
  have HSS := Lib.hid hs
  have HOV := Lib.hid hov
  have HFI := Lib.hid hfin
  have HBL := Lib.hid hbl
  obtain ⟨h1, h2, h3, hh⟩ : ∃ h1 h2 h3, s.how = (h1, h2, h3) := ⟨s.how.1, s.how.2.1, s.how.2.2, rfl⟩
  have HH := Lib.hid hh
  rw [hh, resA_lit]
  clear hs hov hfin hbl ho hr hw hst hc hh i0 i1 i2 i3 j0 j1 z0 z1 R3
  obtain ⟨i0, i1, i2, i3, j0, j1, z0, z1⟩ := law_cells R4.out.a.chg
  go_wp2_with fail
  with_reducible refine (short09_any h1 h2 h3 _ ao ar aw _ co _ cr _ cw _).mono ?_
  rintro e w5 ⟨rfl, hc⟩
  have BX := Lib.hid ((hc.block _ (by simp) id).trans (heap_alloc_new w4 (resO (h1, h2, h3) (ao, s.out.length, co) (ar, s.reads.length, cr) (aw, s.buf.length, cw) (s.used : Int))))
  have R5 := Lib.hid ((R4.out.box (resO (h1, h2, h3) (ao, s.out.length, co) (ar, s.reads.length, cr) (aw, s.buf.length, cw) (s.used : Int))).quiet hc)
  have C5 := Lib.hid (((Chg.refl w4 Nothing).alloc (resO (h1, h2, h3) (ao, s.out.length, co) (ar, s.reads.length, cr) (aw, s.buf.length, cw) (s.used : Int))).trans hc (fun _ _ h => h))
  clear hc i0 i1 i2 i3 j0 j1 z0 z1 R4
  by_cases hsh : h3 = 80 ∨ h3 = 70
  · have b1 : (h3 == 80 || h3 == 70) = true := by simpa using hsh
    rw [b1]
    go_wp2_with fail
    go_ret
    exact ⟨rfl, law_old R5.out.a.chg⟩
  have b1 : (h3 == 80 || h3 == 70) = false := by simpa using hsh
  have NS := Lib.hid (show ¬ Short s from fun h => hsh (by have := h.2; rw [HH.out] at this; exact this))
  rw [b1]
  clear b1 hsh
  obtain ⟨i0, i1, i2, i3, j0, j1, z0, z1⟩ := law_cells R5.out.a.chg
  have hbz := blk_lt BX.out
  go_wp2_with fail
  have OK2 := Lib.hid (show RunOk c t 1024 32 args.length fs.length from ⟨⟨OK.out.1.1, OK.out.1.2.1, ⟨by decide, by decide⟩, by decide, by decide⟩, OK.out.2⟩)
  refine (run_good c t 1024 32 tag ac cc code aa na args q G fs _ (R5.out.box _).b.st OK2.out HB.out (HS.out.chg (law_old (R5.out.box _).b.chg)) (HA.out.chg (law_old (R5.out.box _).b.chg)) HX.out HAX.out NX.out).mono ?_
  rintro e w6 ⟨s2, ao2, co2, ar2, cr2, aw2, cw2, hs2, hov2, hfin2, hbl2, rfl, ho2, hr2, hw2, hst2, hc2⟩
  have e2 : s2 = s.up 1024 32 := hs2.trans (by rw [HSS.out] at NS ⊢; exact runP_up OK.out.1 HX.out HAX.out NX.out (by rw [← HSS.out]; exact overs HOV.out) NS.out)
  have f1 : s2.how = (h1, h2, h3) := by rw [e2]; exact HH.out
  have f2 : s2.out = s.out := by rw [e2]; rfl
  have f3 : s2.reads = s.reads := by rw [e2]; rfl
  have f4 : s2.buf = s.buf := by rw [e2]; rfl
  have f5 : s2.used = s.used := by rw [e2]; rfl
  have f6 : afterL s2 fs = afterL s fs := by rw [e2]; rfl
  rw [f2] at ho2
  rw [f3] at hr2
  rw [f4] at hw2
  rw [f6] at hst2
  rw [f1, f2, f3, f4, f5, resA_lit]
  have R6 := Lib.hid ((R5.out.box (cfgBx c t 1024 32)).nextB hst2 hc2)
  have hx6 : Chg w4 w6 G := ((C5.out.alloc (cfgBx c t 1024 32)).mono (fun _ _ h => h.elim)).trans hc2 (fun _ _ h => h)
  have OA := Lib.hid (Sees.of_owns (row_chg OW.out.1 hx6 (fun k hk hG => by have := G4.out k hG; omega)))
  have OB := Lib.hid (Sees.of_owns (row_chg OW.out.2.1 hx6 (fun k hk hG => by have := G4.out k hG; omega)))
  have OC := Lib.hid (Sees.of_owns (row_chg OW.out.2.2 hx6 (fun k hk hG => by have := G4.out k hG; omega)))
  have OD := Lib.hid (Sees.of_owns ho2)
  have OE := Lib.hid (Sees.of_owns hr2)
  have OG := Lib.hid (Sees.of_owns hw2)
  have B6 := (hc2.block w4.heap.size (by simp; omega) (fun hG => by have := G4.out _ hG; have := Z34.out; omega)).trans (blk_alloc BX.out _)
  have k0 : w6.cell? ⟨w4.heap.size, 0, none⟩ = some (.int .i64 h1) := blk_cell B6 0
  have k1 : w6.cell? ⟨w4.heap.size, 1, none⟩ = some (.int .i64 h2) := blk_cell B6 1
  have k2 : w6.cell? ⟨w4.heap.size, 2, none⟩ = some (.int .i64 h3) := blk_cell B6 2
  have k3 : w6.cell? ⟨w4.heap.size, 3, none⟩ = some (.slice ao s.out.length co) := blk_cell B6 3
  have k4 : w6.cell? ⟨w4.heap.size, 4, none⟩ = some (.slice ar s.reads.length cr) := blk_cell B6 4
  have k5 : w6.cell? ⟨w4.heap.size, 5, none⟩ = some (.slice aw s.buf.length cw) := blk_cell B6 5
  have k6 : w6.cell? ⟨w4.heap.size, 6, none⟩ = some (.int .i64 (s.used : Int)) := blk_cell B6 6
  have z6 := blk_lt B6
  have hlo : s.out.length ≤ 4096 := by have := HFI.out.ok.outs; have := HFI.out.ok.used; have := HFI.out.ok.fuel; omega
  have hlr : s.reads.length ≤ 4096 := by have := HFI.out.ok.rds; have := HFI.out.ok.used; have := HFI.out.ok.fuel; omega
  have LO := Lib.hid hlo
  have LR := Lib.hid hlr
  have AL := Lib.hid (show (afterL s fs).length = fs.length from after_len s fs)
  clear hx6 hs2 hov2 hfin2 hbl2 ho2 hr2 hw2 hst2 hc2 e2 f1 f2 f3 f4 f5 f6 B6 hlo hlr i0 i1 i2 i3 j0 j1 z0 z1 R5 C5 BX OW O4 OK2 hbz
  go_wp2_with fail
  refine (result09_true (h1, h2, h3) (s.used : Int) s.out s.reads s.buf ao ar aw ao2 ar2 aw2 co cr cw co2 cr2 cw2 _ (OA.out.chg ((Chg.refl _ Nothing).alloc _)) (OB.out.chg ((Chg.refl _ Nothing).alloc _)) (OC.out.chg ((Chg.refl _ Nothing).alloc _)) (OD.out.chg ((Chg.refl _ Nothing).alloc _)) (OE.out.chg ((Chg.refl _ Nothing).alloc _)) (OG.out.chg ((Chg.refl _ Nothing).alloc _)) LO.out LR.out (by have := HBL.out; omega)).mono ?_
  rintro e w7 ⟨rfl, hc7⟩
  have R7 := Lib.hid ((R6.out.box (resO (h1, h2, h3) (ao2, s.out.length, co2) (ar2, s.reads.length, cr2) (aw2, s.buf.length, cw2) (s.used : Int))).quiet hc7)
  clear hc7 k0 k1 k2 k3 k4 k5 k6 z6 R6
  go_wp2_with fail
  with_reducible refine (T6.all_any p F (afterL s fs) _ R7.out.a.st (by rw [AL.out]; exact N2.out)).mono ?_
  rintro e w8 ⟨a8, c8, rfl, ho, hc⟩
  have R8 := Lib.hid (R7.out.quiet hc)
  have S8 := Lib.hid (Sees.of_owns ho)
  clear ho hc R7
  go_wp2_with fail
  with_reducible refine (T6.all_any q G (afterL s fs) _ R8.out.b.st (by rw [AL.out]; exact N2.out)).mono ?_
  rintro e w9 ⟨a9, c9, rfl, ho, hc⟩
  have R9 := Lib.hid (R8.out.quiet hc)
  have S9 := Lib.hid (S8.out.chg hc)
  have T9 := Lib.hid (Sees.of_owns ho)
  clear ho hc R8 S8
  go_wp2_with fail
  with_reducible refine (exact09_true a8 a9 c8 c9 (afterL s fs) _ S9.out T9.out (by rw [AL.out]; have := N2.out; omega)).mono ?_
  rintro e w10 ⟨rfl, m, rfl⟩
  go_wp2_with fail
  go_ret
  exact ⟨rfl, (law_old R9.out.a.chg).drewN m⟩
end Go.Proofs.YthgllaomafhdkaaGreat
