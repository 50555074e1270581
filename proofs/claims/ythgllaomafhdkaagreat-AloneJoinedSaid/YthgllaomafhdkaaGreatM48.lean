/- AloneQuiet: the walk. -/
import Derived.Test.YthgllaomafhdkaaGreatM47
namespace Go.Proofs.YthgllaomafhdkaaGreat
open Go Go.RowKit
set_option maxRecDepth 100000
set_option maxHeartbeats 1000000
set_option linter.unusedVariables false
set_option linter.unusedSimpArgs false

theorem LW.under {w w1 w2 : World} {p : Nat} {F : Nat → Prop} {fs : List Nat} (h : LW w1 w2 p F fs) (hc : Chg w w1 Nothing) : LW w w2 p F fs :=
  ⟨h.st, hc.trans h.chg (fun _ _ h => h), fun k hk => Nat.le_trans hc.size (h.new k hk)⟩
theorem resA_lit (h1 h2 h3 u : Int) (ao ar aw : Option Addr) (no co nr cr nw cw : Nat) : resA (h1, h2, h3) (ao, no, co) (ar, nr, cr) (aw, nw, cw) u = #[.int .i64 h1, .int .i64 h2, .int .i64 h3, .slice ao no co, .slice ar nr cr, .slice aw nw cw, .int .i64 u] := rfl
def resO (h : Int × Int × Int) (vo vr vw : Slc) (u : Int) : Obj := .cells (resA h vo vr vw u) 69 (0, 0)
/-- Which cells were written, as the law notes it. -/
def Noted (wl : List Bool) (l : List (Int × Nat)) (n m : Nat) : Prop := wl.length = n ∧ ∀ j : Nat, j < n → wl[j]? = some (decide (∃ p ∈ l.take m, p.1 = (j : Int)))
theorem Noted.zero (l : List (Int × Nat)) (n : Nat) : Noted (List.replicate n false) l n 0 := ⟨List.length_replicate, fun j hj => by rw [List.getElem?_replicate, if_pos hj]; simp⟩
theorem Noted.next {wl : List Bool} {l : List (Int × Nat)} {n m j : Nat} {x : Nat} (h : Noted wl l n m) (hm : l[m]? = some ((j : Int), x)) (hj : j < n) : Noted (wl.set j true) l n (m + 1) := by
  have hlt := (List.getElem?_eq_some_iff.1 hm).1
  have hget := (List.getElem?_eq_some_iff.1 hm).2
  refine ⟨by rw [List.length_set]; exact h.1, fun k hk => ?_⟩
  rw [List.getElem?_set, List.take_succ_eq_append_getElem hlt, hget]
  by_cases e : j = k
  · subst e
    rw [if_pos rfl, if_pos (by rw [h.1]; exact hj)]
    simp
  · rw [if_neg e, h.2 k hk]
    have : ¬ ((j : Int) = (k : Int)) := by omega
    simp [this]
theorem Noted.not {wl : List Bool} {l : List (Int × Nat)} {n m j : Nat} {x : Nat} (h : Noted wl l n m) (hn : (l.map (·.1)).Nodup) (hm : l[m]? = some ((j : Int), x)) (hj : j < n) : wl[j]? = some false := by
  rw [h.2 j hj]
  congr 1
  rw [decide_eq_false_iff_not]
  rintro ⟨p, hp, e⟩
  obtain ⟨i, hi⟩ := List.mem_iff_getElem?.1 hp
  have hlt := (List.getElem?_eq_some_iff.1 hi).1
  rw [List.length_take] at hlt
  rw [List.getElem?_take_of_lt (by omega)] at hi
  have k1 := Kn.of_nodup hn hm
  have k2 := Kn.of_nodup hn hi
  rw [e] at k2
  have h3 := k1.pos.symm.trans k2.pos
  injection h3 with h3
  omega
def arrB9 (l : List Bool) : List Value := l.map Value.bool
set_option maxRecDepth 100000 in
set_option maxHeartbeats 8000000 in
theorem quiet_walk (c t f r : Int) (tag : Int) (ac : Option Addr) (cc : Nat) (code : List Ins) (aa : Option Addr) (na : Nat) (args : List Nat) (af : Option Addr) (nf : Nat) (start : List Nat) (w : World)
    (hb : code.length * 24 ≤ 140737488355328) (hs : Sees w ac (insV code)) (ha : Sees w aa (args.map fl)) (hf : Sees w af (start.map fl)) (hfl : start.length ≤ 9223372036854775807)
    (hx : ∀ i ∈ code, i.2.2 < 18446744073709551616) (hax : ∀ y ∈ args, y < 18446744073709551616) (hfx : ∀ y ∈ start, y < 18446744073709551616) :
    Calls Tryz.prog 8 #[.agg #[.int .i64 c, .int .i64 t, .int .i64 f, .int .i64 r], .agg #[.int .i64 tag, .slice ac code.length cc], .slice aa args.length na, .slice af start.length nf] w fun e w' => e = .returned (.bool true) ∧ Chg w w' Nothing := by
  have HB := Lib.hid hb
  have HS := Lib.hid hs
  have HA := Lib.hid ha
  have HF := Lib.hid hf
  have HFL := Lib.hid hfl
  have HX := Lib.hid hx
  have HAX := Lib.hid hax
  have HFX := Lib.hid hfx
  clear hb hs ha hf hfl hx hax hfx
  go_enter Tryz.func8, Tryz.ntmps8
  go_wp2_with fail
  with_reducible refine (live09_any _).mono ?_
  rintro e w1 ⟨rfl, hc1⟩
  have C1 : Hid (Chg ((w.alloc (cfgBx c t f r)).alloc (prgBx tag ac code.length cc)) w1 Nothing) := Lib.hid hc1
  clear hc1
  go_wp2_with fail
  by_cases hl : 1 ≤ start.length ∧ start.length ≤ 256
  case neg =>
    have HL := Lib.hid (show start.length < 1 ∨ 256 < start.length by omega)
    clear hl
    with_reducible refine (given09_bad af start.length nf _ HL.out HFL.out).mono ?_
    rintro e w2 ⟨rfl, rfl⟩
    go_wp2_with fail
    go_ret
    exact ⟨rfl, law_old C1.out⟩
  have H1 := Lib.hid hl.1
  have H2 := Lib.hid hl.2
  clear hl
  with_reducible refine (given09_good af nf start _ (HF.out.chg (law_old C1.out)) H1.out H2.out).mono ?_
  rintro e w2 ⟨p, F, rfl, hL⟩
  have R2 := Lib.hid (hL.under C1.out)
  clear hL C1
  have NL := Lib.hid (show (start.map fixB).length = start.length from List.length_map ..)
  have NX := Lib.hid (show ∀ y ∈ start.map fixB, y < 18446744073709551616 from fun y hy => by obtain ⟨z, hz, rfl⟩ := List.mem_map.1 hy; exact fixB_lt (HFX.out z hz))
  generalize start.map fixB = fs at R2 NL NX
  have N2 := Lib.hid (show fs.length ≤ 256 by rw [NL.out]; exact H2.out)
  obtain ⟨i0, i1, i2, i3, j0, j1, z0, z1⟩ := law_cells R2.out.chg
  go_wp2_with fail
  with_reducible refine (T6.all_any p F fs _ R2.out.st N2.out).mono ?_
  rintro e w3 ⟨a3, c3, rfl, ho, hc⟩
  have R3 := Lib.hid (R2.out.quiet hc)
  have O3 := Lib.hid ho
  have LT := Lib.hid R2.out.st.lt
  clear ho hc i0 i1 i2 i3 j0 j1 z0 z1 R2
  obtain ⟨i0, i1, i2, i3, j0, j1, z0, z1⟩ := law_cells R3.out.chg
  go_wp2_with fail
  by_cases hok : RunOk c t f r args.length fs.length
  case neg =>
    with_reducible refine (run_bad c t f r tag ac code.length cc aa args.length na p F fs _ R3.out.st hok).mono ?_
    rintro e w4 ⟨rfl, hc⟩
    rw [resA_lit]
    have R4 := Lib.hid (R3.out.quiet hc)
    have S4 := Lib.hid ((Sees.of_owns O3.out).chg hc)
    clear hc hok i0 i1 i2 i3 j0 j1 z0 z1 R3 O3
    obtain ⟨i0, i1, i2, i3, j0, j1, z0, z1⟩ := law_cells R4.out.chg
    go_wp2_with fail
    with_reducible refine (T6.all_any p F fs _ (R4.out.box _).st N2.out).mono ?_
    rintro e w5 ⟨a5, c5, rfl, ho, hc⟩
    have R5 := Lib.hid ((R4.out.box (resO (0, 0, 0) (none, 0, 0) (none, 0, 0) (none, 0, 0) 0)).quiet hc)
    have S5 := Lib.hid ((S4.out.chg ((Chg.refl _ Nothing).alloc (resO (0, 0, 0) (none, 0, 0) (none, 0, 0) (none, 0, 0) 0))).chg hc)
    have T5 := Lib.hid (Sees.of_owns ho)
    have q0 : ((fs.length : Int) != (fs.length : Int)) = false := by simp
    clear hc ho i0 i1 i2 i3 j0 j1 z0 z1 R4 S4
    go_wp2_with fail
    with_reducible refine (exact09_true a3 a5 c3 c5 fs _ S5.out T5.out (by have := N2.out; omega)).mono ?_
    rintro e w6 ⟨rfl, m, rfl⟩
    go_wp2_with fail
    go_ret
    exact ⟨rfl, (law_old R5.out.chg).drewN m⟩
  have OK := Lib.hid hok
  clear hok
  refine (run_good c t f r tag ac cc code aa na args p F fs _ R3.out.st OK.out HB.out (HS.out.chg (law_old R3.out.chg)) (HA.out.chg (law_old R3.out.chg)) HX.out HAX.out NX.out).mono ?_
  rintro e w4 ⟨s, ao, co, ar, cr, aw, cw, hs, hov, hfin, hbl, rfl, ho, hr, hw, hst, hc⟩
  have KY := Lib.hid (show (s.buf.map (·.1)).Nodup by rw [hs]; exact run_keys c t f r tag code args fs)
  have R4 := Lib.hid (show LW ((w.alloc (cfgBx c t f r)).alloc (prgBx tag ac code.length cc)) w4 p F (afterL s fs) from R3.out.next hst hc)
  have S4 := Lib.hid (Sees.of_owns (row_chg O3.out hc (fun k hk hF => by have := LT.out k hF; omega)))
  have TC := Lib.hid (row_tch hw)
  have HC := Lib.hid (show s.cells = (fs.length : Int) from by rw [cells_fixd hov.fixd]; exact OK.out.2.1.symm)
  have IR := Lib.hid hov.inr
  have TG := Lib.hid (show tag ≠ 2 → s.buf = [] from hov.tag)
  have FO := Lib.hid hfin.ok
  have BL := Lib.hid hbl
  obtain ⟨h1, h2, h3, hh⟩ : ∃ h1 h2 h3, s.how = (h1, h2, h3) := ⟨s.how.1, s.how.2.1, s.how.2.2, rfl⟩
  have HH := Lib.hid hh
  rw [hh, resA_lit]
  clear hs hov hfin hbl ho hr hw hst hc hh i0 i1 i2 i3 j0 j1 z0 z1 R3 O3 LT
  obtain ⟨i0, i1, i2, i3, j0, j1, z0, z1⟩ := law_cells R4.out.chg
  go_wp2_with fail
  have AL := Lib.hid (show (afterL s fs).length = fs.length from after_len s fs)
  with_reducible refine (T6.all_any p F (afterL s fs) _ (R4.out.box _).st (by rw [AL.out]; exact N2.out)).mono ?_
  rintro e w5 ⟨a5, c5, rfl, ho, hc⟩
  have R5 := Lib.hid ((R4.out.box (resO (h1, h2, h3) (ao, s.out.length, co) (ar, s.reads.length, cr) (aw, s.buf.length, cw) (s.used : Int))).quiet hc)
  have S5 := Lib.hid ((S4.out.chg ((Chg.refl _ Nothing).alloc (resO (h1, h2, h3) (ao, s.out.length, co) (ar, s.reads.length, cr) (aw, s.buf.length, cw) (s.used : Int)))).chg hc)
  have TC5 := Lib.hid ((TC.out.chg ((Chg.refl _ Nothing).alloc (resO (h1, h2, h3) (ao, s.out.length, co) (ar, s.reads.length, cr) (aw, s.buf.length, cw) (s.used : Int))) (fun _ _ _ h => h)).chg hc (fun _ _ _ h => h))
  have T5 := Lib.hid (Sees.of_owns ho)
  have q0 : (((afterL s fs).length : Int) != (fs.length : Int)) = false := by rw [AL.out]; simp
  have BX := hc.block _ (by simp) id |>.trans (heap_alloc_new w4 (resO (h1, h2, h3) (ao, s.out.length, co) (ar, s.reads.length, cr) (aw, s.buf.length, cw) (s.used : Int)))
  have k0 : w5.cell? ⟨w4.heap.size, 0, none⟩ = some (.int .i64 h1) := blk_cell BX 0
  have k1 : w5.cell? ⟨w4.heap.size, 1, none⟩ = some (.int .i64 h2) := blk_cell BX 1
  have k2 : w5.cell? ⟨w4.heap.size, 2, none⟩ = some (.int .i64 h3) := blk_cell BX 2
  have k5 : w5.cell? ⟨w4.heap.size, 5, none⟩ = some (.slice aw s.buf.length cw) := blk_cell BX 5
  have z2 := blk_lt BX
  clear hc ho BX i0 i1 i2 i3 j0 j1 z0 z1 R4 S4 TC
  obtain ⟨i0, i1, i2, i3, j0, j1, z0, z1⟩ := law_cells R5.out.chg
  by_cases hd : h1 = 1 ∧ tag = 2
  case neg =>
    have AE := Lib.hid (show afterL s fs = fs from by
      by_cases e1 : h1 = 1
      · exact after_same (.inr (TG.out (fun e => hd ⟨e1, e⟩)))
      · exact after_same (.inl (by rw [HH.out]; exact e1)))
    have S6 := Lib.hid (show Sees w5 a5 (fs.map fl) by have := T5.out; rwa [AE.out] at this)
    by_cases e1 : h1 = 1
    · have d1 : (h1 != 1) = false := by simp [e1]
      have d2 : (tag != 2) = true := by simp; exact fun e => hd ⟨e1, e⟩
      clear hd e1
      go_wp2_with fail
      rw [AE.out]
      with_reducible refine (exact09_true a3 a5 c3 c5 fs _ S5.out S6.out (by have := N2.out; omega)).mono ?_
      rintro e w6 ⟨rfl, m, rfl⟩
      go_wp2_with fail
      go_ret
      exact ⟨rfl, (law_old R5.out.chg).drewN m⟩
    · have d1 : (h1 != 1) = true := by simpa using e1
      clear hd e1
      go_wp2_with fail
      rw [AE.out]
      with_reducible refine (exact09_true a3 a5 c3 c5 fs _ S5.out S6.out (by have := N2.out; omega)).mono ?_
      rintro e w6 ⟨rfl, m, rfl⟩
      go_wp2_with fail
      go_ret
      exact ⟨rfl, (law_old R5.out.chg).drewN m⟩
  obtain ⟨rfl, rfl⟩ := hd
  have PL := Lib.hid (show afterL s fs = putL fs s.buf from after_put (by rw [HH.out]) IR.out HC.out)
  have n2 := N2.out
  go_wp2_with (at_make; refine make_row rfl _ _ 75 4 rfl (.bool false) 1 Tryz.underlying75 (by kernel_rfl) rfl .i64 .i64 _ _ fs.length rfl rfl rfl rfl (by omega) (by unfold maxLen; omega) ?c1)
  case c1 =>
    intro w6 hown hg
    have C6 := Lib.hid ((Chg.refl w5 Nothing).grown hg (by simp))
    have R6 := Lib.hid (R5.out.quiet C6.out)
    have R5z := Lib.hid (law_old R5.out.chg).size
    have k6 : w6.cell? ⟨w4.heap.size, 5, none⟩ = some (.slice aw s.buf.length cw) := C6.out.cell k5 id
    have M0 := Lib.hid (show Noted (List.replicate fs.length false) s.buf fs.length 0 ∧ w6.ownsRow w5.heap.size 4 1 (.slice (some ⟨w5.heap.size, 0, none⟩) fs.length fs.length) fs.length (arrB9 (List.replicate fs.length false)) from ⟨Noted.zero _ _, by unfold arrB9; rw [List.map_replicate]; exact hown⟩)
    have FX := Lib.hid (show ∀ (m j x : Nat), s.buf[m]? = some ((j : Int), x) → j < fs.length → (afterL s fs)[j]? = some x from fun m j x hm hj => by
      have hmem := List.mem_of_getElem? hm
      rw [PL.out, putL_has s.buf fs j x KY.out hj hmem, (FO.out.buf _ hmem).1])
    have FY := Lib.hid (show ∀ (j : Nat), (∀ p ∈ s.buf, p.1 ≠ (j : Int)) → (afterL s fs)[j]? = fs[j]? from fun j h => by rw [PL.out, putL_not s.buf fs j h])
    have HBL := Lib.hid (show s.buf.length ≤ 32 from BL.out)
    clear hown hg i0 i1 i2 i3 j0 j1 z0 z1 k0 k1 k2 k5 q0 n2 TG PL BL FO R5
    go_wp2_with fail
    go_loopg [74] s.buf.length (fun k i wr => ∃ (m : Nat) (wl : List Bool), m + k = s.buf.length ∧ i = .int .i64 (m : Nat) ∧ Noted wl s.buf fs.length m ∧ wr.ownsRow w5.heap.size 4 1 (.slice (some ⟨w5.heap.size, 0, none⟩) fs.length fs.length) fs.length (arrB9 wl) ∧ Chg w6 wr (fun k => k = w5.heap.size))
    case atStart => exact ⟨0, _, by simp, rfl, M0.out.1, M0.out.2, Chg.refl _ _⟩
    case round =>
      obtain ⟨m, wl, hm, rfl, hN, hO, hC⟩ := hrel
      have NO := Lib.hid hN
      have OO := Lib.hid hO
      have CC := Lib.hid hC
      have HM := Lib.hid hm
      clear hN hO hC M0 k6
      by_cases hlt : m < s.buf.length
      · have hd : decide (m < s.buf.length) = true := by simpa using hlt
        obtain ⟨ci, x, hx⟩ : ∃ ci x, s.buf[m]? = some (ci, x) := ⟨_, _, List.getElem?_eq_getElem hlt⟩
        have hcr := IR.out _ (List.mem_of_getElem? hx)
        dsimp only at hcr
        obtain ⟨j, rfl⟩ : ∃ j : Nat, ci = (j : Int) := ⟨ci.toNat, by omega⟩
        have hj : j < fs.length := by have := HC.out; omega
        have hj2 : j < (afterL s fs).length := by rw [AL.out]; exact hj
        obtain ⟨bb, oo, hab, x1, x2⟩ := TC5.out m _ hx
        have e1 := FX.out m j x hx hj
        obtain ⟨b5, o5, ha5, v5⟩ := fl_at T5.out e1
        have bl1 : bb < w5.heap.size := cell_lt x1
        have bl2 : b5 < w5.heap.size := cell_lt v5
        have hne1 : ¬ bb = w5.heap.size := by omega
        have hne2 : ¬ b5 = w5.heap.size := by omega
        have y1 := CC.out.cell (C6.out.cell x1 id) hne1
        have y2 := CC.out.cell (C6.out.cell x2 id) hne1
        have y5 := CC.out.cell (C6.out.cell v5 id) hne2
        dsimp only at y1 y2
        have yw : wr.cell? ⟨w5.heap.size, j, none⟩ = some (.bool false) := by
          have := OO.out.cells (g := w5.heap.size) rfl j (.bool false) (by unfold arrB9; rw [List.getElem?_map, NO.out.not KY.out hx hj]; rfl)
          rwa [Addr.add_lit, Nat.zero_add] at this
        have fw := OO.out.frozenAt j
        have zw : w5.heap.size < wr.heap.size := cell_lt yw
        have z5 : b5 < wr.heap.size := cell_lt y5
        have d0 : decide ((j : Int) < 0) = false := decide_eq_false (by omega)
        have d1 : decide ((fs.length : Int) ≤ (j : Int)) = false := decide_eq_false (by omega)
        have i1 : (j : Int) < (fs.length : Int) := by omega
        have i2 : (j : Int) < ((afterL s fs).length : Int) := by omega
        have qx : ((x : Int) == (x : Int)) = true := by simp
        have HX := Lib.hid hx
        have HJ := Lib.hid hj
        have HLT := Lib.hid hlt
        have hb32 := HBL.out
        subst hab ha5
        clear x1 x2 v5 e1 hcr bl1 bl2 hne1 hne2 hx hj2
        go_wp2_with fail
        go_quiet ((go_at_call 46; exact Calls.quiet_of_same (bits09_q _ _ _)))
        go_wp2_with fail
        have RR := Lib.hid (show (((wr.alloc (.cells #[.int .i64 (j : Int), fl x] 77)).drewN nq).setCell ⟨w5.heap.size, j, none⟩ (.bool true)).ownsRow w5.heap.size 4 1 (.slice (some ⟨w5.heap.size, 0, none⟩) fs.length fs.length) fs.length (arrB9 (wl.set j true)) from by
          have := ((OO.out.alloc (.cells #[.int .i64 (j : Int), fl x] 77)).stored j (.bool true)).1
          unfold arrB9 at this ⊢
          rw [List.map_set]
          exact this)
        go_roundg (gk - 1)
        case measure => have := HM.out; omega
        case rel => exact ⟨m + 1, wl.set j true, by have := HM.out; have := HLT.out; omega, by go_num, NO.out.next HX.out HJ.out, RR.out, ((CC.out.alloc _).drewN _).setCell (.inr rfl) _⟩
      · have hd : decide (m < s.buf.length) = false := by simpa using hlt
        obtain rfl : m = s.buf.length := by omega
        obtain ⟨wX, hX⟩ : ∃ wX, wX = wr := ⟨_, rfl⟩
        subst hX
        go_wp2_with fail
        go_loopg [113] fs.length (fun k i wq => ∃ (m : Nat), m + k = fs.length ∧ i = .int .i64 (m : Nat) ∧ Chg wX wq Nothing)
        case atStart => exact ⟨0, by simp, rfl, Chg.refl _ _⟩
        case round =>
          obtain ⟨j, hm, rfl, hq2⟩ := hrel
          have HM2 := Lib.hid hm
          have CQ := Lib.hid hq2
          clear hm hq2
          by_cases hlt : j < fs.length
          · have HLT := Lib.hid hlt
            have n2 := N2.out
            have hd : decide (j < fs.length) = true := by simpa using hlt
            obtain ⟨y, hy⟩ : ∃ y, fs[j]? = some y := ⟨_, List.getElem?_eq_getElem hlt⟩
            obtain ⟨b3, o3, ha3, v3⟩ := fl_at S5.out hy
            have hne3 : ¬ b3 = w5.heap.size := by have : b3 < w5.heap.size := cell_lt v3; omega
            have y3 := CQ.out.cell (CC.out.cell (C6.out.cell v3 id) hne3) id
            have hwl := NO.out.2 j hlt
            rw [List.take_length] at hwl
            have yw : wX.cell? ⟨w5.heap.size, j, none⟩ = some (.bool (decide (∃ p ∈ s.buf, p.1 = (j : Int)))) := by
              have := OO.out.cells (g := w5.heap.size) rfl j (.bool (decide (∃ p ∈ s.buf, p.1 = (j : Int)))) (by unfold arrB9; rw [List.getElem?_map, hwl]; rfl)
              rwa [Addr.add_lit, Nat.zero_add] at this
            have i1 : (j : Int) < (fs.length : Int) := by omega
            have i2 : (j : Int) < ((afterL s fs).length : Int) := by rw [AL.out]; exact i1
            by_cases hin : ∃ p ∈ s.buf, p.1 = (j : Int)
            · have hq : decide (∃ p ∈ s.buf, p.1 = (j : Int)) = true := decide_eq_true hin
              rw [hq] at yw
              have yw := CQ.out.cell yw id
              subst ha3
              clear v3 hne3 hwl hin hq hy
              go_wp2_with fail
              go_quiet ((go_at_call 46; exact Calls.quiet_of_same (bits09_q _ _ _)))
              go_wp2_with fail
              go_roundg (gk - 1)
              case measure => have := HM2.out; omega
              case rel => exact ⟨j + 1, by have := HM2.out; have := HLT.out; omega, by go_num, CQ.out.drewN _⟩
            · have hq : decide (∃ p ∈ s.buf, p.1 = (j : Int)) = false := decide_eq_false hin
              rw [hq] at yw
              have yw := CQ.out.cell yw id
              have e1 := FY.out j (fun p hp e => hin ⟨p, hp, e⟩)
              rw [hy] at e1
              obtain ⟨b5, o5, ha5, v5⟩ := fl_at T5.out e1
              have hne5 : ¬ b5 = w5.heap.size := by have : b5 < w5.heap.size := cell_lt v5; omega
              have y5 := CQ.out.cell (CC.out.cell (C6.out.cell v5 id) hne5) id
              have qx : ((y : Int) == (y : Int)) = true := by simp
              subst ha3 ha5
              clear v3 hne3 hwl hin hq hy e1 v5 hne5
              go_wp2_with fail
              go_quiet ((go_at_call 46; exact Calls.quiet_of_same (bits09_q _ _ _)))
              go_wp2_with fail
              go_roundg (gk - 1)
              case measure => have := HM2.out; omega
              case rel => exact ⟨j + 1, by have := HM2.out; have := HLT.out; omega, by go_num, CQ.out.drewN _⟩
          · have hd : decide (j < fs.length) = false := by simpa using hlt
            go_wp2_with fail
            go_ret
            exact ⟨rfl, ((law_old R6.out.chg).trans CC.out (fun k hk e => by subst e; have := R5z.out; omega)).trans CQ.out (fun _ _ h => h)⟩
end Go.Proofs.YthgllaomafhdkaaGreat
