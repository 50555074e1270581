/- AloneRuns: the walk. -/
import Derived.Test.YthgllaomafhdkaaGreatM5H
import Derived.Test.YthgllaomafhdkaaGreatM5I
import Derived.Test.YthgllaomafhdkaaGreatM48
namespace Go.Proofs.YthgllaomafhdkaaGreat
open Go Go.RowKit
set_option maxRecDepth 100000
set_option maxHeartbeats 1000000
set_option linter.unusedVariables false
set_option linter.unusedSimpArgs false

def resV (v : RV) (ao : Option Addr) (co : Nat) (ar : Option Addr) (cr : Nat) (aw : Option Addr) (cw : Nat) : Obj := .cells #[.int .i64 v.how.1, .int .i64 v.how.2.1, .int .i64 v.how.2.2, .slice ao v.out.length co, .slice ar v.reads.length cr, .slice aw v.buf.length cw, .int .i64 (v.used : Int)] 69 (0, 0)
theorem resA_v (v : RV) (ao : Option Addr) (co : Nat) (ar : Option Addr) (cr : Nat) (aw : Option Addr) (cw : Nat) : resA v.how (ao, v.out.length, co) (ar, v.reads.length, cr) (aw, v.buf.length, cw) (v.used : Int) = #[.int .i64 v.how.1, .int .i64 v.how.2.1, .int .i64 v.how.2.2, .slice ao v.out.length co, .slice ar v.reads.length cr, .slice aw v.buf.length cw, .int .i64 (v.used : Int)] := rfl
/-- The program's state beside the document's list. -/
structure LN (w wi : World) (p : Nat) (F : Nat → Prop) (fs : List Nat) (base sg cs n : Nat) : Prop where
  lw : LW w wi p F fs
  row : wi.ownsRow base 33 1 (.slice (some ⟨sg, 0, none⟩) n cs) n (fs.map fl)
  len : fs.length = n
  lt : ∀ y ∈ fs, y < 18446744073709551616
  off : ¬ F sg ∧ w.heap.size ≤ sg
section
variable {w wi w' : World} {p base sg cs n : Nat} {F : Nat → Prop} {fs fs' : List Nat}
theorem LN.quiet (h : LN w wi p F fs base sg cs n) (hc : Chg wi w' Nothing) : LN w w' p F fs base sg cs n := ⟨h.lw.quiet hc, ownsRow_heap h.row (fun k hk => hc.block k (h.row.lt k hk).2 id), h.len, h.lt, h.off⟩
/-- The program has run; the document has not. -/
structure LH (w wi : World) (p : Nat) (F : Nat → Prop) (fs fs' : List Nat) (base sg cs n : Nat) : Prop where
  lw : LW w wi p F fs'
  row : wi.ownsRow base 33 1 (.slice (some ⟨sg, 0, none⟩) n cs) n (fs.map fl)
  off : ¬ F sg ∧ w.heap.size ≤ sg
theorem LN.ran (h : LN w wi p F fs base sg cs n) (hs : Sta w' p F (fs'.map fl)) (hc : Chg wi w' F) : LH w w' p F fs fs' base sg cs n :=
  ⟨h.lw.next hs hc, ownsRow_heap h.row (fun k hk => hc.block k (h.row.lt k hk).2 (by simp [Value.ownBlock] at hk; subst hk; exact h.off.1)), h.off⟩
theorem LH.quiet (h : LH w wi p F fs fs' base sg cs n) (hc : Chg wi w' Nothing) : LH w w' p F fs fs' base sg cs n := ⟨h.lw.quiet hc, ownsRow_heap h.row (fun k hk => hc.block k (h.row.lt k hk).2 id), h.off⟩
theorem LH.both (h : LH w wi p F fs fs' base sg cs n) (hr : w'.ownsRow base 33 1 (.slice (some ⟨sg, 0, none⟩) n cs) n (fs'.map fl)) (hc : Chg wi w' (fun k => k = sg)) (hl : fs'.length = n) (hlt : ∀ y ∈ fs', y < 18446744073709551616) : LN w w' p F fs' base sg cs n :=
  ⟨⟨h.lw.st.chg hc (fun k hk e => h.off.1 (e ▸ hk)), h.lw.chg.trans hc (fun k hk e => by have := h.off.2; omega), h.lw.new⟩, hr, hl, hlt, h.off⟩
theorem LN.over {b : Nat} (h : LN w wi p F fs base sg cs n) (hc : Chg wi w' (fun k => b ≤ k)) (hb : sg < b ∧ ∀ k, F k → k < b) (hbw : w.heap.size ≤ b) : LN w w' p F fs base sg cs n :=
  ⟨⟨h.lw.st.chg hc (fun k hk e => by have := hb.2 k hk; omega), h.lw.chg.trans hc (fun k hk e => by omega), h.lw.new⟩, ownsRow_heap h.row (fun k hk => hc.block k (h.row.lt k hk).2 (by simp [Value.ownBlock] at hk; have := hb.1; omega)), h.len, h.lt, h.off⟩
end
/-- The document's Run, the list's length under a name of its own. -/
theorem rrun_n (c t f r tag : Int) (ac : Option Addr) (cc : Nat) (code : List Ins) (aa : Option Addr) (na : Nat) (args : List Nat) (C : Nat → Prop) (sg cs base n : Nat) (fs : List Nat) (w : World)
    (hC : ∀ k, C k → k < w.heap.size ∧ k ≠ sg) (hcode : RRow w C (.slice ac code.length cc) code.length 3 (insV code)) (ha : Sees w aa (args.map fl)) (hx : ∀ i ∈ code, i.2.2 < 18446744073709551616) (hax : ∀ y ∈ args, y < 18446744073709551616) (hfx : ∀ y ∈ fs, y < 18446744073709551616)
    (hrow : w.ownsRow base 33 1 (.slice (some ⟨sg, 0, none⟩) n cs) n (fs.map fl)) (hn : fs.length = n) (v : RV) (hv : v = runV c t f r tag code args fs) :
    Calls Tryz.prog 41 #[.agg #[.int .i64 c, .int .i64 t, .int .i64 f, .int .i64 r], .agg #[.int .i64 tag, .slice ac code.length cc], .slice aa args.length na, .slice (some ⟨sg, 0, none⟩) n cs] w fun e w' => ∃ ao co ar cr aw cw,
      e = .returned (.tuple #[.agg (#[.int .i64 v.how.1, .int .i64 v.how.2.1, .int .i64 v.how.2.2, .slice ao v.out.length co, .slice ar v.reads.length cr, .slice aw v.buf.length cw, .int .i64 (v.used : Int)]), .int .i64 v.err]) ∧
      Sees w' ao (v.out.map fl) ∧ Sees w' ar (tchV v.reads) ∧ Sees w' aw (tchV v.buf) ∧
      w'.ownsRow base 33 1 (.slice (some ⟨sg, 0, none⟩) n cs) n (v.fs.map fl) ∧ Chg w w' (fun k => k = sg) := by
  subst hn
  refine (rrun_any c t f r tag ac cc code aa na args C sg cs base fs w hC hcode ha hx hax hfx hrow v hv).mono ?_
  rintro e w' ⟨ao, co, ar, cr, aw, cw, he, h⟩
  rw [resA_v] at he
  exact ⟨ao, co, ar, cr, aw, cw, he, h.1.sees, h.2.1.sees, h.2.2.1.sees, h.2.2.2⟩
theorem RRow.old {w w' : World} {R : Nat → Prop} {v : Value} {n size : Nat} {xs : List Value} (h : RRow w R v n size xs) (hR : ∀ k, R k → k < w.heap.size) (hc : Chg w w' Nothing) : RRow w' R v n size xs :=
  h.move (fun b hb => ⟨hb, hc.block b (hR b hb) id⟩)
theorem all_n (p n : Nat) (F : Nat → Prop) (fs : List Nat) (w : World) (h : Sta w p F (fs.map fl)) (hn : fs.length = n) (hl : n ≤ 256) :
    Calls Tryz.prog 44 #[.pointer (some ⟨p, 0, none⟩)] w fun e w' => ∃ a c, e = .returned (.slice a n c) ∧ w'.ownsRow w.heap.size 33 1 (.slice a n c) n (fs.map fl) ∧ Chg w w' Nothing := by
  subst hn
  exact T6.all_any p F fs w h hl
theorem exact09_n (a1 a2 : Option Addr) (c1 c2 n : Nat) (fs : List Nat) (w : World) (h1 : Sees w a1 (fs.map fl)) (h2 : Sees w a2 (fs.map fl)) (hn : fs.length = n) (hl : n ≤ 140737488355328) :
    Calls Tryz.prog 43 #[.slice a1 n c1, .slice a2 n c2] w fun e w' => e = .returned (.bool true) ∧ Chg w w' Nothing := by
  subst hn
  refine (exact09_true a1 a2 c1 c2 fs w h1 h2 hl).mono ?_
  rintro e w' ⟨he, m, rfl⟩
  exact ⟨he, (Chg.refl _ _).drewN m⟩
theorem aruns_walk (c t f r : Int) (tag : Int) (ac : Option Addr) (cc : Nat) (code : List Ins) (aa : Option Addr) (na : Nat) (args : List Nat) (af : Option Addr) (nf : Nat) (start : List Nat) (w : World)
    (hb : code.length * 24 ≤ 140737488351232) (hab : args.length * 8 ≤ 140737488351232) (hs : Sees w ac (insV code)) (hac : ac = none → cc = 0) (hcl : code.length ≤ cc) (ha : Sees w aa (args.map fl)) (haa : aa = none → na = 0) (hf : Sees w af (start.map fl)) (haf : af = none → nf = 0) (hfl : start.length ≤ 9223372036854775807)
    (hx : ∀ i ∈ code, i.2.2 < 18446744073709551616) (hax : ∀ y ∈ args, y < 18446744073709551616) (hfx : ∀ y ∈ start, y < 18446744073709551616) :
    Calls Tryz.prog 7 #[.agg #[.int .i64 c, .int .i64 t, .int .i64 f, .int .i64 r], .agg #[.int .i64 tag, .slice ac code.length cc], .slice aa args.length na, .slice af start.length nf] w fun e w' => e = .returned (.bool true) ∧ Chg w w' Nothing := by
  obtain ⟨iF, jF, jF2, jF3, jF4⟩ := info_parts (show (Tryz.prog.info? 33).map (fun i => (i.zero, i.size, i.bytes)) = some (some (fl 0), 1, 8) by kernel_rfl)
  have JF := Lib.hid (And.intro jF (And.intro jF2 (And.intro jF3 jF4)))
  have hw1 : IntKind.i64.wrap ((args.length : Int) + 1) = ((args.length + 1 : Nat) : Int) := (IntWalk.i64_in ((args.length : Int) + 1) (by omega)).trans (by omega)
  have HB := Lib.hid hb
  have HAB := Lib.hid hab
  have HS := Lib.hid hs
  have HCR := Lib.hid (code_row hs hcl hac)
  have HA := Lib.hid ha
  have HAA := Lib.hid haa
  have HF := Lib.hid hf
  have HAF := Lib.hid haf
  have HFL := Lib.hid hfl
  have HX := Lib.hid hx
  have HAX := Lib.hid hax
  have HFX := Lib.hid hfx
  clear jF jF2 jF3 jF4 hb hab hs hac hcl ha haa hf haf hfl hx hax hfx
  go_enter Tryz.func7, Tryz.ntmps7
  go_wp2_with fail
  with_reducible refine (live09_any _).mono ?_
  rintro e w1 ⟨rfl, hc1⟩
  have C1 : Hid (Chg ((w.alloc (cfgBx c t f r)).alloc (prgBx tag ac code.length cc)) w1 Nothing) := Lib.hid hc1
  clear hc1
  go_wp2_with fail
  by_cases hl : 1 ≤ start.length ∧ start.length ≤ 256
  case neg =>
    have HL := Lib.hid (show start.length < 1 ∨ 256 < start.length by omega)
    clear hl
    with_reducible refine (given09_bad af start.length nf _ HL.out HFL.out).mono ?_
    rintro e w2 ⟨rfl, rfl⟩
    go_wp2_with fail
    go_ret
    exact ⟨rfl, law_old C1.out⟩
  have H1 := Lib.hid hl.1
  have H2 := Lib.hid hl.2
  clear hl
  with_reducible refine (given09_good af nf start _ (HF.out.chg (law_old C1.out)) H1.out H2.out).mono ?_
  rintro e w2 ⟨p, F, rfl, hL⟩
  have R2 := Lib.hid (hL.under C1.out)
  clear hL C1
  go_wp2_with fail
  with_reducible refine (numbers09_any af nf start _ (HF.out.chg (law_old R2.out.chg)) HAF.out (by have := H2.out; omega)).mono ?_
  rintro e w3 ⟨an, cn, rfl, ho, hc⟩
  obtain ⟨sg, hsg⟩ : ∃ sg, an = some ⟨sg, 0, none⟩ := by
    obtain ⟨g, c2, hv⟩ := (ownsRow_shape ho).2 (by have := H1.out; omega)
    injection hv with hv
    exact ⟨g, hv⟩
  subst hsg
  have LN3 := Lib.hid (show LN ((w.alloc (cfgBx c t f r)).alloc (prgBx tag ac code.length cc)) w3 p F (start.map fixB) w2.heap.size sg cn start.length from ⟨R2.out.quiet hc, ho, List.length_map .., fun y hy => by obtain ⟨z, hz, rfl⟩ := List.mem_map.1 hy; exact fixB_lt (HFX.out z hz), ⟨fun hF => by have := R2.out.st.lt sg hF; have := (ho.lt sg rfl).1; omega, Nat.le_trans R2.out.chg.size (ho.lt sg rfl).1⟩⟩)
  have BT := Lib.hid (show w2.heap.size ≤ sg ∧ sg < w3.heap.size ∧ ∀ k, F k → k < w3.heap.size from ⟨(ho.lt sg rfl).1, (ho.lt sg rfl).2, fun k hk => Nat.lt_of_lt_of_le (R2.out.st.lt k hk) hc.size⟩)
  clear ho hc R2
  go_wp2_with fail
  go_loopg [32] 2 (fun k i wr => ∃ (n : Nat) (fs : List Nat), n + k = 2 ∧ i = .int .i64 ((n : Nat) : Int) ∧ LN ((w.alloc (cfgBx c t f r)).alloc (prgBx tag ac code.length cc)) wr p F fs w2.heap.size sg cn start.length ∧ w3.heap.size ≤ wr.heap.size)
  case atStart => exact ⟨0, _, rfl, rfl, LN3.out, Nat.le_refl _⟩
  case round =>
    obtain ⟨n, fs, hn, rfl, hLN, hsz⟩ := hrel
    have L0 := Lib.hid hLN
    have HN := Lib.hid hn
    have SZ := Lib.hid hsz
    clear hLN hn hsz LN3
    obtain ⟨wA, rfl⟩ : ∃ wA, wA = wr := ⟨_, rfl⟩
    by_cases hlt : n < 2
    · have hd : decide (n < 2) = true := by simpa using hlt
      have hd2 : decide ((n : Int) < 2) = true := decide_eq_true (by omega)
      have hni : (n : Int) < 2 := by omega
      have CO := Lib.hid (law_old L0.out.lw.chg)
      go_wp2_with (at_make; refine wpList_make_own _ rfl _ _ 27 rfl wA.heap.size 33 iF (fl 0) 1 Tryz.underlying27 JF.out.1 JF.out.2.1 JF.out.2.2.1 .i64 .i64 _ (args.length + 1) rfl rfl (by first | rfl | (push_cast; rfl)) (by rw [JF.out.2.2.2]; have := HAB.out; omega) (by have := HAB.out; unfold maxLen; omega) (Nat.le_refl _) ?c1)
      case c1 =>
        intro w4 o4 g4
        have C4 := Lib.hid (show Chg wA w4 Nothing from (Chg.refl _ Nothing).grown g4 (by simp))
        have O4 := Lib.hid o4
        clear o4 g4
        go_wp2_with (at_builtin; refine list_append_see rfl _ _ 27 rfl wA.heap.size 33 iF (fl 0) 1 8 Tryz.underlying27 JF.out.1 JF.out.2.1 JF.out.2.2.1 JF.out.2.2.2 rfl (by decide) _ 0 [] rfl O4.out aa args.length na rfl (args.map fl) (by simp) ((HA.out.chg CO.out).chg C4.out) (fls_one args) (by have := HAB.out; unfold maxLen; omega) (by have := HAB.out; omega) C4.out.size HAA.out ?c2)
        case c2 =>
          intro v1 w5 o5 g5
          try simp only [Nat.zero_add, List.nil_append] at o5
          have C5 := Lib.hid (C4.out.grown g5 (fun k hk => .inl (O4.out.lt k hk).1))
          obtain ⟨⟨la, lc, rfl⟩, -⟩ := ownsRow_shape o5
          have LAC := Lib.hid (own_cap o5 _ _ rfl).2
          have OL := Lib.hid o5
          have L5 := Lib.hid (L0.out.quiet C5.out)
          clear o5 g5 O4 C4
          obtain ⟨i0, i1, i2, i3, j0, j1, z0, z1⟩ := law_cells L5.out.lw.chg
          obtain ⟨v, hv⟩ : ∃ v, v = runV c t f r tag code args fs := ⟨_, rfl⟩
          have HV := Lib.hid hv
          have VO := Lib.hid (show v.Ok fs.length by rw [hv]; exact runV_ok HX.out HAX.out L5.out.lt)
          clear hv
          go_wp2_with fail
          refine (arun_any c t f r tag ac cc code la lc args p F fs _ L5.out.lw.st (by have := HB.out; omega) (HS.out.chg (law_old L5.out.lw.chg)) (Sees.of_owns OL.out) HX.out HAX.out L5.out.lt v HV.out).mono ?_
          rintro e w6 ⟨ao, co, ar, cr, aw, cw, rfl, ho, hr, hw, hst, hc⟩
          rw [resA_v]
          have L6 := Lib.hid (L5.out.ran hst hc)
          have SC6 := Lib.hid (show w5.heap.size ≤ w6.heap.size from hc.size)
          have OL6 := Lib.hid (show w6.ownsRow wA.heap.size 33 1 (.slice la args.length lc) args.length (args.map fl) from row_chg OL.out hc (fun k hk hF => by have := BT.out.2.2 k hF; have := SZ.out; omega))
          have RO := Lib.hid ho
          have RR := Lib.hid hr
          have RW := Lib.hid hw
          have Z5 := Lib.hid (show wA.heap.size ≤ w5.heap.size from C5.out.size)
          have BX6 := Lib.hid (show (w6.alloc (.cells #[.int .i64 v.how.1, .int .i64 v.how.2.1, .int .i64 v.how.2.2, .slice ao v.out.length co, .slice ar v.reads.length cr, .slice aw v.buf.length cw, .int .i64 (v.used : Int)] 69 (0, 0))).heap[w6.heap.size]? = some (.cells #[.int .i64 v.how.1, .int .i64 v.how.2.1, .int .i64 v.how.2.2, .slice ao v.out.length co, .slice ar v.reads.length cr, .slice aw v.buf.length cw, .int .i64 (v.used : Int)] 69 (0, 0)) from heap_alloc_new _ _)
          have L7 := Lib.hid (L6.out.quiet ((Chg.refl _ Nothing).alloc (.cells #[.int .i64 v.how.1, .int .i64 v.how.2.1, .int .i64 v.how.2.2, .slice ao v.out.length co, .slice ar v.reads.length cr, .slice aw v.buf.length cw, .int .i64 (v.used : Int)] 69 (0, 0))))
          clear ho hr hw hst hc i0 i1 i2 i3 j0 j1 z0 z1 L6
          obtain ⟨i0, i1, i2, i3, j0, j1, z0, z1⟩ := law_cells L7.out.lw.chg
          have NW := Lib.hid (law_old L7.out.lw.chg)
          go_wp2_with fail
          refine (rrun_n c t f r tag ac cc code aa na args (CodeB ac code) sg cn w2.heap.size start.length fs _ (fun k hk => ⟨Nat.lt_of_lt_of_le (HCR.out.1 k hk) NW.out.size, fun e => by have a := HCR.out.1 k hk; have b := L0.out.off.2; simp at b; omega⟩) (HCR.out.2.old HCR.out.1 NW.out) (HA.out.chg NW.out) HX.out HAX.out L0.out.lt L7.out.row L0.out.len v HV.out).mono ?_
          rintro e w8 ⟨bo, do_, br, dr, bw, dw, rfl, so, sr, sw, hrow, hc⟩
          have SC := Lib.hid (((Chg.refl w6 (fun k => k = sg)).alloc (.cells #[.int .i64 v.how.1, .int .i64 v.how.2.1, .int .i64 v.how.2.2, .slice ao v.out.length co, .slice ar v.reads.length cr, .slice aw v.buf.length cw, .int .i64 (v.used : Int)] 69 (0, 0))).trans hc (fun k _ h => h))
          have SGB := Lib.hid (show sg < wA.heap.size from Nat.lt_of_lt_of_le BT.out.2.1 SZ.out)
          have RO8 := Lib.hid (row_chg RO.out SC.out (fun k hk e => by have := Z5.out; have := SGB.out; omega))
          have RR8 := Lib.hid (row_chg RR.out SC.out (fun k hk e => by have := Z5.out; have := SGB.out; omega))
          have RW8 := Lib.hid (row_chg RW.out SC.out (fun k hk e => by have := Z5.out; have := SGB.out; omega))
          have OL8 := Lib.hid (row_chg OL6.out SC.out (fun k hk e => by have := SGB.out; omega))
          have BX8 : w8.heap[w6.heap.size]? = _ := (hc.block _ (by simp) (by have := SGB.out; have := Z5.out; have := SC6.out; omega)).trans BX6.out
          have LB := Lib.hid (L7.out.both hrow hc (VO.out.fs.trans L0.out.len) VO.out.lt)
          have SO := Lib.hid so
          have SR := Lib.hid sr
          have SW := Lib.hid sw
          have h68 : w6.heap.size < w8.heap.size := by have := hc.size; simp at this; omega
          have h68n : ¬ w6.heap.size = w8.heap.size := by omega
          have BXH := Lib.hid BX8
          have r0 := blk_cell BX8 0
          have r1 := blk_cell BX8 1
          have r2 := blk_cell BX8 2
          have r3 := blk_cell BX8 3
          have r4 := blk_cell BX8 4
          have r5 := blk_cell BX8 5
          have r6 := blk_cell BX8 6
          clear i0 i1 i2 i3 j0 j1 z0 z1 NW BX8 hc hrow so sr sw
          have qe : (v.err != v.err) = false := by simp
          have qf : (v.err == v.err) = true := by simp
          go_wp2_with fail
          have A8 := Lib.hid (show Chg w8 (w8.alloc (.cells #[.int .i64 v.how.1, .int .i64 v.how.2.1, .int .i64 v.how.2.2, .slice bo v.out.length do_, .slice br v.reads.length dr, .slice bw v.buf.length dw, .int .i64 (v.used : Int)] 69 (0, 0))) Nothing from (Chg.refl w8 Nothing).alloc _)
          refine (result09_true v.how (v.used : Int) v.out v.reads v.buf ao ar aw bo br bw co cr cw do_ dr dw _ ((Sees.of_owns RO8.out).chg A8.out) ((Sees.of_owns RR8.out).chg A8.out) ((Sees.of_owns RW8.out).chg A8.out) (SO.out.chg A8.out) (SR.out.chg A8.out) (SW.out.chg A8.out) VO.out.out VO.out.reads VO.out.buf).mono ?_
          rintro e w9 ⟨rfl, hc⟩
          have C9 := Lib.hid (A8.out.trans hc (fun _ _ h => h))
          have BX9 := Lib.hid ((C9.out.block w6.heap.size h68 id).trans BXH.out)
          clear hc A8 SO SR SW
          go_wp2_with fail
          refine (all_n p start.length F v.fs _ (LB.out.quiet C9.out).lw.st (VO.out.fs.trans L0.out.len) H2.out).mono ?_
          rintro e w10 ⟨la2, lc2, rfl, ho, hc⟩
          have C10 := Lib.hid (C9.out.trans hc (fun _ _ h => h))
          have OA := Lib.hid ho
          clear ho hc
          go_wp2_with fail
          refine (exact09_n la2 (some ⟨sg, 0, none⟩) lc2 cn start.length v.fs _ (Sees.of_owns OA.out) (Sees.of_owns (LB.out.quiet C10.out).row) (VO.out.fs.trans L0.out.len) (by have := H2.out; omega)).mono ?_
          rintro e w11 ⟨rfl, hc⟩
          have C11 := Lib.hid (C10.out.trans hc (fun _ _ h => h))
          clear hc
          go_wp2_with fail
          refine (numbers09_any la lc args _ ((Sees.of_owns OL8.out).chg C11.out) LAC.out (by have := HAB.out; omega)).mono ?_
          rintro e w12 ⟨a12, c12, rfl, ho, hc⟩
          have C12 := Lib.hid (C11.out.trans hc (fun _ _ h => h))
          have O12 := Lib.hid ho
          clear ho hc
          go_wp2_with fail
          refine (numbers09_any aa na args _ (HA.out.chg (law_old (LB.out.quiet C12.out).lw.chg)) HAA.out (by have := HAB.out; omega)).mono ?_
          rintro e w13 ⟨a13, c13, rfl, ho, hc⟩
          have C13 := Lib.hid (C12.out.trans hc (fun _ _ h => h))
          have O13 := Lib.hid ho
          have S12 := Lib.hid ((Sees.of_owns O12.out).chg hc)
          clear ho hc
          go_wp2_with fail
          refine (exact09_n a12 a13 c12 c13 args.length (args.map fixB) _ S12.out (Sees.of_owns O13.out) (List.length_map ..) (by have := HAB.out; omega)).mono ?_
          rintro e w14 ⟨rfl, hc⟩
          have C14 := Lib.hid (C13.out.trans hc (fun _ _ h => h))
          have BX14 : w14.heap[w6.heap.size]? = _ := (C14.out.block w6.heap.size h68 id).trans BXH.out
          have r0 := blk_cell BX14 0
          have r1 := blk_cell BX14 1
          have r2 := blk_cell BX14 2
          have r3 := blk_cell BX14 3
          have r4 := blk_cell BX14 4
          have r5 := blk_cell BX14 5
          have r6 := blk_cell BX14 6
          clear hc BX14
          go_wp2_with fail
          have ZC := C14.out.size
          refine (spoils09_any v.how.1 v.how.2.1 v.how.2.2 (v.used : Int) ao ar aw v.out.length co v.reads.length cr v.buf.length cw w5.heap.size _ (((Spl.of RO8.out).quiet C14.out).up (Nat.le_refl _) C14.out.size) (((Spl.of RR8.out).quiet C14.out).up (Nat.le_refl _) C14.out.size) (((Spl.of RW8.out).quiet C14.out).up (Nat.le_refl _) C14.out.size) (by have := SC6.out; omega)).mono ?_
          rintro e w15 ⟨rfl, hc⟩
          have N1 := Lib.hid ((LB.out.quiet C14.out).over hc ⟨by have := SGB.out; have := Z5.out; omega, fun k hk => by have := BT.out.2.2 k hk; have := SZ.out; have := Z5.out; omega⟩ (by have := L5.out.lw.chg.size; omega))
          have N2 := Lib.hid (show w3.heap.size ≤ w15.heap.size by have := hc.size; have := SZ.out; have := Z5.out; have := SC6.out; omega)
          have HN2 := HN.out
          clear hc ZC
          go_wp2_with fail
          go_roundg (gk - 1)
          case measure => omega
          case rel => exact ⟨n + 1, v.fs, by omega, by go_num, N1.out, N2.out⟩
    · have hd : decide (n < 2) = false := by simpa using hlt
      have hd2 : decide ((n : Int) < 2) = false := decide_eq_false (by omega)
      go_wp2_with fail
      go_ret
      exact ⟨rfl, law_old L0.out.lw.chg⟩
end Go.Proofs.YthgllaomafhdkaaGreat
