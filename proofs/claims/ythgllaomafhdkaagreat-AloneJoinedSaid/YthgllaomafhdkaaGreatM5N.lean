/- AloneCalls: the walk. -/
import Derived.Test.YthgllaomafhdkaaGreatM5M
import Derived.Test.YthgllaomafhdkaaGreatM5J
namespace Go.Proofs.YthgllaomafhdkaaGreat
open Go Go.RowKit
set_option maxRecDepth 100000
set_option maxHeartbeats 1000000
set_option linter.unusedVariables false
set_option linter.unusedSimpArgs false

theorem foldl_len {c t f r : Int} {ps : List Pg} : ∀ (cs : List Cl) (s : List RV × List Nat), (cs.foldl (cstep c t f r ps) s).1.length = s.1.length + cs.length
  | [], s => rfl
  | x :: cs, s => by
    rw [List.foldl_cons, foldl_len cs]
    simp [cstep]; omega
theorem callsV_len {c t f r : Int} {ps : List Pg} {cs : List Cl} {fs : List Nat} : (callsV c t f r ps cs fs).2.1.length ≤ 512 := by
  unfold callsV
  split
  · exact Nat.zero_le _
  · split
    · exact Nat.zero_le _
    · split
      · rename_i h1 h2 h3
        show (callsN c t f r ps cs fs).1.length ≤ 512
        unfold callsN
        rw [foldl_len]
        simp; omega
      · exact Nat.zero_le _
theorem seven_at {w : World} {a : Option Addr} {vh : List (RV × H6)} {i : Nat} {x : RV × H6} (h : Sees w a (resC vh)) (hx : vh[i]? = some x) : ∃ b o, a = some ⟨b, o, none⟩ ∧ ∀ j u, (res7 x.1 x.2)[j]? = some u → w.cell? ⟨b, o + i * 7 + j, none⟩ = some u := by
  rcases h with h | ⟨b, o, rfl, hc⟩
  · have := resC_len vh
    rw [h] at this
    have h2 := (List.getElem?_eq_some_iff.1 hx).1
    simp at this
    omega
  · exact ⟨b, o, rfl, fun j u hu => by rw [Nat.add_assoc]; exact hc _ _ (resC_at vh i x hx j u hu)⟩
theorem same_at {vh1 vh2 : List (RV × H6)} (h : vh1.map (·.1) = vh2.map (·.1)) {i : Nat} {x : RV × H6} (hx : vh1[i]? = some x) : ∃ h2, vh2[i]? = some (x.1, h2) := by
  have h1 : (vh2.map (·.1))[i]? = some x.1 := by rw [← h, List.getElem?_map, hx]; rfl
  rw [List.getElem?_map] at h1
  cases h2 : vh2[i]? with
  | none => rw [h2] at h1; cases h1
  | some y =>
    rw [h2] at h1
    injection h1 with h1
    exact ⟨y.2, by rw [← h1]⟩
theorem rcalls_n (c t f r : Int) (pa : Option Addr) (pc : Nat) (ps : List Pg) (ca : Option Addr) (cc : Nat) (cs : List Cl) (sg cn base n : Nat) (fs : List Nat) (w : World) (h : w.ownsRow base 33 1 (.slice (some ⟨sg, 0, none⟩) n cn) n (fs.map fl)) (hn : fs.length = n)
    (w0 : World) (hw0 : Chg w0 w Nothing) (hG : w0.heap.size ≤ sg) (hpl : ps.length ≤ 9223372036854775807) (hcl : cs.length ≤ 9223372036854775807) (hin : ClsIn w0 pa ca ps cs) (hfx : ∀ y ∈ fs, y < 18446744073709551616) (V : Int × List RV × List Nat) (hV : V = callsV c t f r ps cs fs) :
    Calls Tryz.prog 52 #[.agg #[.int .i64 c, .int .i64 t, .int .i64 f, .int .i64 r], .slice pa ps.length pc, .slice ca cs.length cc, .slice (some ⟨sg, 0, none⟩) n cn] w fun e w' => ∃ a cap vh,
      e = .returned (.tuple #[.slice a vh.length cap, .int .i64 V.1]) ∧ vh.map (·.1) = V.2.1 ∧ ResS w' a vh ∧ w'.ownsRow base 33 1 (.slice (some ⟨sg, 0, none⟩) n cn) n (V.2.2.map fl) ∧ Chg w w' (fun k => k = sg) := by
  subst hn hV
  exact rcalls_any c t f r pa pc ps ca cc cs sg cn base fs w h w0 hw0 hG hpl hcl hin hfx
theorem acalls_n (c t f r : Int) (pa : Option Addr) (pc : Nat) (ps : List Pg) (ca : Option Addr) (cc : Nat) (cs : List Cl) (p : Nat) (G : Nat → Prop) (fs : List Nat) (w : World) (h : Sta w p G (fs.map fl))
    (w0 : World) (hw0 : Chg w0 w Nothing) (hG : ∀ k, G k → w0.heap.size ≤ k) (hpl : ps.length ≤ 9223372036854775807) (hcl : cs.length ≤ 9223372036854775807) (hin : ClsIn w0 pa ca ps cs) (hfx : ∀ y ∈ fs, y < 18446744073709551616) (V : Int × List RV × List Nat) (hV : V = callsV c t f r ps cs fs) :
    Calls Tryz.prog 51 #[.agg #[.int .i64 c, .int .i64 t, .int .i64 f, .int .i64 r], .slice pa ps.length pc, .slice ca cs.length cc, .pointer (some ⟨p, 0, none⟩)] w fun e w' => ∃ a cap vh,
      e = .returned (.tuple #[.slice a vh.length cap, .int .i64 V.1]) ∧ vh.map (·.1) = V.2.1 ∧ ResSB w' (fun b => w.heap.size ≤ b) a vh ∧ Sta w' p G (V.2.2.map fl) ∧ Chg w w' G := by
  subst hV
  exact acalls_any c t f r pa pc ps ca cc cs p G fs w h w0 hw0 hG hpl hcl hin hfx
set_option maxHeartbeats 4000000 in
theorem acalls_walk (c t f r : Int) (pa : Option Addr) (pc : Nat) (ps : List Pg) (ca : Option Addr) (cc : Nat) (cs : List Cl) (af : Option Addr) (nf : Nat) (start : List Nat) (w : World)
    (hpl : ps.length ≤ 9223372036854775807) (hcl : cs.length ≤ 9223372036854775807) (hin : ClsIn w pa ca ps cs) (hf : Sees w af (start.map fl)) (haf : af = none → nf = 0) (hfl : start.length ≤ 9223372036854775807) (hfx : ∀ y ∈ start, y < 18446744073709551616) :
    Calls Tryz.prog 12 #[.agg #[.int .i64 c, .int .i64 t, .int .i64 f, .int .i64 r], .slice pa ps.length pc, .slice ca cs.length cc, .slice af start.length nf] w fun e w' => e = .returned (.bool true) ∧ Chg w w' Nothing := by
  have HPL := Lib.hid hpl
  have HCL := Lib.hid hcl
  have HI := Lib.hid hin
  have HF := Lib.hid hf
  have HAF := Lib.hid haf
  have HFL := Lib.hid hfl
  have HFX := Lib.hid hfx
  clear hpl hcl hin hf haf hfl hfx
  go_enter Tryz.func12, Tryz.ntmps12
  go_wp2_with fail
  with_reducible refine (live09_any _).mono ?_
  rintro e w1 ⟨rfl, hc1⟩
  have C1 : Hid (Chg (w.alloc (.cells #[.int .i64 c, .int .i64 t, .int .i64 f, .int .i64 r] 23 (0, 0))) w1 Nothing) := Lib.hid hc1
  have B1 := Lib.hid ((hc1.block w.heap.size (by simp) id).trans (heap_alloc_new w (.cells #[.int .i64 c, .int .i64 t, .int .i64 f, .int .i64 r] 23)))
  clear hc1
  go_wp2_with fail
  by_cases hl : 1 ≤ start.length ∧ start.length ≤ 256
  case neg =>
    have HL := Lib.hid (show start.length < 1 ∨ 256 < start.length by omega)
    clear hl
    with_reducible refine (given09_bad af start.length nf _ HL.out HFL.out).mono ?_
    rintro e w2 ⟨rfl, rfl⟩
    go_wp2_with fail
    go_ret
    exact ⟨rfl, ((Chg.refl w Nothing).alloc _).trans C1.out (fun _ _ h => h)⟩
  have H1 := Lib.hid hl.1
  have H2 := Lib.hid hl.2
  clear hl
  have CW := Lib.hid (((Chg.refl w Nothing).alloc (.cells #[.int .i64 c, .int .i64 t, .int .i64 f, .int .i64 r] 23)).trans C1.out (fun _ _ h => h))
  with_reducible refine (given09_good af nf start _ (HF.out.chg CW.out) H1.out H2.out).mono ?_
  rintro e w2 ⟨p, F, rfl, hL⟩
  have R2 := Lib.hid (hL.under C1.out)
  have C2 := Lib.hid (((Chg.refl w Nothing).alloc _).trans R2.out.chg (fun _ _ h => h))
  have B2 := Lib.hid ((hL.chg.block w.heap.size (blk_lt B1.out) id).trans B1.out)
  clear hL C1 CW
  go_wp2_with fail
  with_reducible refine (numbers09_any af nf start _ (HF.out.chg C2.out) HAF.out (by have := H2.out; omega)).mono ?_
  rintro e w3 ⟨an, cn, rfl, ho, hc⟩
  obtain ⟨sg, hsg⟩ : ∃ sg, an = some ⟨sg, 0, none⟩ := by
    obtain ⟨g, c2, hv⟩ := (ownsRow_shape ho).2 (by have := H1.out; omega)
    injection hv with hv
    exact ⟨g, hv⟩
  subst hsg
  obtain ⟨fs, hfs⟩ : ∃ fs, fs = start.map fixB := ⟨_, rfl⟩
  have FL := Lib.hid (show fs.length = start.length by rw [hfs]; exact List.length_map ..)
  have FX := Lib.hid (show ∀ y ∈ fs, y < 18446744073709551616 from fun y hy => by rw [hfs] at hy; obtain ⟨z, hz, rfl⟩ := List.mem_map.1 hy; exact fixB_lt (HFX.out z hz))
  have S3 := Lib.hid (show Sta w3 p F (fs.map fl) from by rw [hfs]; exact R2.out.st.chg hc (fun _ _ h => h))
  have O3 := Lib.hid (show w3.ownsRow w2.heap.size 33 1 (.slice (some ⟨sg, 0, none⟩) start.length cn) start.length (fs.map fl) from by rw [hfs]; exact ho)
  have NEW := Lib.hid (show ∀ k, F k → w.heap.size < k from fun k hk => by have := R2.out.new k hk; simp at this; omega)
  have SGF := Lib.hid (show ∀ k, F k → k < w2.heap.size from fun k hk => R2.out.st.lt k hk)
  have SG2 := Lib.hid (show w2.heap.size ≤ sg ∧ sg < w3.heap.size from ho.lt sg rfl)
  have C3 := Lib.hid (C2.out.trans hc (fun _ _ h => h))
  have B3 := (hc.block w.heap.size (blk_lt B2.out) id).trans B2.out
  have i0 := blk_cell B3 0
  have i1 := blk_cell B3 1
  have i2 := blk_cell B3 2
  have i3 := blk_cell B3 3
  have B3 := Lib.hid B3
  obtain ⟨V, hV⟩ : ∃ V, V = callsV c t f r ps cs fs := ⟨_, rfl⟩
  have VF := Lib.hid (show V.2.2.length = fs.length ∧ (∀ y ∈ V.2.2, y < 18446744073709551616) ∧ (∀ v ∈ V.2.1, ∃ n, v.Ok n) from by rw [hV]; exact callsV_fs HI.out.pin HI.out.cin FX.out)
  have VLN := Lib.hid (show V.2.1.length ≤ 512 from by rw [hV]; exact callsV_len)
  have HV := Lib.hid hV
  clear ho hc hfs R2 hV
  go_wp2_with fail
  refine (acalls_n c t f r pa pc ps ca cc cs p F fs _ S3.out w C3.out (fun k hk => by have := NEW.out k hk; omega) HPL.out HCL.out HI.out FX.out V HV.out).mono ?_
  rintro e w4 ⟨a1, k1, vh1, rfl, he1, hr1, hs1, hc1⟩
  have E1 := Lib.hid he1
  have R1 := Lib.hid hr1
  have S4 := Lib.hid hs1
  have C4 := Lib.hid (C3.out.trans hc1 (fun k hk e => by have := NEW.out k e; omega))
  have D4 := Lib.hid hc1
  have B4 := (hc1.block w.heap.size (blk_lt B3.out) (fun e => by have := NEW.out _ e; omega)).trans B3.out
  have i0 := blk_cell B4 0
  have i1 := blk_cell B4 1
  have i2 := blk_cell B4 2
  have i3 := blk_cell B4 3
  have O4 := Lib.hid (ownsRow_heap O3.out (fun k hk => hc1.block k (O3.out.lt k hk).2 (fun e => by have := SGF.out k e; have := (O3.out.lt k hk).1; omega)))
  clear he1 hr1 hs1 hc1 B4
  go_wp2_with fail
  refine (rcalls_n c t f r pa pc ps ca cc cs sg cn w2.heap.size start.length fs _ O4.out FL.out w C4.out (by have := SG2.out; have := C2.out.size; omega) HPL.out HCL.out HI.out FX.out V HV.out).mono ?_
  rintro e w5 ⟨a2, k2, vh2, rfl, he2, hr2, hs2, hc2⟩
  have hlen : vh2.length = vh1.length := by
    have h1 := congrArg List.length E1.out
    have h2 := congrArg List.length he2
    simp only [List.length_map] at h1 h2
    omega
  rw [hlen]
  have MM := Lib.hid (E1.out.trans he2.symm)
  have O5 := Lib.hid hs2
  have C5 := Lib.hid (C4.out.trans hc2 (fun k hk e => by have := SG2.out; have := C2.out.size; omega))
  have S5 := Lib.hid (S4.out.chg hc2 (fun k hk e => by have := SGF.out k hk; have := SG2.out; omega))
  have R5 := Lib.hid hr2
  have R1 := Lib.hid (R1.out.chg hc2 (B' := fun b => w3.heap.size ≤ b) (fun b hb _ => ⟨hb, fun e => by have := SG2.out; omega⟩)).res
  have VL := Lib.hid (VF.out.1.trans FL.out)
  have q1 : (V.1 != V.1) = false := by simp
  have q2 : (V.1 == V.1) = true := by simp
  have q3 : ((vh1.length : Int) != (vh1.length : Int)) = false := by simp
  have q4 : ((vh1.length : Int) == (vh1.length : Int)) = true := by simp
  have OKS := Lib.hid VF.out.2.2
  clear he2 hr2 hs2 hc2 i0 i1 i2 i3 hlen
  go_wp2_with fail
  refine (all_n p start.length F V.2.2 _ S5.out VL.out H2.out).mono ?_
  rintro e w6 ⟨la2, lc2, rfl, ho, hc⟩
  have C6 := Lib.hid hc
  have OA := Lib.hid ho
  clear ho hc
  go_wp2_with fail
  refine (exact09_n la2 (some ⟨sg, 0, none⟩) lc2 cn start.length V.2.2 _ (Sees.of_owns OA.out) ((Sees.of_owns O5.out).chg C6.out) VL.out (by have := H2.out; omega)).mono ?_
  rintro e w7 ⟨rfl, hc⟩
  have C7 := Lib.hid (C6.out.trans hc (fun _ _ h => h))
  clear hc
  have X1 := Lib.hid (R1.out.quiet C7.out)
  have X2 := Lib.hid (R5.out.quiet C7.out)
  have CC := Lib.hid (C5.out.trans C7.out (fun _ _ h => h))
  have hvl : vh1.length ≤ 9223372036854775807 := by have h1 := congrArg List.length E1.out; rw [List.length_map] at h1; have h2 := VLN.out; omega
  have HVL := Lib.hid hvl
  clear hvl
  go_wp2_with fail
  go_loopg [67] vh1.length (fun k u wr => ∃ i : Nat, i + k = vh1.length ∧ u = .int .i64 ((i : Nat) : Int) ∧ Chg w7 wr Nothing)
  case atStart => exact ⟨0, by simp, rfl, Chg.refl _ _⟩
  case round =>
    obtain ⟨i, hi, rfl, hc⟩ := hrel
    have XC := Lib.hid hc
    obtain ⟨wA, rfl⟩ : ∃ wA, wA = wr := ⟨_, rfl⟩
    clear hc
    by_cases hlt : i < vh1.length
    · have hd : decide (i < vh1.length) = true := by simpa using hlt
      have hd2 : decide ((i : Int) < (vh1.length : Int)) = true := decide_eq_true (by omega)
      have hni : (i : Int) < (vh1.length : Int) := by omega
      obtain ⟨x, hx⟩ : ∃ x, vh1[i]? = some x := ⟨_, List.getElem?_eq_getElem hlt⟩
      obtain ⟨y, hy⟩ := same_at MM.out hx
      obtain ⟨b1, o1, ha1, g1⟩ := seven_at X1.out.sees hx
      obtain ⟨b2, o2, ha2, g2⟩ := seven_at X2.out.sees hy
      obtain ⟨m, VO⟩ := OKS.out x.1 (by rw [← E1.out]; exact List.mem_map.2 ⟨x, List.mem_of_getElem? hx, rfl⟩)
      have XI := Lib.hid ((X1.out.all x (List.mem_of_getElem? hx)).quiet XC.out)
      have YI := Lib.hid ((X2.out.all _ (List.mem_of_getElem? hy)).quiet XC.out)
      obtain ⟨v, ao, co, ar, cr, aw, cw⟩ := x
      obtain ⟨bo, do_, br, dr, bw, dw⟩ := y
      dsimp only at g1 g2 VO
      have VOK := Lib.hid VO
      have hwi : IntKind.i64.wrap ((i : Int) + 1) = ((i + 1 : Nat) : Int) := (IntWalk.i64_in ((i : Int) + 1) (by have := HVL.out; omega)).trans (by omega)
      have SK := Lib.hid (show ∀ W, Chg wA W Nothing → (W.cell? ⟨b1, o1 + i * 7, none⟩ = some (.int .i64 v.how.1) ∧ W.cell? ⟨b1, o1 + i * 7 + 1, none⟩ = some (.int .i64 v.how.2.1) ∧ W.cell? ⟨b1, o1 + i * 7 + 2, none⟩ = some (.int .i64 v.how.2.2) ∧ W.cell? ⟨b1, o1 + i * 7 + 3, none⟩ = some (.slice ao v.out.length co) ∧ W.cell? ⟨b1, o1 + i * 7 + 4, none⟩ = some (.slice ar v.reads.length cr) ∧ W.cell? ⟨b1, o1 + i * 7 + 5, none⟩ = some (.slice aw v.buf.length cw) ∧ W.cell? ⟨b1, o1 + i * 7 + 6, none⟩ = some (.int .i64 (v.used : Int)) ∧ W.cell? ⟨b2, o2 + i * 7, none⟩ = some (.int .i64 v.how.1) ∧ W.cell? ⟨b2, o2 + i * 7 + 1, none⟩ = some (.int .i64 v.how.2.1) ∧ W.cell? ⟨b2, o2 + i * 7 + 2, none⟩ = some (.int .i64 v.how.2.2) ∧ W.cell? ⟨b2, o2 + i * 7 + 3, none⟩ = some (.slice bo v.out.length do_) ∧ W.cell? ⟨b2, o2 + i * 7 + 4, none⟩ = some (.slice br v.reads.length dr) ∧ W.cell? ⟨b2, o2 + i * 7 + 5, none⟩ = some (.slice bw v.buf.length dw) ∧ W.cell? ⟨b2, o2 + i * 7 + 6, none⟩ = some (.int .i64 (v.used : Int))) from fun W hW => by
        have hW2 := XC.out.trans hW (fun _ _ h => h)
        exact ⟨hW2.cell (g1 0 _ rfl) id, hW2.cell (g1 1 _ rfl) id, hW2.cell (g1 2 _ rfl) id, hW2.cell (g1 3 _ rfl) id, hW2.cell (g1 4 _ rfl) id, hW2.cell (g1 5 _ rfl) id, hW2.cell (g1 6 _ rfl) id, hW2.cell (g2 0 _ rfl) id, hW2.cell (g2 1 _ rfl) id, hW2.cell (g2 2 _ rfl) id, hW2.cell (g2 3 _ rfl) id, hW2.cell (g2 4 _ rfl) id, hW2.cell (g2 5 _ rfl) id, hW2.cell (g2 6 _ rfl) id⟩)
      clear hx hy g1 g2 VO
      subst ha1 ha2
      go_wp2_with fail
      refine beginL (fun W => W.cell? ⟨b1, o1 + i * 7, none⟩ = some (.int .i64 v.how.1) ∧ W.cell? ⟨b1, o1 + i * 7 + 1, none⟩ = some (.int .i64 v.how.2.1) ∧ W.cell? ⟨b1, o1 + i * 7 + 2, none⟩ = some (.int .i64 v.how.2.2) ∧ W.cell? ⟨b1, o1 + i * 7 + 3, none⟩ = some (.slice ao v.out.length co) ∧ W.cell? ⟨b1, o1 + i * 7 + 4, none⟩ = some (.slice ar v.reads.length cr) ∧ W.cell? ⟨b1, o1 + i * 7 + 5, none⟩ = some (.slice aw v.buf.length cw) ∧ W.cell? ⟨b1, o1 + i * 7 + 6, none⟩ = some (.int .i64 (v.used : Int)) ∧ W.cell? ⟨b2, o2 + i * 7, none⟩ = some (.int .i64 v.how.1) ∧ W.cell? ⟨b2, o2 + i * 7 + 1, none⟩ = some (.int .i64 v.how.2.1) ∧ W.cell? ⟨b2, o2 + i * 7 + 2, none⟩ = some (.int .i64 v.how.2.2) ∧ W.cell? ⟨b2, o2 + i * 7 + 3, none⟩ = some (.slice bo v.out.length do_) ∧ W.cell? ⟨b2, o2 + i * 7 + 4, none⟩ = some (.slice br v.reads.length dr) ∧ W.cell? ⟨b2, o2 + i * 7 + 5, none⟩ = some (.slice bw v.buf.length dw) ∧ W.cell? ⟨b2, o2 + i * 7 + 6, none⟩ = some (.int .i64 (v.used : Int))) 10 (by kernel_rfl) (SK.out _ ((Chg.refl wA Nothing).drew)) (fun hHeld => ?_)
      refine takeL 0 2 (v := ?_) rfl (by kernel_rfl) (fun _ _ _ h => h) (by rfl) (by assumption) ?_ ?_
      rotate_left
      · (intro w hSw; (try dsimp only at hSw); go_simp; try with_reducible rfl)
      try simp only [Act.put, List.setIfInBounds_toArray, List.set_cons_zero, List.set_cons_succ]
      refine takeL 1 2 (v := ?_) rfl (by kernel_rfl) (fun _ _ _ h => h) (by rfl) (by assumption) ?_ ?_
      rotate_left
      · (intro w hSw; (try dsimp only at hSw); go_simp; try with_reducible rfl)
      try simp only [Act.put, List.setIfInBounds_toArray, List.set_cons_zero, List.set_cons_succ]
      refine takeL 2 2 (v := ?_) rfl (by kernel_rfl) (fun _ _ _ h => h) (by rfl) (by assumption) ?_ ?_
      rotate_left
      · (intro w hSw; (try dsimp only at hSw); go_simp; try with_reducible rfl)
      try simp only [Act.put, List.setIfInBounds_toArray, List.set_cons_zero, List.set_cons_succ]
      refine takeL 3 2 (v := ?_) rfl (by kernel_rfl) (fun _ _ _ h => h) (by rfl) (by assumption) ?_ ?_
      rotate_left
      · (intro w hSw; (try dsimp only at hSw); go_simp; try with_reducible rfl)
      try simp only [Act.put, List.setIfInBounds_toArray, List.set_cons_zero, List.set_cons_succ]
      refine takeL 4 2 (v := ?_) rfl (by kernel_rfl) (fun _ _ _ h => h) (by rfl) (by assumption) ?_ ?_
      rotate_left
      · (intro w hSw; (try dsimp only at hSw); go_simp; try with_reducible rfl)
      try simp only [Act.put, List.setIfInBounds_toArray, List.set_cons_zero, List.set_cons_succ]
      refine takeL 5 2 (v := ?_) rfl (by kernel_rfl) (fun _ _ _ h => h) (by rfl) (by assumption) ?_ ?_
      rotate_left
      · (intro w hSw; (try dsimp only at hSw); go_simp; try with_reducible rfl)
      try simp only [Act.put, List.setIfInBounds_toArray, List.set_cons_zero, List.set_cons_succ]
      refine takeL 6 2 (v := ?_) rfl (by kernel_rfl) (fun _ _ _ h => h) (by rfl) (by assumption) ?_ ?_
      rotate_left
      · (intro w hSw; (try dsimp only at hSw); go_simp; try with_reducible rfl)
      try simp only [Act.put, List.setIfInBounds_toArray, List.set_cons_zero, List.set_cons_succ]
      refine takeL 7 2 (v := ?_) rfl (by kernel_rfl) (fun _ _ _ h => h) (by rfl) (by assumption) ?_ ?_
      rotate_left
      · (intro w hSw; (try dsimp only at hSw); go_simp; try with_reducible rfl)
      try simp only [Act.put, List.setIfInBounds_toArray, List.set_cons_zero, List.set_cons_succ]
      refine oneL 8 rfl (by kernel_rfl) (by rfl) (fun K hK => ?_)
      go_simp
      go_at_call 42
      refine (result09_true v.how (v.used : Int) v.out v.reads v.buf ao ar aw bo br bw co cr cw do_ dr dw _ (XI.out.out.chg (Chg.refl wA Nothing).drew) (XI.out.reads.chg (Chg.refl wA Nothing).drew) (XI.out.buf.chg (Chg.refl wA Nothing).drew) (YI.out.out.chg (Chg.refl wA Nothing).drew) (YI.out.reads.chg (Chg.refl wA Nothing).drew) (YI.out.buf.chg (Chg.refl wA Nothing).drew) VOK.out.out VOK.out.reads VOK.out.buf).mono ?_
      rintro e w9 ⟨rfl, hc⟩
      have D9 := Lib.hid (show Chg wA w9 Nothing from ((Chg.refl wA Nothing).drew).trans hc (fun _ _ h => h))
      clear hc
      go_wp2_with fail
      refine hK.out _ _ (SK.out _ D9.out) (fun hHeld => ?_)
      clear hK K
      try simp only [Act.put, List.setIfInBounds_toArray, List.set_cons_zero, List.set_cons_succ]
      refine takeL 9 2 (v := ?_) rfl (by kernel_rfl) (fun _ _ _ h => h) (by rfl) (by assumption) ?_ ?_
      rotate_left
      · (intro w hSw; (try dsimp only at hSw); go_simp; try with_reducible rfl)
      try simp only [Act.put, List.setIfInBounds_toArray, List.set_cons_zero, List.set_cons_succ]
      refine doneL (by kernel_rfl) ?_ _
      go_wp2_with fail
      go_roundg (gk - 1)
      case measure => omega
      case rel => exact ⟨i + 1, by omega, by first | rfl | go_num, XC.out.trans D9.out (fun _ _ h => h)⟩
    · have hd : decide (i < vh1.length) = false := by simpa using hlt
      have hd2 : decide ((i : Int) < (vh1.length : Int)) = false := decide_eq_false (by omega)
      go_wp2_with fail
      go_ret
      exact ⟨rfl, CC.out.trans XC.out (fun _ _ h => h)⟩
end Go.Proofs.YthgllaomafhdkaaGreat
