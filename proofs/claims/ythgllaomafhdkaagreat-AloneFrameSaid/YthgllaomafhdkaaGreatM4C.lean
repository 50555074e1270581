/- AloneFrame: the walk. -/
import Derived.Test.YthgllaomafhdkaaGreatM4B
namespace Go.Proofs.YthgllaomafhdkaaGreat
open Go Go.RowKit
set_option maxRecDepth 100000
set_option maxHeartbeats 1000000
set_option linter.unusedVariables false
set_option linter.unusedSimpArgs false

theorem numbers09_one (b c x : Nat) (w : World) (hx : w.cell? ⟨b, 0, none⟩ = some (fl x)) :
    Calls Tryz.prog 39 #[.slice (some ⟨b, 0, none⟩) 1 c] w fun e w' => ∃ g c', e = .returned (.slice (some ⟨g, 0, none⟩) 1 c') ∧ w'.cell? ⟨g, 0, none⟩ = some (fl (fixB x)) ∧ Chg w w' Nothing := by
  have hc : ∀ j u, ([x].map fl)[j]? = some u → w.cell? ((⟨b, 0, none⟩ : Addr).add j) = some u := by
    intro j u hu
    match j, hu with
    | 0, hu => simp at hu; subst hu; exact hx
  have HC := Lib.hid hc
  clear hc hx
  go_enter Tryz.func39, Tryz.ntmps39
  go_wp2_with (at_builtin; refine append_any rfl _ _ 27 33 rfl (.float .f64 0) 1 8 Tryz.underlying27 (by kernel_rfl) rfl (by decide) _ 0 [] rfl (World.ownsRow_nil _ _ _ _) ⟨b, 0, none⟩ 1 c rfl ([x].map fl) (by rfl) ?c1 (fl_one _) ?c3 ?c4 ?c5)
  case c1 => exact fun j u hu => HC.out j u hu
  case c3 => unfold maxLen; omega
  case c4 => omega
  case c5 =>
    intro v w2 hown2 hg2 hgg
    obtain ⟨g, cap, rfl⟩ := (ownsRow_shape hown2).2 (by decide)
    (try simp only [Nat.zero_add, List.nil_append] at hown2)
    have hgl : w.heap.size ≤ g := by rcases hgg g rfl with h | h; simp [Value.ownBlock] at h; omega
    have g0 : w2.cell? ⟨g, 0, none⟩ = some (fl x) := by
      have := hown2.cells (g := g) rfl 0 (fl x) rfl
      rwa [Addr.add_lit] at this
    have f0 := hown2.frozenAt 0
    have C2 := Lib.hid ((Chg.refl w Nothing).grown hg2 (by intro k hk; simp [Value.ownBlock] at hk))
    have GL := Lib.hid hgl
    clear hown2 hg2 hgg hgl
    go_wp2_with fail
    go_loopg [9] 1 (fun k i wr => ∃ (n y : Nat), n + k = 1 ∧ i = .int .i64 (n : Nat) ∧ wr.cell? ⟨g, 0, none⟩ = some (fl y) ∧ wr.frozen? ⟨g, 0, none⟩ = false ∧ Chg w wr Nothing ∧ (n = 0 → y = x) ∧ (n = 1 → y = fixB x))
    case atStart => exact ⟨0, x, rfl, rfl, g0, f0, C2.out, fun _ => rfl, fun h => by cases h⟩
    case round =>
      clear g0 f0
      obtain ⟨n, y, hn, rfl, y0, f0, hcw, h0, h1⟩ := hrel
      have CW := Lib.hid hcw
      have HN := Lib.hid hn
      clear hcw
      by_cases hn0 : n = 0
      · subst hn0
        obtain rfl := h0 rfl
        have HX := Lib.hid (show fixB y = if nanB y then 9221120237041090560 else y from rfl)
        clear h0 h1
        by_cases hna : nanB y = true
        · have hnn : (FloatKind.f64.format.order y y != some .eq) = true := hna
          rw [if_pos hna] at HX
          clear hna
          go_wp2_with fail
          go_quiet (fail)
          go_wp2_with fail
          go_roundg (gk - 1)
          case measure => have := HN.out; omega
          case rel => exact ⟨1, 9221120237041090560, by have := HN.out; omega, by go_num, by simp [go_sem, y0], by simp [go_sem, f0], (CW.out.drewN _).setCell (.inl GL.out) _, fun h => (by cases h), fun _ => HX.out.symm⟩
        · have hnn : (FloatKind.f64.format.order y y != some .eq) = false := by simpa [nanB] using hna
          rw [if_neg hna] at HX
          clear hna
          go_wp2_with fail
          go_quiet (fail)
          go_wp2_with fail
          go_roundg (gk - 1)
          case measure => have := HN.out; omega
          case rel => exact ⟨1, y, by have := HN.out; omega, by go_num, y0, f0, CW.out.drewN _, fun h => (by cases h), fun _ => HX.out.symm⟩
      · obtain rfl : n = 1 := by omega
        obtain rfl := h1 rfl
        have Y0 := Lib.hid y0
        clear h0 h1 hn0
        go_wp2_with fail
        go_ret
        exact ⟨g, cap, rfl, Y0.out, CW.out⟩
theorem sees_one {w : World} {b o : Nat} {v : Value} (h : w.cell? ⟨b, o, none⟩ = some v) : Sees w (some ⟨b, o, none⟩) [v] :=
  .inr ⟨b, o, rfl, fun j u hu => by
    match j, hu with
    | 0, hu => simp at hu; subst hu; exact h⟩
theorem turn_in (cell : Int) (n : Nat) (h : 0 < n) : (-(n : Int) < cell.tmod n ∧ cell.tmod n < n) ∧ ∃ j : Nat, j < n ∧ (cell.tmod n + n).tmod n = j := by
  have h1 : cell.tmod n < n := Int.tmod_lt_of_pos cell (by omega)
  have h2 : -(n : Int) < cell.tmod n := Int.lt_tmod_of_pos cell (by omega)
  refine ⟨⟨h2, h1⟩, ((cell.tmod n + n) % n).toNat, ?_, ?_⟩
  · have h3 := Int.emod_lt_of_pos (cell.tmod n + n) (b := (n : Int)) (by omega)
    have h4 := Int.emod_nonneg (cell.tmod n + n) (b := (n : Int)) (by omega)
    omega
  · rw [Int.tmod_eq_emod_of_nonneg (by omega)]
    have h4 := Int.emod_nonneg (cell.tmod n + n) (b := (n : Int)) (by omega)
    omega
set_option maxRecDepth 100000 in
set_option maxHeartbeats 8000000 in
theorem frame_walk (c t f r : Int) (tag : Int) (ac : Option Addr) (cc : Nat) (code : List Ins) (aa : Option Addr) (na : Nat) (args : List Nat) (af : Option Addr) (nf : Nat) (start : List Nat) (cell : Int) (x : Nat) (w : World)
    (hb : code.length * 24 ≤ 140737488355328) (hs : Sees w ac (insV code)) (ha : Sees w aa (args.map fl)) (hf : Sees w af (start.map fl)) (hfl : start.length ≤ 9223372036854775807)
    (hx : ∀ i ∈ code, i.2.2 < 18446744073709551616) (hax : ∀ y ∈ args, y < 18446744073709551616) (hfx : ∀ y ∈ start, y < 18446744073709551616) (hxx : x < 18446744073709551616) :
    Calls Tryz.prog 11 #[.agg #[.int .i64 c, .int .i64 t, .int .i64 f, .int .i64 r], .agg #[.int .i64 tag, .slice ac code.length cc], .slice aa args.length na, .slice af start.length nf, .int .i64 cell, fl x] w fun e w' => e = .returned (.bool true) ∧ Chg w w' Nothing := by
  have HB := Lib.hid hb
  have HS := Lib.hid hs
  have HA := Lib.hid ha
  have HF := Lib.hid hf
  have HFL := Lib.hid hfl
  have HX := Lib.hid hx
  have HAX := Lib.hid hax
  have HFX := Lib.hid hfx
  have HXX := Lib.hid hxx
  clear hb hs ha hf hfl hx hax hfx hxx
  go_enter Tryz.func11, Tryz.ntmps11
  go_wp2_with fail
  with_reducible refine (live09_any _).mono ?_
  rintro e w1 ⟨rfl, hc1⟩
  have C1 : Hid (Chg ((w.alloc (cfgBx c t f r)).alloc (prgBx tag ac code.length cc)) w1 Nothing) := Lib.hid hc1
  clear hc1
  go_wp2_with fail
  by_cases hl : 1 ≤ start.length ∧ start.length ≤ 256
  case neg =>
    have HL := Lib.hid (show start.length < 1 ∨ 256 < start.length by omega)
    clear hl
    with_reducible refine (given09_bad af start.length nf _ HL.out HFL.out).mono ?_
    rintro e w2 ⟨rfl, rfl⟩
    go_wp2_with fail
    go_ret
    exact ⟨rfl, law_old C1.out⟩
  have H1 := Lib.hid hl.1
  have H2 := Lib.hid hl.2
  clear hl
  with_reducible refine (given09_good af nf start _ (HF.out.chg (law_old C1.out)) H1.out H2.out).mono ?_
  rintro e w2 ⟨p, F, rfl, hL⟩
  have R2 := Lib.hid (hL.under C1.out)
  clear hL C1
  have NL := Lib.hid (show (start.map fixB).length = start.length from List.length_map ..)
  have NX := Lib.hid (show ∀ y ∈ start.map fixB, y < 18446744073709551616 from fun y hy => by obtain ⟨z, hz, rfl⟩ := List.mem_map.1 hy; exact fixB_lt (HFX.out z hz))
  generalize start.map fixB = fs at R2 NL NX
  have N2 := Lib.hid (show fs.length ≤ 256 by rw [NL.out]; exact H2.out)
  obtain ⟨i0, i1, i2, i3, j0, j1, z0, z1⟩ := law_cells R2.out.chg
  have hnz : ¬ (start.length : Int) = 0 := by have := H1.out; omega
  have hnz2 : ¬ start.length = 0 := by have := H1.out; omega
  go_wp2_with fail
  with_reducible refine (T6.clone_any p F fs _ R2.out.st N2.out).mono ?_
  rintro e w3 ⟨q, rfl, hq, hst, hc⟩
  obtain ⟨HT1, j, hjn, hje⟩ := turn_in cell start.length (by have := H1.out; omega)
  have hw : wrap64 (cell.tmod (start.length : Int) + (start.length : Int)) = cell.tmod (start.length : Int) + (start.length : Int) := by
    rw [IntWalk.wrap64_in _ ⟨by have := H2.out; omega, by have := H2.out; omega⟩]
  rw [hw, hje]
  obtain ⟨G, R3⟩ : ∃ G, Hid (LW2 ((w.alloc (cfgBx c t f r)).alloc (prgBx tag ac code.length cc)) w3 p F fs q G fs) := ⟨_, Lib.hid (R2.out.two hst hc)⟩
  have HJ := Lib.hid (show j < fs.length by rw [NL.out]; exact hjn)
  clear hq hst hc HT1 hw hje hjn hnz hnz2 i0 i1 i2 i3 j0 j1 z0 z1 R2
  go_wp2_with fail
  with_reducible refine (T6.set_any q G fs (j : Int) x _ R3.out.b.st N2.out).mono ?_
  rintro e w4 ⟨rfl, hst, hc⟩
  have hb : hasB (j : Int) fs.length = true := hasB_iff.2 ⟨by omega, by have := HJ.out; omega⟩
  have hse : setE fs (j : Int) = 0 := if_pos hb
  have hsl : setL fs (j : Int) x = fs.set j (fixB x) := by unfold setL; rw [if_pos hb, Int.toNat_natCast]
  rw [hse]
  rw [hsl] at hst
  have R4 := Lib.hid (R3.out.nextB hst hc)
  have G4 := Lib.hid (show ∀ k, G k → k < w4.heap.size from hst.lt)
  clear hst hc hb hse hsl R3
  obtain ⟨i0, i1, i2, i3, j0, j1, z0, z1⟩ := law_cells R4.out.a.chg
  go_wp2_with fail
  by_cases hok : RunOk c t f r args.length fs.length
  case neg =>
    have NOK := Lib.hid hok
    clear hok
    with_reducible refine (run_bad c t f r tag ac code.length cc aa args.length na p F fs _ R4.out.a.st NOK.out).mono ?_
    rintro e w5 ⟨rfl, hc⟩
    rw [resA_lit]
    have R5 := Lib.hid (R4.out.quiet hc)
    clear hc i0 i1 i2 i3 j0 j1 z0 z1 R4
    go_wp2_with fail
    have R6 := Lib.hid (show LW2 ((w.alloc (cfgBx c t f r)).alloc (prgBx tag ac code.length cc)) ((w5.alloc (.cells #[.int .i64 0, .int .i64 0, .int .i64 0, .slice none 0 0, .slice none 0 0, .slice none 0 0, .int .i64 0] 69)).alloc (.cells #[.slice none 0 0, .slice none 0 0] 45)) p F fs q G (fs.set j (fixB x)) from (R5.out.box _).box _)
    have T6 := Lib.hid (show ((w5.alloc (.cells #[.int .i64 0, .int .i64 0, .int .i64 0, .slice none 0 0, .slice none 0 0, .slice none 0 0, .int .i64 0] 69)).alloc (.cells #[.slice none 0 0, .slice none 0 0] 45)).heap[w5.heap.size]? = some (resO (0, 0, 0) (none, 0, 0) (none, 0, 0) (none, 0, 0) 0) from (Below.heap_alloc _ _ _ (by simp)).trans (heap_alloc_new w5 _))
    have BL := Lib.hid (show ((w5.alloc (.cells #[.int .i64 0, .int .i64 0, .int .i64 0, .slice none 0 0, .slice none 0 0, .slice none 0 0, .int .i64 0] 69)).alloc (.cells #[.slice none 0 0, .slice none 0 0] 45)).heap[w5.heap.size + 1]? = some (.cells #[.slice none 0 0, .slice none 0 0] 45 (0, 0)) from step_blk)
    clear R5
    generalize ((w5.alloc (.cells #[.int .i64 0, .int .i64 0, .int .i64 0, .slice none 0 0, .slice none 0 0, .slice none 0 0, .int .i64 0] 69)).alloc (.cells #[.slice none 0 0, .slice none 0 0] 45)) = wB at *
    go_loopg [74] 2 (fun k i wr => ∃ (n : Nat), n + k = 2 ∧ i = .int .i64 (n : Nat) ∧ Chg wB wr Nothing)
    case atStart => exact ⟨0, rfl, rfl, Chg.refl _ _⟩
    case round =>
      obtain ⟨n, hn, rfl, hcb⟩ := hrel
      have GJ := Lib.hid hn
      have CB := Lib.hid hcb
      obtain ⟨gj, hgj⟩ : ∃ gj, gj = gk := ⟨_, rfl⟩
      subst hgj
      clear hcb
      by_cases hn2 : n < 2
      · have kl : wr.cell? ⟨w5.heap.size + 1, n, none⟩ = some (.slice none 0 0) := by
          rcases (show n = 0 ∨ n = 1 by omega) with e | e
          · subst e; exact CB.out.cell (blk_cell BL.out 0) id
          · subst e; exact CB.out.cell (blk_cell BL.out 1) id
        have hni : (n : Int) < 2 := by omega
        have hd : decide (n < 2) = true := decide_eq_true hn2
        have HN2 := Lib.hid hn2
        go_wp2_with fail
        go_loopg [80] 0 (fun k i wq => i = .int .i64 0 ∧ Chg wB wq Nothing)
        case atStart => exact ⟨rfl, CB.out⟩
        case round =>
          obtain ⟨rfl, hcq⟩ := hrel
          have CQ := Lib.hid hcq
          clear hcq kl
          go_wp2_with fail
          go_roundg (gj - 1)
          case measure => have := GJ.out; have := HN2.out; omega
          case rel => exact ⟨n + 1, by have := GJ.out; have := HN2.out; omega, by go_num, CQ.out⟩
      obtain rfl : n = 2 := by omega
      have R7 := Lib.hid (R6.out.quiet CB.out)
      have T7 := Lib.hid ((CB.out.block _ (blk_lt T6.out) id).trans T6.out)
      obtain ⟨i0, i1, i2, i3, j0, j1, z0, z1⟩ := law_cells R7.out.a.chg
      clear R6 T6 BL CB hn hn2
      go_wp2_with fail
      refine (run_bad c t f r tag ac code.length cc aa args.length na q G (fs.set j (fixB x)) _ R7.out.b.st (by rw [List.length_set]; exact NOK.out)).mono ?_
      rintro e w8 ⟨rfl, hc2⟩
      rw [resA_lit]
      have R8 := Lib.hid (R7.out.quiet hc2)
      have T8 := Lib.hid ((hc2.block _ (blk_lt T7.out) id).trans T7.out)
      clear hc2 i0 i1 i2 i3 j0 j1 z0 z1 R7 T7
      have k0 : w8.cell? ⟨w5.heap.size, 0, none⟩ = some (.int .i64 0) := blk_cell T8.out 0
      have k1 : w8.cell? ⟨w5.heap.size, 1, none⟩ = some (.int .i64 0) := blk_cell T8.out 1
      have k2 : w8.cell? ⟨w5.heap.size, 2, none⟩ = some (.int .i64 0) := blk_cell T8.out 2
      have k3 : w8.cell? ⟨w5.heap.size, 3, none⟩ = some (.slice none 0 0) := blk_cell T8.out 3
      have k4 : w8.cell? ⟨w5.heap.size, 4, none⟩ = some (.slice none 0 0) := blk_cell T8.out 4
      have k5 : w8.cell? ⟨w5.heap.size, 5, none⟩ = some (.slice none 0 0) := blk_cell T8.out 5
      have k6 : w8.cell? ⟨w5.heap.size, 6, none⟩ = some (.int .i64 0) := blk_cell T8.out 6
      have kz := blk_lt T8.out
      go_wp2_with fail
      refine (result09_true (0, 0, 0) 0 [] [] [] none none none none none none 0 0 0 0 0 0 _ (.inl rfl) (.inl rfl) (.inl rfl) (.inl rfl) (.inl rfl) (.inl rfl) (by decide) (by decide) (by decide)).mono ?_
      rintro e w9 ⟨rfl, hc9⟩
      have R9 := Lib.hid ((R8.out.box (resO (0, 0, 0) (none, 0, 0) (none, 0, 0) (none, 0, 0) 0)).quiet hc9)
      have ZW := Lib.hid (law_old R9.out.a.chg).size
      clear hc9 k0 k1 k2 k3 k4 k5 k6 kz R8 T8
      go_wp2_with fail
      with_reducible refine (T6.all_any p F fs _ R9.out.a.st N2.out).mono ?_
      rintro e w10 ⟨a8, c8, rfl, ho, hc⟩
      have R10 := Lib.hid (R9.out.quiet hc)
      have S10 := Lib.hid ho
      have SL := Lib.hid (show ∀ k, (Value.slice a8 fs.length c8).ownBlock = some k → k < w10.heap.size from fun k hk => (ho.lt k hk).2)
      clear ho hc R9
      go_wp2_with fail
      with_reducible refine (T6.all_any q G (fs.set j (fixB x)) _ R10.out.b.st (by rw [List.length_set]; exact N2.out)).mono ?_
      rintro e w11 ⟨a9, c9, rfl, ho, hc⟩
      rw [List.length_set] at ho ⊢
      have R11 := Lib.hid (R10.out.quiet hc)
      have S11 := Lib.hid (row_chg S10.out hc (fun _ _ h => h))
      have T11 := Lib.hid ho
      have Z11 := Lib.hid hc.size
      clear ho hc R10 S10
      have hjl : j < fs.length := HJ.out
      have hl0 : 0 < fs.length := by omega
      have hl2 : fs.length ≤ 256 := N2.out
      obtain ⟨ga, ca, ea⟩ := (ownsRow_shape S11.out).2 hl0
      obtain ⟨gb, cb, eb⟩ := (ownsRow_shape T11.out).2 hl0
      injection ea with ea1 ea2 ea3
      injection eb with eb1 eb2 eb3
      subst ea1 ea3 eb1 eb3
      have hcb := (own_cap T11.out _ _ rfl).1
      have hgb := T11.out.lt gb rfl
      have hga := S11.out.lt ga rfl
      have hgl := SL.out ga rfl
      have hne : ¬ ga = gb := by omega
      have kb : w11.cell? ⟨gb, j, none⟩ = some (fl (fixB x)) := by
        have := T11.out.cells (g := gb) rfl j (fl (fixB x)) (by rw [List.getElem?_map, List.getElem?_set, if_pos rfl, if_pos hjl]; rfl)
        rwa [Addr.add_lit, Nat.zero_add] at this
      obtain ⟨y, hy⟩ : ∃ y, fs[j]? = some y := ⟨_, List.getElem?_eq_getElem hjl⟩
      have ka : w11.cell? ⟨ga, j, none⟩ = some (fl y) := by
        have := S11.out.cells (g := ga) rfl j (fl y) (by rw [List.getElem?_map, hy]; rfl)
        rwa [Addr.add_lit, Nat.zero_add] at this
      have KB := Lib.hid kb
      have KA := Lib.hid ka
      have kz : gb < w11.heap.size := hgb.2
      have kz1 : ¬ gb = w11.heap.size := by omega
      have hq1 : ((fs.length : Int) != (fs.length : Int)) = false := by simp
      have hj1 : (j : Int) < (fs.length : Int) := by omega
      have hj2 : j + 1 ≤ c9 := by omega
      have hj3 : (j : Int) + 1 ≤ (c9 : Int) := by omega
      obtain ⟨j', hj'⟩ : ∃ j', j' = j + 1 := ⟨_, rfl⟩
      have hjb : (j : Int) + 1 = (j' : Int) := by omega
      have hjc : (-9223372036854775808 : Int) ≤ (j : Int) + 1 ∧ (j : Int) + 1 ≤ 9223372036854775807 := by omega
      have hj4 : j ≤ j' := by omega
      have hj5 : (j : Int) ≤ (j' : Int) := by omega
      have hj6 : j' ≤ c9 := by omega
      have hj7 : (j' : Int) ≤ (c9 : Int) := by omega
      have hj8 : j' - j = 1 := by omega
      have hj0 : (0 : Int) ≤ (j : Int) := by omega
      have hw1 : wrap64 ((j : Int) + 1) = (j' : Int) := (IntWalk.wrap64_in ((j : Int) + 1) hjc).trans hjb
      have hw2 : IntKind.i64.wrap ((j : Int) + 1) = (j' : Int) := (IntWalk.i64_in ((j : Int) + 1) hjc).trans hjb
      clear hj' hj2 hj3 hjb hjc
      have HGE := Lib.hid (And.intro hgl (And.intro hgb hga))
      have HJL := Lib.hid (And.intro hjl (And.intro hl0 hl2))
      clear hcb hgb hga hgl hy ka
      go_upto_region 25 with fail
      go_region_held3 (fun w' => w'.cell? ⟨gb, j, none⟩ = some (fl (fixB x))) (go_keep)
        (first
          | (go_at_call 39; refine (numbers09_one _ _ x _ (by first | exact blk_cell (heap_alloc_new w11 _) 0)).mono ?_; rintro e wn ⟨g, c', rfl, hx, hcn⟩; have cn : Chg w11 wn Nothing := Chg.trans (w1 := World.alloc w11 _) ((Chg.refl w11 Nothing).alloc _) ⟨hcn.os, hcn.tape, hcn.output, hcn.size, hcn.block⟩ (fun _ _ h => h); have kb2 := cn.cell kb id)
          | (go_at_call 43; refine (exact09_true _ _ _ _ [fixB x] _ (sees_one kb2) (sees_one hx) (by show (1 : Nat) ≤ 140737488355328; decide)).mono ?_; rintro e wm ⟨rfl, m, rfl⟩; have kb3 : (wn.drewN m).cell? ⟨gb, j, none⟩ = some (fl (fixB x)) := kb2))
      all_goals
        have c12 : Chg w11 (wn.drewN m) Nothing := cn.drewN m
        have R12 := Lib.hid (R11.out.quiet c12)
        have S12 := Lib.hid (row_chg S11.out c12 (fun _ _ h => h))
        have T12 := Lib.hid (row_chg T11.out c12 (fun _ _ h => h))
        have ka3 : (wn.drewN m).cell? ⟨ga, j, none⟩ = some (fl y) := c12.cell KA.out id
        have fa := S12.out.frozenAt j
        have ga1 := HGE.out.1
        have ga2 := HGE.out.2.2.1
        have zw := ZW.out
        have hl256 := HJL.out.2.2
        clear c12 cn kb2 hx R11 S11 T11 KA KB kb hcn
        generalize wn.drewN m = w12 at *
        have E := exact09_true (some ⟨ga, 0, none⟩) (some ⟨gb, 0, none⟩) c8 c9 (fs.set j (fixB x)) (w12.setCell ⟨ga, j, none⟩ (fl (fixB x))) (by
          have h := Sees.of_owns ((S12.out.stored j (fl (fixB x))).1)
          rwa [← List.map_set] at h) (Sees.of_owns (row_chg T12.out ((Chg.refl w12 (fun k => k = ga)).setCell (a := ⟨ga, j, none⟩) (.inr rfl) (fl (fixB x))) (fun k hk e => by omega))) (by rw [List.length_set]; omega)
        rw [List.length_set] at E
        have EE := Lib.hid E
        have FIN := Lib.hid (show Chg w (w12.setCell ⟨ga, j, none⟩ (fl (fixB x))) Nothing from (law_old R12.out.a.chg).setCell (.inl (by show w.heap.size ≤ ga; omega)) _)
        clear E R12 S12 T12 ga1 ga2 zw hl256
        go_wp2_with fail
        refine EE.out.mono ?_
        rintro e w13 ⟨rfl, m2, rfl⟩
        go_wp2_with fail
        go_ret
        exact ⟨rfl, FIN.out.drewN _⟩
  have OK := Lib.hid hok
  clear hok
  refine (run_good c t f r tag ac cc code aa na args p F fs _ R4.out.a.st OK.out HB.out (HS.out.chg (law_old R4.out.a.chg)) (HA.out.chg (law_old R4.out.a.chg)) HX.out HAX.out NX.out).mono ?_
  rintro e w5 ⟨s, ao, co, ar, cr, aw, cw, hs, hov, hfin, hbl, rfl, ho, hr, hw, hst, hc⟩
  obtain ⟨h1, h2, h3, hh⟩ : ∃ h1 h2 h3, s.how = (h1, h2, h3) := ⟨s.how.1, s.how.2.1, s.how.2.2, rfl⟩
  rw [hh, resA_lit]
  have R5 := Lib.hid (R4.out.nextA hst hc)
  have T5 := Lib.hid (Told.new hh ho hr hw (Nat.le_refl w4.heap.size) hc.size)
  have QS := Lib.hid hs
  have QB := Lib.hid hbl
  have QI := Lib.hid hov.inr
  have QC := Lib.hid (show s.cells = (fs.length : Int) from by rw [cells_fixd hov.fixd]; exact OK.out.2.1.symm)
  have LO := Lib.hid (show s.out.length ≤ 4096 by have := hfin.ok.outs; have := hfin.ok.used; have := hfin.ok.fuel; omega)
  have LR := Lib.hid (show s.reads.length ≤ 4096 by have := hfin.ok.rds; have := hfin.ok.used; have := hfin.ok.fuel; omega)
  clear hs hov hfin hbl hh ho hr hw hst hc i0 i1 i2 i3 j0 j1 z0 z1 R4
  go_wp2_with fail
  have R6 := Lib.hid (show LW2 ((w.alloc (cfgBx c t f r)).alloc (prgBx tag ac code.length cc)) ((w5.alloc (.cells #[.int .i64 h1, .int .i64 h2, .int .i64 h3, .slice ao s.out.length co, .slice ar s.reads.length cr, .slice aw s.buf.length cw, .int .i64 (s.used : Int)] 69)).alloc (.cells #[.slice ar s.reads.length cr, .slice aw s.buf.length cw] 45)) p F (afterL s fs) q G (fs.set j (fixB x)) from (R5.out.box _).box _)
  have T6 := Lib.hid (show Told ((w5.alloc (.cells #[.int .i64 h1, .int .i64 h2, .int .i64 h3, .slice ao s.out.length co, .slice ar s.reads.length cr, .slice aw s.buf.length cw, .int .i64 (s.used : Int)] 69)).alloc (.cells #[.slice ar s.reads.length cr, .slice aw s.buf.length cw] 45)) w4.heap.size w5.heap.size s h1 h2 h3 ao ar aw co cr cw from T5.out.quiet ((Chg.refl _ Nothing).alloc _))
  have BL := Lib.hid (show ((w5.alloc (.cells #[.int .i64 h1, .int .i64 h2, .int .i64 h3, .slice ao s.out.length co, .slice ar s.reads.length cr, .slice aw s.buf.length cw, .int .i64 (s.used : Int)] 69)).alloc (.cells #[.slice ar s.reads.length cr, .slice aw s.buf.length cw] 45)).heap[w5.heap.size + 1]? = some (.cells #[.slice ar s.reads.length cr, .slice aw s.buf.length cw] 45 (0, 0)) from step_blk)
  clear R5 T5
  generalize ((w5.alloc (.cells #[.int .i64 h1, .int .i64 h2, .int .i64 h3, .slice ao s.out.length co, .slice ar s.reads.length cr, .slice aw s.buf.length cw, .int .i64 (s.used : Int)] 69)).alloc (.cells #[.slice ar s.reads.length cr, .slice aw s.buf.length cw] 45)) = wB at *
  have TR := Lib.hid (row_tch T6.out.reads)
  have TW := Lib.hid (row_tch T6.out.writes)
  have CF := Lib.hid (law_old R6.out.a.chg)
  go_loopg [74] 2 (fun k i wr => ∃ (n : Nat), n + k = 2 ∧ i = .int .i64 (n : Nat) ∧ (1 ≤ n → ∀ t ∈ s.reads, t.1 ≠ (j : Int)) ∧ (2 ≤ n → ∀ t ∈ s.buf, t.1 ≠ (j : Int)) ∧ Chg wB wr Nothing)
  case atStart => exact ⟨0, rfl, rfl, fun h => by omega, fun h => by omega, Chg.refl _ _⟩
  case round =>
    obtain ⟨n, hn, rfl, hA, hBf, hcb⟩ := hrel
    have GJ := Lib.hid hn
    have AR := Lib.hid hA
    have AB := Lib.hid hBf
    have CB := Lib.hid hcb
    obtain ⟨gj, hgj⟩ : ∃ gj, gj = gk := ⟨_, rfl⟩
    subst hgj
    clear hA hBf hcb
    by_cases hn0 : n = 0
    · subst hn0
      have kl : wr.cell? ⟨w5.heap.size + 1, 0, none⟩ = some (.slice ar s.reads.length cr) := CB.out.cell (blk_cell BL.out 0) id
      go_wp2_with fail
      go_loopg [80] s.reads.length (fun k i wq => ∃ (m : Nat), m + k = s.reads.length ∧ i = .int .i64 (m : Nat) ∧ (∀ (i : Nat) (t : Int × Nat), i < m → s.reads[i]? = some t → t.1 ≠ (j : Int)) ∧ Chg wB wq Nothing)
      case atStart => exact ⟨0, by simp, rfl, fun i _ h => absurd h (Nat.not_lt_zero i), CB.out⟩
      case round =>
        obtain ⟨m, hm, rfl, hno, hcq⟩ := hrel
        have HM := Lib.hid hm
        have NO := Lib.hid hno
        have CQ := Lib.hid hcq
        clear hm hno hcq kl
        by_cases hlt : m < s.reads.length
        · have hd : decide (m < s.reads.length) = true := by simpa using hlt
          obtain ⟨ci, y, hy⟩ : ∃ ci y, s.reads[m]? = some (ci, y) := ⟨_, _, List.getElem?_eq_getElem hlt⟩
          obtain ⟨bb, oo, hab, x1, x2⟩ := TR.out m _ hy
          have y1 := CQ.out.cell x1 id
          have y2 := CQ.out.cell x2 id
          dsimp only at y1 y2
          have hb4 := LR.out
          have HY := Lib.hid hy
          have HLT := Lib.hid hlt
          subst hab
          clear x1 x2 hy
          by_cases hce : ci = (j : Int)
          · subst hce
            have hq : ((j : Int) == (j : Int)) = true := by simp
            go_wp2_with fail
            go_ret
            exact ⟨rfl, (CF.out.trans CQ.out (fun _ _ h => h)).alloc _⟩
          · have hq : (ci == (j : Int)) = false := beq_eq_false_iff_ne.2 hce
            have NN := Lib.hid (show ∀ (i : Nat) (t : Int × Nat), i < m + 1 → s.reads[i]? = some t → t.1 ≠ (j : Int) from fun i t hi ht => by
              by_cases e : i = m
              · subst e; rw [HY.out] at ht; injection ht with ht; subst ht; exact hce
              · exact NO.out i t (by omega) ht)
            clear hce
            go_wp2_with fail
            go_roundg (gk - 1)
            case measure => have := HM.out; omega
            case rel => exact ⟨m + 1, by have := HM.out; have := HLT.out; omega, by go_num, NN.out, CQ.out.alloc _⟩
        · have hd : decide (m < s.reads.length) = false := by simpa using hlt
          have ALL := Lib.hid (show ∀ t ∈ s.reads, t.1 ≠ (j : Int) from fun t ht => by
            obtain ⟨i, hi⟩ := List.mem_iff_getElem?.1 ht
            exact NO.out i t (by have := (List.getElem?_eq_some_iff.1 hi).1; omega) hi)
          go_wp2_with fail
          go_roundg (gj - 1)
          case measure => have := GJ.out; omega
          case rel => exact ⟨1, by have := GJ.out; omega, by go_num, fun _ => ALL.out, fun h => absurd h (by decide), CQ.out⟩
    by_cases hn1 : n = 1
    · subst hn1
      have kl : wr.cell? ⟨w5.heap.size + 1, 1, none⟩ = some (.slice aw s.buf.length cw) := CB.out.cell (blk_cell BL.out 1) id
      go_wp2_with fail
      go_loopg [80] s.buf.length (fun k i wq => ∃ (m : Nat), m + k = s.buf.length ∧ i = .int .i64 (m : Nat) ∧ (∀ (i : Nat) (t : Int × Nat), i < m → s.buf[i]? = some t → t.1 ≠ (j : Int)) ∧ Chg wB wq Nothing)
      case atStart => exact ⟨0, by simp, rfl, fun i _ h => absurd h (Nat.not_lt_zero i), CB.out⟩
      case round =>
        obtain ⟨m, hm, rfl, hno, hcq⟩ := hrel
        have HM := Lib.hid hm
        have NO := Lib.hid hno
        have CQ := Lib.hid hcq
        clear hm hno hcq kl
        by_cases hlt : m < s.buf.length
        · have hd : decide (m < s.buf.length) = true := by simpa using hlt
          obtain ⟨ci, y, hy⟩ : ∃ ci y, s.buf[m]? = some (ci, y) := ⟨_, _, List.getElem?_eq_getElem hlt⟩
          obtain ⟨bb, oo, hab, x1, x2⟩ := TW.out m _ hy
          have y1 := CQ.out.cell x1 id
          have y2 := CQ.out.cell x2 id
          dsimp only at y1 y2
          have hb4 := QB.out
          have HY := Lib.hid hy
          have HLT := Lib.hid hlt
          subst hab
          clear x1 x2 hy
          by_cases hce : ci = (j : Int)
          · subst hce
            have hq : ((j : Int) == (j : Int)) = true := by simp
            go_wp2_with fail
            go_ret
            exact ⟨rfl, (CF.out.trans CQ.out (fun _ _ h => h)).alloc _⟩
          · have hq : (ci == (j : Int)) = false := beq_eq_false_iff_ne.2 hce
            have NN := Lib.hid (show ∀ (i : Nat) (t : Int × Nat), i < m + 1 → s.buf[i]? = some t → t.1 ≠ (j : Int) from fun i t hi ht => by
              by_cases e : i = m
              · subst e; rw [HY.out] at ht; injection ht with ht; subst ht; exact hce
              · exact NO.out i t (by omega) ht)
            clear hce
            go_wp2_with fail
            go_roundg (gk - 1)
            case measure => have := HM.out; omega
            case rel => exact ⟨m + 1, by have := HM.out; have := HLT.out; omega, by go_num, NN.out, CQ.out.alloc _⟩
        · have hd : decide (m < s.buf.length) = false := by simpa using hlt
          have ALL := Lib.hid (show ∀ t ∈ s.buf, t.1 ≠ (j : Int) from fun t ht => by
            obtain ⟨i, hi⟩ := List.mem_iff_getElem?.1 ht
            exact NO.out i t (by have := (List.getElem?_eq_some_iff.1 hi).1; omega) hi)
          go_wp2_with fail
          go_roundg (gj - 1)
          case measure => have := GJ.out; omega
          case rel => exact ⟨2, by have := GJ.out; omega, by go_num, fun _ => AR.out (by decide), fun _ => ALL.out, CQ.out⟩
    obtain rfl : n = 2 := by omega
    have ALR := Lib.hid (AR.out (by decide))
    have ALB := Lib.hid (AB.out (by decide))
    have R7 := Lib.hid (R6.out.quiet CB.out)
    have T7 := Lib.hid (T6.out.quiet CB.out)
    obtain ⟨i0, i1, i2, i3, j0, j1, z0, z1⟩ := law_cells R7.out.a.chg
    clear R6 T6 BL TR TW CF AR AB CB hn hn0 hn1
    go_wp2_with fail
    have OK2 := Lib.hid (show RunOk c t f r args.length (fs.set j (fixB x)).length by rw [List.length_set]; exact OK.out)
    have NX2 := Lib.hid (show ∀ y ∈ fs.set j (fixB x), y < 18446744073709551616 from fun y hy => by
      rcases List.mem_or_eq_of_mem_set hy with hy | hy
      · exact NX.out y hy
      · rw [hy]; exact fixB_lt HXX.out)
    refine (run_good c t f r tag ac cc code aa na args q G (fs.set j (fixB x)) _ R7.out.b.st OK2.out HB.out (HS.out.chg (law_old R7.out.b.chg)) (HA.out.chg (law_old R7.out.b.chg)) HX.out HAX.out NX2.out).mono ?_
    rintro e w8 ⟨s2, ao2, co2, ar2, cr2, aw2, cw2, hs2, hov2, hfin2, hbl2, rfl, ho2, hr2, hw2, hst2, hc2⟩
    have e2 : s2 = s := by
      rw [hs2, QS.out]
      exact runP_frame (by rw [← QS.out]; exact ALR.out)
    clear hs2
    subst e2
    rw [after_set QI.out QC.out ALB.out] at hst2
    rw [T7.out.how, resA_lit]
    have R8 := Lib.hid (R7.out.nextB hst2 hc2)
    have T8 := Lib.hid (T7.out.chg hc2 (fun k hk hG => by have := G4.out k hG; omega))
    have OD := Lib.hid (Sees.of_owns ho2)
    have OE := Lib.hid (Sees.of_owns hr2)
    have OG := Lib.hid (Sees.of_owns hw2)
    clear hov2 hfin2 hbl2 ho2 hr2 hw2 hst2 hc2 i0 i1 i2 i3 j0 j1 z0 z1 R7 T7 QS ALR OK2 NX2
    obtain ⟨k0, k1, k2, k3, k4, k5, k6, kz⟩ := T8.out.cells
    go_wp2_with fail
    refine (result09_true (h1, h2, h3) (s2.used : Int) s2.out s2.reads s2.buf ao ar aw ao2 ar2 aw2 co cr cw co2 cr2 cw2 _ ((Sees.of_owns T8.out.out).chg ((Chg.refl _ Nothing).alloc _)) ((Sees.of_owns T8.out.reads).chg ((Chg.refl _ Nothing).alloc _)) ((Sees.of_owns T8.out.writes).chg ((Chg.refl _ Nothing).alloc _)) (OD.out.chg ((Chg.refl _ Nothing).alloc _)) (OE.out.chg ((Chg.refl _ Nothing).alloc _)) (OG.out.chg ((Chg.refl _ Nothing).alloc _)) LO.out LR.out (by have := QB.out; omega)).mono ?_
    rintro e w9 ⟨rfl, hc9⟩
    have R9 := Lib.hid ((R8.out.box (resO (h1, h2, h3) (ao2, s2.out.length, co2) (ar2, s2.reads.length, cr2) (aw2, s2.buf.length, cw2) (s2.used : Int))).quiet hc9)
    have AL := Lib.hid (show (afterL s2 fs).length = fs.length from after_len s2 fs)
    have ZW := Lib.hid (law_old R9.out.a.chg).size
    clear hc9 k0 k1 k2 k3 k4 k5 k6 kz R8 T8 OD OE OG
    go_wp2_with fail
    with_reducible refine (T6.all_any p F (afterL s2 fs) _ R9.out.a.st (by rw [AL.out]; exact N2.out)).mono ?_
    rintro e w10 ⟨a8, c8, rfl, ho, hc⟩
    have R10 := Lib.hid (R9.out.quiet hc)
    have S10 := Lib.hid ho
    have SL := Lib.hid (show ∀ k, (Value.slice a8 (afterL s2 fs).length c8).ownBlock = some k → k < w10.heap.size from fun k hk => (ho.lt k hk).2)
    clear ho hc R9
    go_wp2_with fail
    with_reducible refine (T6.all_any q G ((afterL s2 fs).set j (fixB x)) _ R10.out.b.st (by rw [List.length_set, AL.out]; exact N2.out)).mono ?_
    rintro e w11 ⟨a9, c9, rfl, ho, hc⟩
    rw [List.length_set] at ho ⊢
    have R11 := Lib.hid (R10.out.quiet hc)
    have S11 := Lib.hid (row_chg S10.out hc (fun _ _ h => h))
    have T11 := Lib.hid ho
    have Z11 := Lib.hid hc.size
    clear ho hc R10 S10
    have hjl : j < (afterL s2 fs).length := by rw [AL.out]; exact HJ.out
    have hl0 : 0 < (afterL s2 fs).length := by omega
    have hl2 : (afterL s2 fs).length ≤ 256 := by rw [AL.out]; exact N2.out
    obtain ⟨ga, ca, ea⟩ := (ownsRow_shape S11.out).2 hl0
    obtain ⟨gb, cb, eb⟩ := (ownsRow_shape T11.out).2 hl0
    injection ea with ea1 ea2 ea3
    injection eb with eb1 eb2 eb3
    subst ea1 ea3 eb1 eb3
    have hcb := (own_cap T11.out _ _ rfl).1
    have hgb := T11.out.lt gb rfl
    have hga := S11.out.lt ga rfl
    have hgl := SL.out ga rfl
    have hne : ¬ ga = gb := by omega
    have kb : w11.cell? ⟨gb, j, none⟩ = some (fl (fixB x)) := by
      have := T11.out.cells (g := gb) rfl j (fl (fixB x)) (by rw [List.getElem?_map, List.getElem?_set, if_pos rfl, if_pos hjl]; rfl)
      rwa [Addr.add_lit, Nat.zero_add] at this
    obtain ⟨y, hy⟩ : ∃ y, (afterL s2 fs)[j]? = some y := ⟨_, List.getElem?_eq_getElem hjl⟩
    have ka : w11.cell? ⟨ga, j, none⟩ = some (fl y) := by
      have := S11.out.cells (g := ga) rfl j (fl y) (by rw [List.getElem?_map, hy]; rfl)
      rwa [Addr.add_lit, Nat.zero_add] at this
    have KB := Lib.hid kb
    have KA := Lib.hid ka
    have kz : gb < w11.heap.size := hgb.2
    have kz1 : ¬ gb = w11.heap.size := by omega
    have hq1 : (((afterL s2 fs).length : Int) != ((afterL s2 fs).length : Int)) = false := by simp
    have hj1 : (j : Int) < ((afterL s2 fs).length : Int) := by omega
    have hj2 : j + 1 ≤ c9 := by omega
    have hj3 : (j : Int) + 1 ≤ (c9 : Int) := by omega
    obtain ⟨j', hj'⟩ : ∃ j', j' = j + 1 := ⟨_, rfl⟩
    have hjb : (j : Int) + 1 = (j' : Int) := by omega
    have hjc : (-9223372036854775808 : Int) ≤ (j : Int) + 1 ∧ (j : Int) + 1 ≤ 9223372036854775807 := by omega
    have hj4 : j ≤ j' := by omega
    have hj5 : (j : Int) ≤ (j' : Int) := by omega
    have hj6 : j' ≤ c9 := by omega
    have hj7 : (j' : Int) ≤ (c9 : Int) := by omega
    have hj8 : j' - j = 1 := by omega
    have hj0 : (0 : Int) ≤ (j : Int) := by omega
    have hw1 : wrap64 ((j : Int) + 1) = (j' : Int) := (IntWalk.wrap64_in ((j : Int) + 1) hjc).trans hjb
    have hw2 : IntKind.i64.wrap ((j : Int) + 1) = (j' : Int) := (IntWalk.i64_in ((j : Int) + 1) hjc).trans hjb
    clear hj' hj2 hj3 hjb hjc
    have HGE := Lib.hid (And.intro hgl (And.intro hgb hga))
    have HJL := Lib.hid (And.intro hjl (And.intro hl0 hl2))
    clear hcb hgb hga hgl hy ka
    go_upto_region 25 with fail
    go_region_held3 (fun w' => w'.cell? ⟨gb, j, none⟩ = some (fl (fixB x))) (go_keep)
      (first
        | (go_at_call 39; refine (numbers09_one _ _ x _ (by first | exact blk_cell (heap_alloc_new w11 _) 0)).mono ?_; rintro e wn ⟨g, c', rfl, hx, hcn⟩; have cn : Chg w11 wn Nothing := Chg.trans (w1 := World.alloc w11 _) ((Chg.refl w11 Nothing).alloc _) ⟨hcn.os, hcn.tape, hcn.output, hcn.size, hcn.block⟩ (fun _ _ h => h); have kb2 := cn.cell kb id)
        | (go_at_call 43; refine (exact09_true _ _ _ _ [fixB x] _ (sees_one kb2) (sees_one hx) (by show (1 : Nat) ≤ 140737488355328; decide)).mono ?_; rintro e wm ⟨rfl, m, rfl⟩; have kb3 : (wn.drewN m).cell? ⟨gb, j, none⟩ = some (fl (fixB x)) := kb2))
    all_goals
      have c12 : Chg w11 (wn.drewN m) Nothing := cn.drewN m
      have R12 := Lib.hid (R11.out.quiet c12)
      have S12 := Lib.hid (row_chg S11.out c12 (fun _ _ h => h))
      have T12 := Lib.hid (row_chg T11.out c12 (fun _ _ h => h))
      have ka3 : (wn.drewN m).cell? ⟨ga, j, none⟩ = some (fl y) := c12.cell KA.out id
      have fa := S12.out.frozenAt j
      have ga1 := HGE.out.1
      have ga2 := HGE.out.2.2.1
      have zw := ZW.out
      have hl256 := HJL.out.2.2
      clear c12 cn kb2 hx R11 S11 T11 KA KB kb hcn
      generalize wn.drewN m = w12 at *
      have E := exact09_true (some ⟨ga, 0, none⟩) (some ⟨gb, 0, none⟩) c8 c9 ((afterL s2 fs).set j (fixB x)) (w12.setCell ⟨ga, j, none⟩ (fl (fixB x))) (by
        have h := Sees.of_owns ((S12.out.stored j (fl (fixB x))).1)
        rwa [← List.map_set] at h) (Sees.of_owns (row_chg T12.out ((Chg.refl w12 (fun k => k = ga)).setCell (a := ⟨ga, j, none⟩) (.inr rfl) (fl (fixB x))) (fun k hk e => by omega))) (by rw [List.length_set]; omega)
      rw [List.length_set] at E
      have EE := Lib.hid E
      have FIN := Lib.hid (show Chg w (w12.setCell ⟨ga, j, none⟩ (fl (fixB x))) Nothing from (law_old R12.out.a.chg).setCell (.inl (by show w.heap.size ≤ ga; omega)) _)
      clear E R12 S12 T12 ga1 ga2 zw hl256
      go_wp2_with fail
      refine EE.out.mono ?_
      rintro e w13 ⟨rfl, m2, rfl⟩
      go_wp2_with fail
      go_ret
      exact ⟨rfl, FIN.out.drewN _⟩
end Go.Proofs.YthgllaomafhdkaaGreat
