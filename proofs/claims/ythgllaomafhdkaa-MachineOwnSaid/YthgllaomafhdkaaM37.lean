/- MachineOwn: the walk. -/
import Derived.Test.YthgllaomafhdkaaK9
import Derived.Test.YthgllaomafhdkaaK9
namespace Go.Proofs.Ythgllaomafhdkaa
open Go Go.RowKit
set_option maxRecDepth 100000
set_option maxHeartbeats 1000000
set_option linter.unusedVariables false
set_option linter.unusedSimpArgs false

def arrF (l : List Nat) : Obj := .cells (l.map fl).toArray 34 (0, 0)
def arrB (l : List Bool) : Obj := .cells (l.map Value.bool).toArray 4 (0, 0)
/-- What was written, as the law notes it. -/
structure Marks (w : World) (F : Nat → Prop) (ba bb : Nat) (wl : List Nat) (hl : List Bool) (buf : List (Int × Nat)) : Prop where
  a : Beside w ba F (arrF wl)
  b : Beside w bb F (arrB hl)
  ne : ba ≠ bb
  la : wl.length = 256
  lb : hl.length = 256
  has : ∀ j : Nat, j < 256 → hl[j]? = some (getN buf (j : Int)).isSome
  val : ∀ (j : Nat) (x : Nat), j < 256 → getN buf (j : Int) = some x → wl[j]? = some x
section
variable {w w' : World} {F : Nat → Prop} {m ba bb : Nat} {wl : List Nat} {hl : List Bool} {buf : List (Int × Nat)} {s : Mc}
theorem Marks.next (h : Marks w F ba bb wl hl buf) (hS : MaS w w' m F s) : Marks w' (Grow F w w') ba bb wl hl buf := ⟨h.a.next hS, h.b.next hS, h.ne, h.la, h.lb, h.has, h.val⟩
theorem Marks.quiet (h : Marks w F ba bb wl hl buf) (hc : Chg w w' Nothing) : Marks w' F ba bb wl hl buf := ⟨h.a.quiet hc, h.b.quiet hc, h.ne, h.la, h.lb, h.has, h.val⟩
theorem Marks.cellA (h : Marks w F ba bb wl hl buf) {j : Nat} (hj : j < 256) : ∃ x, wl[j]? = some x ∧ w.cell? ⟨ba, j, none⟩ = some (fl x) := by
  obtain ⟨x, hx⟩ : ∃ x, wl[j]? = some x := ⟨_, List.getElem?_eq_getElem (by rw [h.la]; exact hj)⟩
  exact ⟨x, hx, by rw [blk_cell h.a.1]; simp [hx]⟩
theorem Marks.cellB (h : Marks w F ba bb wl hl buf) {j : Nat} (hj : j < 256) : w.cell? ⟨bb, j, none⟩ = some (.bool (getN buf (j : Int)).isSome) := by
  rw [blk_cell h.b.1]
  simp [h.has j hj]
theorem Marks.put (h : Marks w F ba bb wl hl buf) {j x : Nat} (hj : j < 256) : Marks ((w.setCell ⟨bb, j, none⟩ (.bool true)).setCell ⟨ba, j, none⟩ (fl x)) F ba bb (wl.set j x) (hl.set j true) (putN buf (j : Int) x) := by
  refine ⟨⟨?_, h.a.2⟩, ⟨?_, h.b.2⟩, h.ne, by rw [List.length_set, h.la], by rw [List.length_set, h.lb], fun k hk => ?_, fun k y hk hy => ?_⟩
  · have := blk_set (blk_set_other h.a.1 (a := ⟨bb, j, none⟩) h.ne (.bool true)) j (fl x)
    rw [this]
    simp [arrF, List.map_set]
  · have := blk_set_other (blk_set h.b.1 j (.bool true)) (a := ⟨ba, j, none⟩) (fun e => h.ne e.symm) (fl x)
    rw [this]
    simp [arrB, List.map_set]
  · rw [getN_putN, List.getElem?_set]
    by_cases e : j = k
    · subst e
      rw [if_pos rfl, if_pos (by rw [h.lb]; exact hj), if_pos rfl]; rfl
    · rw [if_neg e, if_neg (by omega), h.has k hk]
  · rw [getN_putN] at hy
    rw [List.getElem?_set]
    by_cases e : j = k
    · subst e
      rw [if_pos rfl] at hy
      rw [if_pos rfl, if_pos (by rw [h.la]; exact hj)]
      exact hy
    · rw [if_neg (by omega)] at hy
      rw [if_neg e]
      exact h.val k y hk hy
end
theorem bits08_q' (a b : Nat) (w : World) : Calls Try.prog 11 #[fl a, fl b] w fun e w' => e = .returned (.bool ((a : Int) == (b : Int))) ∧ w' = w := by
  go_enter Try.func11, Try.ntmps11
  go_wp2_with fail
  go_ret
  exact ⟨rfl, rfl⟩
set_option maxRecDepth 100000 in
set_option maxHeartbeats 8000000 in
theorem own_walk (c t f r : Int) (tag : Int) (ac : Option Addr) (cc : Nat) (code : List Ins) (aa : Option Addr) (na : Nat) (args : List Nat) (af : Option Addr) (nf : Nat) (feed : List Nat) (w : World)
    (hb : code.length * 24 ≤ 140737488355328) (hs : Sees w ac (insV code)) (hc : (∀ k, CodeB ac code k → k < w.heap.size) ∧ RRow w (CodeB ac code) (.slice ac code.length cc) code.length 3 (insV code)) (ha : Sees w aa (args.map fl)) (hf : Sees w af (feed.map fl)) (hfl : feed.length ≤ 9223372036854775807)
    (hx : ∀ i ∈ code, i.2.2 < 18446744073709551616) (hax : ∀ y ∈ args, y < 18446744073709551616) (hfx : ∀ y ∈ feed, y < 18446744073709551616) :
    Calls Try.prog 3 #[.agg #[.int .i64 c, .int .i64 t, .int .i64 f, .int .i64 r], .agg #[.int .i64 tag, .slice ac code.length cc], .slice aa args.length na, .slice af feed.length nf] w fun e w' => e = .returned (.bool true) ∧ Chg w w' Nothing := by
  by_cases hok : CfgOk c t f r ∧ args.length ≤ 8
  · obtain ⟨hcfg, hal⟩ := hok
    have HCF := Lib.hid hcfg
    have HAL := Lib.hid hal
    have HB := Lib.hid hb
    have HS := Lib.hid hs
    have HC := Lib.hid hc
    have HA := Lib.hid ha
    have HF := Lib.hid hf
    have HFL := Lib.hid hfl
    have HX := Lib.hid hx
    have HAX := Lib.hid hax
    have HFX := Lib.hid hfx
    clear hb hs hc ha hf hfl hx hax hfx hcfg hal
    go_enter Try.func3, Try.ntmps3
    go_wp2_with fail
    with_reducible refine (live08_any _).mono ?_
    rintro e w1 ⟨rfl, hc1⟩
    obtain ⟨i0, i1, i2, i3, j0, j1, z0, z1⟩ := law_cells hc1
    have C1 := Lib.hid hc1
    clear hc1
    go_wp2_with fail
    refine (mnew_good c t f r tag ac cc code aa na args _ HCF.out HAL.out HB.out (HS.out.chg (law_old C1.out)) (HA.out.chg (law_old C1.out))).mono ?_
    rintro e w2 ⟨m, rfl, hm, hc2⟩
    have R2 := Lib.hid (show Run0 ((w.alloc (cfgBx c t f r)).alloc (prgBx tag ac code.length cc)) w2 m _ (mc0 c t f r tag code args) from ⟨hm, mc0_fine HCF.out HX.out HAX.out, C1.out.trans hc2 (fun _ _ h => h), fun k hk => Nat.le_trans C1.out.size hk.1⟩)
    clear i0 i1 i2 i3 j0 j1 z0 z1 hm hc2 C1
    obtain ⟨i0, i1, i2, i3, j0, j1, z0, z1⟩ := law_cells R2.out.chg
    go_wp2_with fail
    have CW := Lib.hid (law_old R2.out.chg)
    refine (rnew_good c t f r tag ac cc code aa na args (CodeB ac code) _ HCF.out HAL.out (fun k hk => Nat.lt_of_lt_of_le (HC.out.1 k hk) CW.out.size) (HC.out.2.move (fun b hb => ⟨hb, CW.out.block b (HC.out.1 b hb) id⟩)) (HA.out.chg CW.out)).mono ?_
    rintro e w3 ⟨q, lb, rfl, hq, hq1, hq2, hc3⟩
    have R3 := Lib.hid (R2.out.quiet hc3)
    clear i0 i1 i2 i3 j0 j1 z0 z1 hq hq1 hq2 hc3 R2 CW
    obtain ⟨i0, i1, i2, i3, j0, j1, z0, z1⟩ := law_cells R3.out.chg
    have hm1 : ∀ W : World, (Instr.makeSlice 27 (.int .i64 256) (.int .i64 256)).run Try.prog W = .ok (.slice (some ⟨W.heap.size, 0, none⟩) 256 256) (W.alloc (arrF (List.replicate 256 0))) := fun W => by kernel_rfl
    have hm2 : ∀ W : World, (Instr.makeSlice 33 (.int .i64 256) (.int .i64 256)).run Try.prog W = .ok (.slice (some ⟨W.heap.size, 0, none⟩) 256 256) (W.alloc (arrB (List.replicate 256 false))) := fun W => by kernel_rfl
    go_wp2_with fail
    clear i0 i1 i2 i3 j0 j1 z0 z1 hm1 hm2
    have B3 := Lib.hid (R3.out.chg.size)
    have M0 := Lib.hid (show Marks ((w3.alloc (arrF (List.replicate 256 0))).alloc (arrB (List.replicate 256 false))) _ w3.heap.size (w3.heap.size + 1) (List.replicate 256 0) (List.replicate 256 false) [] from
      ⟨(R3.out.beside (arrF (List.replicate 256 0))).alloc _, (by have := (R3.out.box (arrF (List.replicate 256 0))).beside (arrB (List.replicate 256 false)); simpa using this), by omega, List.length_replicate, List.length_replicate, fun j hj => by rw [List.getElem?_replicate, if_pos hj]; rfl, fun j x hj hx => by cases hx⟩)
    have R5 := Lib.hid ((R3.out.box (arrF (List.replicate 256 0))).box (arrB (List.replicate 256 false)))
    go_loopg [14, 15] (f.toNat + 1) (fun k v i wr => ∃ (n g : Nat) (F : Nat → Prop) (s : Mc) (wl : List Nat) (hl : List Bool), n + k = f.toNat + 1 ∧ g ≤ n ∧ v = .int .i64 (g : Nat) ∧ i = .int .i64 (n : Nat) ∧ Run0 ((w.alloc (cfgBx c t f r)).alloc (prgBx tag ac code.length cc)) wr m F s ∧ Goes s (mc0 c t f r tag code args) n ∧ Marks wr F w3.heap.size (w3.heap.size + 1) wl hl s.buf)
    case atStart => exact ⟨0, 0, _, _, _, _, by simp, Nat.le_refl _, rfl, rfl, R5.out, Goes.begin .., M0.out⟩
    case round =>
      obtain ⟨n, g, F, s, wl, hl, hn, hg, rfl, rfl, hR, hG, hM⟩ := hrel
      have hf1 := HCF.out.2.2.1.1
      have hf2 := HCF.out.2.2.1.2
      have hc2 := HCF.out.1.2
      have hnf : (n : Int) ≤ f := by have := hR.fine.ok.used; rw [hG.used, hG.facts.2.2.1] at this; exact this
      have hd : decide ((n : Int) ≤ f) = true := decide_eq_true hnf
      obtain ⟨i0, i1, i2, i3, j0, j1, z0, z1⟩ := law_cells hR.chg
      have hcl := hG.class hR.fine
      have R := Lib.hid hR
      have G := Lib.hid hG
      have M := Lib.hid hM
      have CL := Lib.hid hcl
      have HN := Lib.hid hn
      have HG := Lib.hid hg
      have HF1 := Lib.hid (And.intro hf1 hf2)
      have HC2 := Lib.hid hc2
      clear hR hG hM hcl hn hg hf1 hf2 hc2 R3 M0 R5
      go_wp2_with fail
      with_reducible refine (mstep_any m F s _ R.out.ma R.out.fine).mono ?_
      rintro e w4 ⟨rfl, hS, hf⟩
      have R4 := Lib.hid (R.out.next hS hf)
      have M4 := Lib.hid (M.out.next hS)
      clear hS hf i0 i1 i2 i3 j0 j1 z0 z1 M
      obtain ⟨i0, i1, i2, i3, j0, j1, z0, z1⟩ := law_cells R4.out.chg
      rcases CL.out with ⟨u, hu, he⟩ | ⟨hu, hwn⟩
      · have e1 : askV (stepP s).2 = .agg #[.int .i64 4, .int .i64 0, .float .f64 0, .bool false] := by rw [he.ask]; rfl
        rw [e1]
        have C4 := Lib.hid (law_old (R4.out.box (.cells #[.int .i64 4, .int .i64 0, .float .f64 0, .bool false] 36)).chg)
        clear he e1 hu CL R4 M4
        go_wp2_with fail
        go_ret
        exact ⟨rfl, C4.out⟩
      · have hG5 := G.out.step hwn
        have hn1 : n + 1 ≤ f.toNat := by have hu' : ((n + 1 : Nat) : Int) ≤ f := hu; omega
        have HN1 := Lib.hid hn1
        have hcs : s.cells = c := G.out.facts.1
        have hkk := hwn.kind
        have hwt := hwn.waits
        have hce := hwn.cell
        have h0 := hwn.none_
        have h1 := hwn.read
        have h2 := hwn.own
        have h3 := hwn.write
        rw [hcs] at hce
        clear hwn hu hn1 hcs CL
        generalize (stepP s).1 = s4 at *
        generalize (stepP s).2 = a at *
        obtain ⟨ak, acl, ax, afi⟩ := a
        dsimp only at hG5 hkk hwt hce h0 h1 h2 h3
        have ea : askV ⟨ak, acl, ax, afi⟩ = .agg #[.int .i64 ak, .int .i64 acl, fl ax, .bool afi] := rfl
        rw [ea]
        have R5 := Lib.hid (R4.out.box (.cells #[.int .i64 ak, .int .i64 acl, fl ax, .bool afi] 36))
        have M5 := Lib.hid (M4.out.quiet ((Chg.refl _ _).alloc (.cells #[.int .i64 ak, .int .i64 acl, fl ax, .bool afi] 36)))
        clear R4 ea
        have gl := HG.out
        have nl := HN1.out
        have fl2 := HF1.out
        have gw : (g : Int) ≤ 4096 := by omega
        have nw : (n : Int) ≤ 4096 := by omega
        clear gl nl fl2
        by_cases k0 : ak = 0
        · subst k0
          have G5 := Lib.hid (hG5.2 (by decide))
          obtain ⟨hbf, _⟩ := h0 rfl
          have BF := Lib.hid hbf
          clear hG5 hkk hwt hce h0 h1 h2 h3 hbf
          go_wp2_with fail
          go_roundg (gk - 1)
          case measure => have := HN.out; have := HN1.out; omega
          case rel => exact ⟨n + 1, g, _, _, wl, hl, by have := HN.out; have := HN1.out; omega, by have := HG.out; omega, rfl, by go_num, R5.out, G5.out, by rw [BF.out]; exact M5.out⟩
        · obtain ⟨hc0, hc1⟩ := hce k0
          obtain ⟨j, rfl⟩ : ∃ j : Nat, acl = (j : Int) := ⟨acl.toNat, by omega⟩
          have hj : j < 256 := by have := HC2.out; omega
          have d0 : (ak != 0) = true := by simpa using k0
          have d4 : (ak != 4) = true := by rcases hkk with e | e | e | e <;> subst e <;> rfl
          have dc : decide (c ≤ (j : Int)) = false := decide_eq_false (by omega)
          have ji : (j : Int) < 256 := by omega
          have HJ := Lib.hid hj
          have kB := M4.out.cellB hj
          obtain ⟨y, hy, kA⟩ := M4.out.cellA hj
          have HY := Lib.hid hy
          have fB := blk_free M4.out.b.1 j
          have fA := blk_free M4.out.a.1 j
          have zA := blk_lt M4.out.a.1
          have zB := blk_lt M4.out.b.1
          have ne1 := M4.out.ne
          have VAL := Lib.hid (fun x h => M4.out.val j x hj h)
          clear hce hc0 hc1 hy M4
          by_cases k1 : ak = 1
          · subst k1
            obtain ⟨hbf, hgn, -, -, -⟩ := h1 rfl
            rw [hgn] at kB
            have kB : w4.cell? ⟨w3.heap.size + 1, j, none⟩ = some (.bool false) := kB
            have G5 := Lib.hid (hG5.1 (fedP feed g) rfl)
            have W4 := Lib.hid (give_went (show s4.waits = true from hwt) (fedP feed g))
            have BF := Lib.hid hbf
            clear hG5 hkk hwt h0 h1 h2 h3 hbf hgn kA fA fB
            go_wp2_with fail
            with_reducible refine (fed_any af nf g feed _ (by have := gw; omega) HFL.out (HF.out.chg (law_old R5.out.chg))).mono ?_
            rintro e w6 ⟨rfl, rfl⟩
            go_wp2_with fail
            with_reducible refine (mgive_any m _ s4 (fedP feed g) _ R5.out.ma R5.out.fine (fedP_lt HFX.out g)).mono ?_
            rw [W4.out.1]
            rintro e w7 ⟨rfl, hS7, hf7⟩
            have R7 := Lib.hid (R5.out.next hS7 hf7)
            have M7 := Lib.hid (M5.out.next hS7)
            clear hS7 hf7 i0 i1 i2 i3 j0 j1 z0 z1 kB zA zB R5 M5
            go_wp2_with fail
            go_roundg (gk - 1)
            case measure => have := HN.out; have := HN1.out; omega
            case rel => exact ⟨n + 1, g + 1, _, _, wl, hl, by have := HN.out; have := HN1.out; omega, by have := HG.out; omega, by go_num, by go_num, R7.out, G5.out, by rw [W4.out.2.2.2.2, BF.out]; exact M7.out⟩
          have d1 : (ak == 1) = false := beq_eq_false_iff_ne.2 k1
          have e4 : (ak == 4) = false := by rcases hkk with e | e | e | e <;> subst e <;> rfl
          by_cases k2 : ak = 2
          · subst k2
            obtain ⟨hbf, hgs, -⟩ := h2 rfl
            have hyx : y = ax := by have h := VAL.out ax hgs; rw [HY.out] at h; injection h
            subst hyx
            rw [hgs] at kB
            have kB : w4.cell? ⟨w3.heap.size + 1, j, none⟩ = some (.bool true) := kB
            have G5 := Lib.hid (hG5.2 (by decide))
            have BF := Lib.hid hbf
            have q1 : ((y : Int) == (y : Int)) = true := by simp
            clear hG5 hkk hwt h0 h1 h2 h3 hbf hgs fA fB k1
            go_wp2_with fail
            go_quiet ((go_at_call 11; exact Calls.quiet_of_same (bits08_q' _ _ _)))
            go_wp2_with fail
            go_roundg (gk - 1)
            case measure => have := HN.out; have := HN1.out; omega
            case rel => exact ⟨n + 1, g, _, _, wl, hl, by have := HN.out; have := HN1.out; omega, by have := HG.out; omega, rfl, by go_num, R5.out.quiet ((Chg.refl _ _).drewN _), G5.out, by rw [BF.out]; exact M5.out.quiet ((Chg.refl _ _).drewN _)⟩
          · have k3 : ak = 3 := by rcases hkk with e | e | e | e <;> omega
            subst k3
            obtain ⟨-, hbf, hfi, -⟩ := h3 rfl
            have hb : (afi = true ∧ w4.cell? ⟨w3.heap.size + 1, j, none⟩ = some (.bool false)) ∨ (afi = false ∧ w4.cell? ⟨w3.heap.size + 1, j, none⟩ = some (.bool true)) := by
              rw [hfi, kB]
              cases getN s.buf (j : Int) with
              | none => exact .inl ⟨rfl, rfl⟩
              | some y0 => exact .inr ⟨rfl, rfl⟩
            have G5 := Lib.hid (hG5.2 (by decide))
            have BF := Lib.hid hbf
            clear hG5 hkk hwt h0 h1 h2 h3 hbf hfi k1 k2 k0 kB
            rcases hb with ⟨rfl, kB⟩ | ⟨rfl, kB⟩
            all_goals
              have MP := Lib.hid (M5.out.put (x := ax) HJ.out)
              have RP := Lib.hid (show Run0 ((w.alloc (cfgBx c t f r)).alloc (prgBx tag ac code.length cc)) _ m _ s4 from
                ⟨(R5.out.ma.chg (((Chg.refl _ (fun k => k = w3.heap.size + 1 ∨ k = w3.heap.size)).setCell (a := ⟨w3.heap.size + 1, j, none⟩) (.inr (.inl rfl)) (.bool true)).setCell (a := ⟨w3.heap.size, j, none⟩) (.inr (.inr rfl)) (fl ax)) (fun k hk he => by rcases he with rfl | rfl; exact M5.out.b.2 hk; exact M5.out.a.2 hk)), R5.out.fine, (R5.out.chg.setCell (.inl (by have := B3.out; show _ ≤ w3.heap.size + 1; omega)) _).setCell (.inl B3.out) _, R5.out.new⟩)
              go_wp2_with fail
              go_quiet (fail)
              go_wp2_with fail
              go_roundg (gk - 1)
              case measure => have := HN.out; have := HN1.out; omega
              case rel => exact ⟨n + 1, g, _, _, wl.set j ax, hl.set j true, by have := HN.out; have := HN1.out; omega, by have := HG.out; omega, rfl, by go_num, RP.out.quiet ((Chg.refl _ _).drewN _), G5.out, by rw [BF.out]; exact MP.out.quiet ((Chg.refl _ _).drewN _)⟩
  · have H := Lib.hid hok
    have HX := Lib.hid hx
    clear hok hb hs hc ha hf hfl hx hax hfx
    go_enter Try.func3, Try.ntmps3
    go_wp2_with fail
    with_reducible refine (live08_any _).mono ?_
    rintro e w1 ⟨rfl, hc1⟩
    obtain ⟨i0, i1, i2, i3, j0, j1, z0, z1⟩ := law_cells hc1
    have C1 := Lib.hid hc1
    clear hc1
    go_wp2_with fail
    with_reducible refine (mnew_bad c t f r tag ac code.length cc aa args.length na _ H.out).mono ?_
    rintro e w2 ⟨rfl, hc2⟩
    have C2 := Lib.hid (C1.out.trans hc2 (fun _ _ h => h))
    clear hc2 C1 i0 i1 i2 i3 j0 j1 z0 z1
    obtain ⟨i0, i1, i2, i3, j0, j1, z0, z1⟩ := law_cells C2.out
    go_wp2_with fail
    with_reducible refine (rnew_bad c t f r tag ac code.length cc aa args.length na _ H.out).mono ?_
    rintro e w3 ⟨rfl, hc3⟩
    have C3 := Lib.hid (law_old (C2.out.trans hc3 (fun _ _ h => h)))
    clear hc3 C2 i0 i1 i2 i3 j0 j1 z0 z1
    go_wp2_with fail
    go_ret
    exact ⟨rfl, C3.out⟩
end Go.Proofs.Ythgllaomafhdkaa
