/- AloneJoined: the walk. -/
import Derived.Test.YthgllaomafhdkaaGreatM5N
namespace Go.Proofs.YthgllaomafhdkaaGreat
open Go Go.RowKit
set_option maxRecDepth 100000
set_option maxHeartbeats 1000000
set_option linter.unusedVariables false
set_option linter.unusedSimpArgs false

theorem clV_len (cs : List Cl) : (clV cs).length = cs.length * 2 := by
  induction cs with
  | nil => rfl
  | cons t ts ih => simp [clV] at ih ⊢; omega
theorem clV_split (cs : List Cl) (k : Nat) : clV cs = clV (cs.take k) ++ clV (cs.drop k) := by
  unfold clV
  rw [← List.flatMap_append, List.take_append_drop]
theorem cls_take {w : World} {ca : Option Addr} {cs : List Cl} (h : Sees w ca (clV cs)) (k : Nat) : Sees w ca (clV (cs.take k)) := by
  rw [clV_split cs k] at h
  rcases h with h | ⟨b, o, rfl, hc⟩
  · exact .inl (List.append_eq_nil_iff.1 h).1
  · exact .inr ⟨b, o, rfl, fun j u hu => hc j u (by rw [List.getElem?_append_left (List.getElem?_eq_some_iff.1 hu).1]; exact hu)⟩
theorem cls_drop {w : World} {b o : Nat} {cs : List Cl} (h : Sees w (some ⟨b, o, none⟩) (clV cs)) (k : Nat) (hk : k ≤ cs.length) : Sees w (some ⟨b, o + k * 2, none⟩) (clV (cs.drop k)) := by
  rw [clV_split cs k] at h
  have hl : (clV (cs.take k)).length = k * 2 := by rw [clV_len, List.length_take, Nat.min_eq_left hk]
  rcases h with h | ⟨b', o', e, hc⟩
  · exact .inl (List.append_eq_nil_iff.1 h).2
  · injection e with e; injection e with e1 e2; subst e1 e2
    exact .inr ⟨b, o + k * 2, rfl, fun j u hu => by
      have := hc (k * 2 + j) u (by rw [List.getElem?_append_right (by omega), hl, Nat.add_sub_cancel_left]; exact hu)
      rwa [← Nat.add_assoc] at this⟩
theorem fold_pre {c t f r : Int} {ps : List Pg} : ∀ (cs : List Cl) (a : List RV) (fs : List Nat), cs.foldl (cstep c t f r ps) (a, fs) = (a ++ (cs.foldl (cstep c t f r ps) ([], fs)).1, (cs.foldl (cstep c t f r ps) ([], fs)).2)
  | [], a, fs => by simp
  | x :: cs, a, fs => by
    rw [List.foldl_cons, List.foldl_cons]
    unfold cstep
    dsimp only
    rw [show (fun (s : List RV × List Nat) (x : Cl) => (s.1 ++ [callV c t f r ps x s.2], (callV c t f r ps x s.2).fs)) = cstep c t f r ps from rfl]
    rw [fold_pre cs (a ++ _), fold_pre cs ([] ++ _)]
    simp
theorem callsN_split (c t f r : Int) (ps : List Pg) (cs : List Cl) (fs : List Nat) (k : Nat) : callsN c t f r ps cs fs = ((callsN c t f r ps (cs.take k) fs).1 ++ (callsN c t f r ps (cs.drop k) (callsN c t f r ps (cs.take k) fs).2).1, (callsN c t f r ps (cs.drop k) (callsN c t f r ps (cs.take k) fs).2).2) := by
  unfold callsN
  conv => lhs; rw [← List.take_append_drop k cs]
  rw [List.foldl_append]
  generalize (cs.take k).foldl (cstep c t f r ps) ([], fs) = s
  obtain ⟨a, fs1⟩ := s
  exact fold_pre _ _ _
/-- Calls of two lists are the calls of both. -/
theorem callsV_split {c t f r : Int} {ps : List Pg} {cs : List Cl} {fs : List Nat} {w : World} (hp : ∀ p ∈ ps, p.In w) (hx : ∀ x ∈ cs, x.In w) (hf : ∀ y ∈ fs, y < 18446744073709551616) (k : Nat) (h : (callsV c t f r ps cs fs).1 = 0) :
    (callsV c t f r ps (cs.take k) fs).1 = 0 ∧ (callsV c t f r ps (cs.drop k) (callsV c t f r ps (cs.take k) fs).2.2).1 = 0 ∧
      (callsV c t f r ps cs fs).2.1 = (callsV c t f r ps (cs.take k) fs).2.1 ++ (callsV c t f r ps (cs.drop k) (callsV c t f r ps (cs.take k) fs).2.2).2.1 ∧
      (callsV c t f r ps cs fs).2.2 = (callsV c t f r ps (cs.drop k) (callsV c t f r ps (cs.take k) fs).2.2).2.2 ∧ (callsV c t f r ps (cs.take k) fs).2.1.length = (cs.take k).length ∧ (callsV c t f r ps cs fs).2.1.length = cs.length := by
  by_cases h1 : CfgOk c t f r ∧ (fs.length : Int) = c
  case neg => rw [callsV_may h1] at h; cases h
  by_cases h2 : 64 < ps.length ∨ 512 < cs.length
  case pos => rw [callsV_many h1 h2] at h; cases h
  by_cases h3 : ∀ x ∈ cs, ClOk ps x
  case neg => rw [callsV_bad h1 h2 h3] at h; cases h
  have e1 : callsV c t f r ps (cs.take k) fs = (0, callsN c t f r ps (cs.take k) fs) := callsV_ok h1 (by rw [List.length_take]; omega) (fun x hx => h3 x (List.mem_of_mem_take hx))
  have hfs := calls_fs (c := c) (t := t) (f := f) (r := r) hp (cs.take k) ([], fs) (fun x hx' => hx x (List.mem_of_mem_take hx')) hf (fun v hv => by simp at hv)
  have e2 : callsV c t f r ps (cs.drop k) (callsN c t f r ps (cs.take k) fs).2 = (0, callsN c t f r ps (cs.drop k) (callsN c t f r ps (cs.take k) fs).2) := callsV_ok ⟨h1.1, by have h9 : (callsN c t f r ps (cs.take k) fs).2.length = fs.length := hfs.1; rw [h9]; exact h1.2⟩ (by rw [List.length_drop]; omega) (fun x hx => h3 x (List.mem_of_mem_drop hx))
  rw [callsV_ok h1 h2 h3, e1]
  dsimp only
  rw [e2]
  refine ⟨rfl, rfl, ?_, ?_, ?_, ?_⟩
  · show (callsN c t f r ps cs fs).1 = _; rw [callsN_split c t f r ps cs fs k]
  · show (callsN c t f r ps cs fs).2 = _; rw [callsN_split c t f r ps cs fs k]
  · show (callsN c t f r ps (cs.take k) fs).1.length = _; unfold callsN; rw [foldl_len]; simp
  · show (callsN c t f r ps cs fs).1.length = _; unfold callsN; rw [foldl_len]; simp
theorem callsV_err {c t f r : Int} {ps : List Pg} {cs : List Cl} {fs : List Nat} (h : (callsV c t f r ps cs fs).1 ≠ 0) : (callsV c t f r ps cs fs).2.1 = [] := by
  by_cases h1 : CfgOk c t f r ∧ (fs.length : Int) = c
  case neg => rw [callsV_may h1]
  by_cases h2 : 64 < ps.length ∨ 512 < cs.length
  case pos => rw [callsV_many h1 h2]
  by_cases h3 : ∀ x ∈ cs, ClOk ps x
  case neg => rw [callsV_bad h1 h2 h3]
  rw [callsV_ok h1 h2 h3] at h
  exact absurd rfl h
theorem callsV_cnt {c t f r : Int} {ps : List Pg} {cs : List Cl} {fs : List Nat} (h : (callsV c t f r ps cs fs).1 = 0) : (callsV c t f r ps cs fs).2.1.length = cs.length := by
  by_cases h1 : CfgOk c t f r ∧ (fs.length : Int) = c
  case neg => rw [callsV_may h1] at h; cases h
  by_cases h2 : 64 < ps.length ∨ 512 < cs.length
  case pos => rw [callsV_many h1 h2] at h; cases h
  by_cases h3 : ∀ x ∈ cs, ClOk ps x
  case neg => rw [callsV_bad h1 h2 h3] at h; cases h
  rw [callsV_ok h1 h2 h3]
  show (callsN c t f r ps cs fs).1.length = _; unfold callsN; rw [foldl_len]; simp
theorem acalls_m (c t f r : Int) (pa : Option Addr) (pc : Nat) (ps : List Pg) (ca : Option Addr) (cc nc : Nat) (cs : List Cl) (hnc : cs.length = nc) (p : Nat) (G : Nat → Prop) (fs : List Nat) (w : World) (h : Sta w p G (fs.map fl))
    (w0 : World) (hw0 : Chg w0 w Nothing) (hG : ∀ k, G k → w0.heap.size ≤ k) (hpl : ps.length ≤ 9223372036854775807) (hcl : nc ≤ 9223372036854775807) (hin : ClsIn w0 pa ca ps cs) (hfx : ∀ y ∈ fs, y < 18446744073709551616) (V : Int × List RV × List Nat) (hV : V = callsV c t f r ps cs fs) (h0 : V.1 = 0) :
    Calls Tryz.prog 51 #[.agg #[.int .i64 c, .int .i64 t, .int .i64 f, .int .i64 r], .slice pa ps.length pc, .slice ca nc cc, .pointer (some ⟨p, 0, none⟩)] w fun e w' => ∃ a cap vh,
      e = .returned (.tuple #[.slice a nc cap, .int .i64 0]) ∧ vh.map (·.1) = V.2.1 ∧ ResSB w' (fun b => w.heap.size ≤ b) a vh ∧ Sta w' p G (V.2.2.map fl) ∧ Chg w w' G := by
  subst hnc
  refine (acalls_n c t f r pa pc ps ca cc cs p G fs w h w0 hw0 hG hpl hcl hin hfx V hV).mono ?_
  rintro e w' ⟨a, cap, vh, he, hm, hrest⟩
  refine ⟨a, cap, vh, ?_, hm, hrest⟩
  have hl := congrArg List.length hm
  rw [List.length_map, hV, callsV_cnt (by rw [← hV]; exact h0)] at hl
  rw [he, h0, hl]
theorem cls_cut {w : World} {ca : Option Addr} {cs : List Cl} {cc k : Nat} (h : Sees w ca (clV cs)) (hk : k ≤ cs.length) (hc : cs.length ≤ cc) : Sees w (if cc = k then ca else Option.map (fun x => x.add (k * 2)) ca) (clV (cs.drop k)) := by
  by_cases e : cc = k
  · rw [if_pos e, List.drop_eq_nil_of_le (by omega)]
    exact .inl rfl
  · rw [if_neg e]
    rcases h with h1 | ⟨b, o, rfl, hcl⟩
    · rw [clV_split cs k] at h1
      exact .inl (List.append_eq_nil_iff.1 h1).2
    · show Sees w (some ((⟨b, o, none⟩ : Addr).add (k * 2))) _
      rw [Addr.add_lit]
      exact cls_drop (.inr ⟨b, o, rfl, hcl⟩) k hk
theorem at_left {l1 l2 : List (RV × H6)} {i : Nat} {v : RV} (h : (l1.map (·.1) ++ l2.map (·.1))[i]? = some v) (hi : i < l1.length) : ∃ h2, l1[i]? = some (v, h2) := by
  rw [List.getElem?_append_left (by rw [List.length_map]; exact hi), List.getElem?_map] at h
  cases h2 : l1[i]? with
  | none => rw [h2] at h; cases h
  | some y => rw [h2] at h; injection h with h; exact ⟨y.2, by rw [← h]⟩
theorem at_right {l1 l2 : List (RV × H6)} {i j : Nat} {v : RV} (h : (l1.map (·.1) ++ l2.map (·.1))[i]? = some v) (hi : i = l1.length + j) : ∃ h2, l2[j]? = some (v, h2) := by
  subst hi
  rw [List.getElem?_append_right (by rw [List.length_map]; omega), List.length_map, Nat.add_sub_cancel_left, List.getElem?_map] at h
  cases h2 : l2[j]? with
  | none => rw [h2] at h; cases h
  | some y => rw [h2] at h; injection h with h; exact ⟨y.2, by rw [← h]⟩
set_option maxHeartbeats 4000000 in
theorem ajoined_walk (c t f r : Int) (pa : Option Addr) (pc : Nat) (ps : List Pg) (ca : Option Addr) (cc : Nat) (cs : List Cl) (af : Option Addr) (nf : Nat) (start : List Nat) (w : World)
    (hpl : ps.length ≤ 9223372036854775807) (hcl : cs.length ≤ 9223372036854775807) (hcc : cs.length ≤ cc) (hcn : ca = none → cc = 0) (hin : ClsIn w pa ca ps cs) (hf : Sees w af (start.map fl)) (haf : af = none → nf = 0) (hfl : start.length ≤ 9223372036854775807) (hfx : ∀ y ∈ start, y < 18446744073709551616) :
    Calls Tryz.prog 13 #[.agg #[.int .i64 c, .int .i64 t, .int .i64 f, .int .i64 r], .slice pa ps.length pc, .slice ca cs.length cc, .slice af start.length nf] w fun e w' => e = .returned (.bool true) ∧ Chg w w' Nothing := by
  have HCC := Lib.hid hcc
  have HCN := Lib.hid hcn
  have HPL := Lib.hid hpl
  have HCL := Lib.hid hcl
  have HI := Lib.hid hin
  have HF := Lib.hid hf
  have HAF := Lib.hid haf
  have HFL := Lib.hid hfl
  have HFX := Lib.hid hfx
  clear hpl hcl hin hf haf hfl hfx hcc hcn
  go_enter Tryz.func13, Tryz.ntmps13
  go_wp2_with fail
  with_reducible refine (live09_any _).mono ?_
  rintro e w1 ⟨rfl, hc1⟩
  have C1 : Hid (Chg (w.alloc (.cells #[.int .i64 c, .int .i64 t, .int .i64 f, .int .i64 r] 23 (0, 0))) w1 Nothing) := Lib.hid hc1
  have B1 := Lib.hid ((hc1.block w.heap.size (by simp) id).trans (heap_alloc_new w (.cells #[.int .i64 c, .int .i64 t, .int .i64 f, .int .i64 r] 23)))
  clear hc1
  go_wp2_with fail
  by_cases hl : 1 ≤ start.length ∧ start.length ≤ 256
  case neg =>
    have HL := Lib.hid (show start.length < 1 ∨ 256 < start.length by omega)
    clear hl
    with_reducible refine (given09_bad af start.length nf _ HL.out HFL.out).mono ?_
    rintro e w2 ⟨rfl, rfl⟩
    go_wp2_with fail
    go_ret
    exact ⟨rfl, ((Chg.refl w Nothing).alloc _).trans C1.out (fun _ _ h => h)⟩
  have H1 := Lib.hid hl.1
  have H2 := Lib.hid hl.2
  clear hl
  have CW := Lib.hid (((Chg.refl w Nothing).alloc (.cells #[.int .i64 c, .int .i64 t, .int .i64 f, .int .i64 r] 23)).trans C1.out (fun _ _ h => h))
  with_reducible refine (given09_good af nf start _ (HF.out.chg CW.out) H1.out H2.out).mono ?_
  rintro e w2 ⟨p, F, rfl, hL⟩
  have R2 := Lib.hid (hL.under C1.out)
  have C2 := Lib.hid (((Chg.refl w Nothing).alloc _).trans R2.out.chg (fun _ _ h => h))
  have B2 := Lib.hid ((hL.chg.block w.heap.size (blk_lt B1.out) id).trans B1.out)
  clear hL C1 CW
  go_wp2_with fail
  have SGF := Lib.hid (show ∀ k, F k → k < w2.heap.size from fun k hk => R2.out.st.lt k hk)
  have NEW := Lib.hid (show ∀ k, F k → w.heap.size < k from fun k hk => by have := R2.out.new k hk; simp at this; omega)
  obtain ⟨fs, hfs⟩ : ∃ fs, fs = start.map fixB := ⟨_, rfl⟩
  have FL := Lib.hid (show fs.length = start.length by rw [hfs]; exact List.length_map ..)
  have FX := Lib.hid (show ∀ y ∈ fs, y < 18446744073709551616 from fun y hy => by rw [hfs] at hy; obtain ⟨z, hz, rfl⟩ := List.mem_map.1 hy; exact fixB_lt (HFX.out z hz))
  have ST2 := Lib.hid (show Sta w2 p F (fs.map fl) from by rw [hfs]; exact R2.out.st)
  clear hfs R2
  refine (T6.clone_any p F fs _ ST2.out (by have := FL.out; have := H2.out; omega)).mono ?_
  rintro e w3 ⟨q, rfl, hq, hst, hc⟩
  obtain ⟨G, hG⟩ : ∃ G, G = Grow Nothing w2 w3 := ⟨_, rfl⟩
  have GB := Lib.hid (show ∀ k, G k → w2.heap.size ≤ k ∧ k < w3.heap.size from fun k hk => by rw [hG] at hk; rcases hk with hk | hk; exact hk.elim; exact hk)
  have T3 := Lib.hid (show Sta w3 q G (fs.map fl) from by rw [hG]; exact hst)
  have S3 := Lib.hid (ST2.out.chg hc (fun _ _ h => h))
  have C3 := Lib.hid (C2.out.trans hc (fun _ _ h => h))
  have B3 := (hc.block w.heap.size (blk_lt B2.out) id).trans B2.out
  have Z3 := Lib.hid hc.size
  have i0 := blk_cell B3 0
  have i1 := blk_cell B3 1
  have i2 := blk_cell B3 2
  have i3 := blk_cell B3 3
  have B3 := Lib.hid B3
  clear hq hst hc hG ST2
  obtain ⟨V, hV⟩ : ∃ V, V = callsV c t f r ps cs fs := ⟨_, rfl⟩
  have VLN := Lib.hid (show V.2.1.length ≤ 512 from by rw [hV]; exact callsV_len)
  have VF := Lib.hid (show V.2.2.length = fs.length ∧ (∀ y ∈ V.2.2, y < 18446744073709551616) ∧ (∀ v ∈ V.2.1, ∃ n, v.Ok n) from by rw [hV]; exact callsV_fs HI.out.pin HI.out.cin FX.out)
  have SPL := Lib.hid (show ∀ k, V.1 = 0 → _ from fun k h0 => callsV_split (c := c) (t := t) (f := f) (r := r) HI.out.pin HI.out.cin FX.out k (show (callsV c t f r ps cs fs).1 = 0 from by rw [← hV]; exact h0))
  have ERR := Lib.hid (show V.1 ≠ 0 → V.2.1 = [] from by rw [hV]; exact callsV_err)
  have HV := Lib.hid hV
  clear hV
  obtain ⟨kk, hkk⟩ : ∃ kk, kk = cs.length / 2 := ⟨_, rfl⟩
  have hwk : wrap64 ((cs.length : Int) / 2) = ((kk : Nat) : Int) := by rw [IntWalk.wrap64_in _ ⟨by omega, by have := HCL.out; omega⟩]; omega
  have HKK := Lib.hid (show kk ≤ cs.length ∧ kk + (cs.length - kk) = cs.length from by omega)
  go_wp2_with fail
  simp only [hwk]
  refine (acalls_n c t f r pa pc ps ca cc cs p F fs _ S3.out w C3.out (fun k hk => by have := NEW.out k hk; omega) HPL.out HCL.out HI.out FX.out V HV.out).mono ?_
  rintro e w4 ⟨a1, k1, vh, rfl, he1, hr1, hs1, hc1⟩
  have E1 := Lib.hid he1
  have R1 := Lib.hid hr1
  have S4 := Lib.hid hs1
  have C4 := Lib.hid (C3.out.trans hc1 (fun k hk e => by have := NEW.out k e; omega))
  have T4 := Lib.hid (T3.out.chg hc1 (fun k hk e => by have := GB.out k hk; have := SGF.out k e; omega))
  have B4 := Lib.hid ((hc1.block w.heap.size (blk_lt B3.out) (fun e => by have := NEW.out _ e; omega)).trans B3.out)
  have Z4 := Lib.hid hc1.size
  have hvl := congrArg List.length he1
  rw [List.length_map] at hvl
  rw [hvl]
  have HVL := Lib.hid hvl
  clear he1 hr1 hs1 hc1 hvl i0 i1 i2 i3 hkk hwk
  by_cases hv0 : V.1 = 0
  case neg =>
    have q1 : (V.1 != 0) = true := by simpa using hv0
    have q2 : (V.1 == 0) = false := by simpa using hv0
    have hz : V.2.1.length = 0 := by rw [ERR.out hv0]; rfl
    rw [hz]
    have q3 : ((0 : Int) == 0) = true := rfl
    clear hv0
    go_wp2_with fail
    go_ret
    exact ⟨rfl, C4.out⟩
  have V0 := Lib.hid hv0
  have VC := Lib.hid (show V.2.1.length = cs.length from by rw [HV.out]; exact callsV_cnt (by rw [← HV.out]; exact hv0))
  rw [hv0, VC.out]
  clear hv0
  have SP := Lib.hid (SPL.out kk V0.out)
  obtain ⟨V1, hV1⟩ : ∃ V1, V1 = callsV c t f r ps (cs.take kk) fs := ⟨_, rfl⟩
  obtain ⟨V2, hV2⟩ : ∃ V2, V2 = callsV c t f r ps (cs.drop kk) V1.2.2 := ⟨_, rfl⟩
  have SPV := Lib.hid (show V1.1 = 0 ∧ V2.1 = 0 ∧ V.2.1 = V1.2.1 ++ V2.2.1 ∧ V.2.2 = V2.2.2 ∧ V1.2.1.length = (cs.take kk).length ∧ V.2.1.length = cs.length from by
    rw [hV2, hV1, HV.out]; exact SP.out)
  have F1 := Lib.hid (show V1.2.2.length = fs.length ∧ (∀ y ∈ V1.2.2, y < 18446744073709551616) ∧ (∀ v ∈ V1.2.1, ∃ n, v.Ok n) from by rw [hV1]; exact callsV_fs HI.out.pin (fun x hx => HI.out.cin x (List.mem_of_mem_take hx)) FX.out)
  have HV1 := Lib.hid hV1
  have HV2 := Lib.hid hV2
  have SK := Lib.hid (show ∀ W, Chg w4 W G → (W.cell? ⟨w.heap.size, 0, none⟩ = some (.int .i64 c) ∧ W.cell? ⟨w.heap.size, 1, none⟩ = some (.int .i64 t) ∧ W.cell? ⟨w.heap.size, 2, none⟩ = some (.int .i64 f) ∧ W.cell? ⟨w.heap.size, 3, none⟩ = some (.int .i64 r)) from fun W hW => by
    have B5 := (hW.block w.heap.size (blk_lt B4.out) (fun e => by have := GB.out _ e; have := blk_lt B2.out; omega)).trans B4.out
    exact ⟨blk_cell B5 0, blk_cell B5 1, blk_cell B5 2, blk_cell B5 3⟩)
  clear hV1 hV2 SP
  have hkl : kk ≤ cc := by have := HKK.out; have := HCC.out; omega
  have hkn : (kk : Int) ≤ (cc : Int) := by omega
  go_wp2_with fail
  refine beginL (fun W => W.cell? ⟨w.heap.size, 0, none⟩ = some (.int .i64 c) ∧ W.cell? ⟨w.heap.size, 1, none⟩ = some (.int .i64 t) ∧ W.cell? ⟨w.heap.size, 2, none⟩ = some (.int .i64 f) ∧ W.cell? ⟨w.heap.size, 3, none⟩ = some (.int .i64 r)) 12 (by kernel_rfl) (SK.out _ ((Chg.refl w4 G).drew)) (fun hHeld => ?_)
  refine takeL 0 2 (v := ?_) rfl (by kernel_rfl) (fun _ _ _ h => h) (by rfl) (by assumption) ?_ ?_
  rotate_left
  · (intro w hSw; (try dsimp only at hSw); go_simp; try with_reducible rfl)
  try simp only [Act.put, List.setIfInBounds_toArray, List.set_cons_zero, List.set_cons_succ]
  refine takeL 1 2 (v := ?_) rfl (by kernel_rfl) (fun _ _ _ h => h) (by rfl) (by assumption) ?_ ?_
  rotate_left
  · (intro w hSw; (try dsimp only at hSw); go_simp; try with_reducible rfl)
  try simp only [Act.put, List.setIfInBounds_toArray, List.set_cons_zero, List.set_cons_succ]
  refine takeL 2 2 (v := ?_) rfl (by kernel_rfl) (fun _ _ _ h => h) (by rfl) (by assumption) ?_ ?_
  rotate_left
  · (intro w hSw; (try dsimp only at hSw); go_simp; try with_reducible rfl)
  try simp only [Act.put, List.setIfInBounds_toArray, List.set_cons_zero, List.set_cons_succ]
  refine takeL 3 2 (v := ?_) rfl (by kernel_rfl) (fun _ _ _ h => h) (by rfl) (by assumption) ?_ ?_
  rotate_left
  · (intro w hSw; (try dsimp only at hSw); go_simp; try with_reducible rfl)
  try simp only [Act.put, List.setIfInBounds_toArray, List.set_cons_zero, List.set_cons_succ]
  refine takeL 4 2 (v := ?_) rfl (by kernel_rfl) (fun _ _ _ h => h) (by rfl) (by assumption) ?_ ?_
  rotate_left
  · (intro w hSw; (try dsimp only at hSw); go_simp; try with_reducible rfl)
  try simp only [Act.put, List.setIfInBounds_toArray, List.set_cons_zero, List.set_cons_succ]
  refine takeL 5 2 (v := ?_) rfl (by kernel_rfl) (fun _ _ _ h => h) (by rfl) (by assumption) ?_ ?_
  rotate_left
  · (intro w hSw; (try dsimp only at hSw); go_simp; try with_reducible rfl)
  try simp only [Act.put, List.setIfInBounds_toArray, List.set_cons_zero, List.set_cons_succ]
  refine oneL 6 rfl (by kernel_rfl) (by rfl) (fun K hK => ?_)
  go_simp
  go_at_call 51
  refine (acalls_m c t f r pa pc ps ca cc kk (cs.take kk) (by have := HKK.out; rw [List.length_take]; omega) q G fs _ (T4.out.chg (Chg.refl w4 Nothing).drew (fun _ _ h => h)) w (C4.out.trans (Chg.refl w4 Nothing).drew (fun _ _ h => h)) (fun k hk => by have := GB.out k hk; have := C2.out.size; omega) HPL.out (by have := HKK.out; have := HCL.out; omega) ⟨HI.out.pgs, cls_take HI.out.cls kk, HI.out.pin, fun x hx => HI.out.cin x (List.mem_of_mem_take hx)⟩ FX.out V1 HV1.out SPV.out.1).mono ?_
  rintro e w5 ⟨a2, k2, vh1, rfl, he2, hr2, hs2, hc2⟩
  have D5 := Lib.hid (show Chg w4 w5 G from ((Chg.refl w4 G).drew).trans hc2 (fun _ _ h => h))
  have E2 := Lib.hid he2
  have R2 := Lib.hid hr2
  have T5 := Lib.hid hs2
  clear he2 hr2 hs2 hc2
  go_wp2_with fail
  refine hK.out _ _ (SK.out _ D5.out) (fun hHeld => ?_)
  clear hK K
  try simp only [Act.put, List.setIfInBounds_toArray, List.set_cons_zero, List.set_cons_succ]
  refine takeL 7 2 (v := ?_) rfl (by kernel_rfl) (fun _ _ _ h => h) (by rfl) (by assumption) ?_ ?_
  rotate_left
  · (intro w hSw; (try dsimp only at hSw); go_simp; try with_reducible rfl)
  try simp only [Act.put, List.setIfInBounds_toArray, List.set_cons_zero, List.set_cons_succ]
  refine takeL 8 2 (v := ?_) rfl (by kernel_rfl) (fun _ _ _ h => h) (by rfl) (by assumption) ?_ ?_
  rotate_left
  · (intro w hSw; (try dsimp only at hSw); go_simp; try with_reducible rfl)
  try simp only [Act.put, List.setIfInBounds_toArray, List.set_cons_zero, List.set_cons_succ]
  refine takeL 9 2 (v := ?_) rfl (by kernel_rfl) (fun _ _ _ h => h) (by rfl) (by assumption) ?_ ?_
  rotate_left
  · (intro w hSw; (try dsimp only at hSw); go_simp; try with_reducible rfl)
  try simp only [Act.put, List.setIfInBounds_toArray, List.set_cons_zero, List.set_cons_succ]
  refine takeL 10 2 (v := ?_) rfl (by kernel_rfl) (fun _ _ _ h => h) (by rfl) (by assumption) ?_ ?_
  rotate_left
  · (intro w hSw; (try dsimp only at hSw); go_simp; try with_reducible rfl)
  try simp only [Act.put, List.setIfInBounds_toArray, List.set_cons_zero, List.set_cons_succ]
  refine takeL 11 2 (v := ?_) rfl (by kernel_rfl) (fun _ _ _ h => h) (by rfl) (by assumption) ?_ ?_
  rotate_left
  · (intro w hSw; (try dsimp only at hSw); go_simp; try with_reducible rfl)
  try simp only [Act.put, List.setIfInBounds_toArray, List.set_cons_zero, List.set_cons_succ]
  refine doneL (by kernel_rfl) ?_ _
  have hkle : kk ≤ cs.length := by have := HKK.out; omega
  have hkl2 : kk ≤ cc := by have := HKK.out; have := HCC.out; omega
  go_wp2_with fail
  refine beginL (fun W => W.cell? ⟨w.heap.size, 0, none⟩ = some (.int .i64 c) ∧ W.cell? ⟨w.heap.size, 1, none⟩ = some (.int .i64 t) ∧ W.cell? ⟨w.heap.size, 2, none⟩ = some (.int .i64 f) ∧ W.cell? ⟨w.heap.size, 3, none⟩ = some (.int .i64 r)) 12 (by kernel_rfl) (SK.out _ (D5.out.drew)) (fun hHeld => ?_)
  refine takeL 0 2 (v := ?_) rfl (by kernel_rfl) (fun _ _ _ h => h) (by rfl) (by assumption) ?_ ?_
  rotate_left
  · (intro w hSw; (try dsimp only at hSw); go_simp; try with_reducible rfl)
  try simp only [Act.put, List.setIfInBounds_toArray, List.set_cons_zero, List.set_cons_succ]
  refine takeL 1 2 (v := ?_) rfl (by kernel_rfl) (fun _ _ _ h => h) (by rfl) (by assumption) ?_ ?_
  rotate_left
  · (intro w hSw; (try dsimp only at hSw); go_simp; try with_reducible rfl)
  try simp only [Act.put, List.setIfInBounds_toArray, List.set_cons_zero, List.set_cons_succ]
  refine takeL 2 2 (v := ?_) rfl (by kernel_rfl) (fun _ _ _ h => h) (by rfl) (by assumption) ?_ ?_
  rotate_left
  · (intro w hSw; (try dsimp only at hSw); go_simp; try with_reducible rfl)
  try simp only [Act.put, List.setIfInBounds_toArray, List.set_cons_zero, List.set_cons_succ]
  refine takeL 3 2 (v := ?_) rfl (by kernel_rfl) (fun _ _ _ h => h) (by rfl) (by assumption) ?_ ?_
  rotate_left
  · (intro w hSw; (try dsimp only at hSw); go_simp; try with_reducible rfl)
  try simp only [Act.put, List.setIfInBounds_toArray, List.set_cons_zero, List.set_cons_succ]
  refine takeL 4 2 (v := ?_) rfl (by kernel_rfl) (fun _ _ _ h => h) (by rfl) (by assumption) ?_ ?_
  rotate_left
  · (intro w hSw; (try dsimp only at hSw); go_simp; try with_reducible rfl)
  try simp only [Act.put, List.setIfInBounds_toArray, List.set_cons_zero, List.set_cons_succ]
  refine takeL 5 2 (v := ?_) rfl (by kernel_rfl) (fun _ _ _ h => h) (by rfl) (by assumption) ?_ ?_
  rotate_left
  · (intro w hSw; (try dsimp only at hSw); go_simp; try with_reducible rfl)
  try simp only [Act.put, List.setIfInBounds_toArray, List.set_cons_zero, List.set_cons_succ]
  refine oneL 6 rfl (by kernel_rfl) (by rfl) (fun K hK => ?_)
  go_simp
  generalize hcx : (if cc = kk then ca else Option.map (fun x => x.add (kk * 2)) ca) = cx
  have CUT := Lib.hid (show Sees w cx (clV (cs.drop kk)) from by rw [← hcx]; exact cls_cut HI.out.cls HKK.out.1 HCC.out)
  clear hcx
  go_at_call 51
  refine (acalls_m c t f r pa pc ps cx (cc - kk) (cs.length - kk) (cs.drop kk) (List.length_drop ..) q G V1.2.2 _ (T5.out.chg (Chg.refl w5 Nothing).drew (fun _ _ h => h)) w ((C4.out.trans D5.out (fun k hk g => by have := GB.out k g; have := C2.out.size; omega)).trans (Chg.refl w5 Nothing).drew (fun _ _ h => h)) (fun k hk => by have := GB.out k hk; have := C2.out.size; omega) HPL.out (by have := HKK.out; have := HCL.out; omega) ⟨HI.out.pgs, CUT.out, HI.out.pin, fun x hx => HI.out.cin x (List.mem_of_mem_drop hx)⟩ F1.out.2.1 V2 HV2.out SPV.out.2.1).mono ?_
  rintro e w6 ⟨a3, k3, vh2, rfl, he3, hr3, hs3, hc3⟩
  have D6 := Lib.hid (show Chg w5 w6 G from ((Chg.refl w5 G).drew).trans hc3 (fun _ _ h => h))
  have E3 := Lib.hid he3
  have R3 := Lib.hid hr3
  have T6_ := Lib.hid hs3
  clear he3 hr3 hs3 hc3
  go_wp2_with fail
  refine hK.out _ _ (SK.out _ (D5.out.trans D6.out (fun _ _ h => h))) (fun hHeld => ?_)
  clear hK K
  try simp only [Act.put, List.setIfInBounds_toArray, List.set_cons_zero, List.set_cons_succ]
  refine takeL 7 2 (v := ?_) rfl (by kernel_rfl) (fun _ _ _ h => h) (by rfl) (by assumption) ?_ ?_
  rotate_left
  · (intro w hSw; (try dsimp only at hSw); go_simp; try with_reducible rfl)
  try simp only [Act.put, List.setIfInBounds_toArray, List.set_cons_zero, List.set_cons_succ]
  refine takeL 8 2 (v := ?_) rfl (by kernel_rfl) (fun _ _ _ h => h) (by rfl) (by assumption) ?_ ?_
  rotate_left
  · (intro w hSw; (try dsimp only at hSw); go_simp; try with_reducible rfl)
  try simp only [Act.put, List.setIfInBounds_toArray, List.set_cons_zero, List.set_cons_succ]
  refine takeL 9 2 (v := ?_) rfl (by kernel_rfl) (fun _ _ _ h => h) (by rfl) (by assumption) ?_ ?_
  rotate_left
  · (intro w hSw; (try dsimp only at hSw); go_simp; try with_reducible rfl)
  try simp only [Act.put, List.setIfInBounds_toArray, List.set_cons_zero, List.set_cons_succ]
  refine takeL 10 2 (v := ?_) rfl (by kernel_rfl) (fun _ _ _ h => h) (by rfl) (by assumption) ?_ ?_
  rotate_left
  · (intro w hSw; (try dsimp only at hSw); go_simp; try with_reducible rfl)
  try simp only [Act.put, List.setIfInBounds_toArray, List.set_cons_zero, List.set_cons_succ]
  refine takeL 11 2 (v := ?_) rfl (by kernel_rfl) (fun _ _ _ h => h) (by rfl) (by assumption) ?_ ?_
  rotate_left
  · (intro w hSw; (try dsimp only at hSw); go_simp; try with_reducible rfl)
  try simp only [Act.put, List.setIfInBounds_toArray, List.set_cons_zero, List.set_cons_succ]
  refine doneL (by kernel_rfl) ?_ _
  clear hkle hkl2 hkl hkn
  obtain ⟨mm, hmm⟩ : ∃ mm, cs.length - kk = mm := ⟨_, rfl⟩
  obtain ⟨nn, hnn⟩ : ∃ nn, cs.length = nn := ⟨_, rfl⟩
  have HMM := Lib.hid (show kk + mm = nn from by have := HKK.out; omega)
  have HNN := Lib.hid hnn
  have hwm : wrap64 ((kk : Int) + (mm : Int)) = (nn : Int) := by rw [IntWalk.wrap64_in _ ⟨by omega, by have := HMM.out; have := HNN.out; have := HCL.out; omega⟩]; have := HMM.out; omega
  rw [hmm, hnn]
  have q1 : ((kk : Int) != (kk : Int)) = false := by simp
  have q2 : ((kk : Int) == (kk : Int)) = true := by simp
  have q3 : ((nn : Int) != (nn : Int)) = false := by simp
  have q4 : ((nn : Int) == (nn : Int)) = true := by simp
  have D46 := Lib.hid (D5.out.trans D6.out (fun _ _ h => h))
  have S6 := Lib.hid (show Sta w6 p F (V.2.2.map fl) from S4.out.chg D46.out (fun k hk g => by have := GB.out k g; have := SGF.out k hk; omega))
  have T6_ := Lib.hid (show Sta w6 q G (V.2.2.map fl) from by rw [SPV.out.2.2.2.1]; exact T6_.out)
  have C6 := Lib.hid (C4.out.trans D46.out (fun k hk g => by have := GB.out k g; have := C2.out.size; omega))
  have XA0 := Lib.hid ((R1.out.chg D46.out (B' := fun b => w3.heap.size ≤ b) (fun b hb _ => ⟨hb, fun g => by have := GB.out _ g; omega⟩)).res)
  have XA1 := Lib.hid ((R2.out.chg D6.out (B' := fun b => w4.heap.size ≤ b) (fun b hb _ => ⟨by simpa using hb, fun g => by have := GB.out _ g; have := Z4.out; simp at hb; omega⟩)).res)
  have XA2 := Lib.hid R3.out.res
  have VL := Lib.hid (VF.out.1.trans FL.out)
  have EA := Lib.hid (show vh.map (·.1) = vh1.map (·.1) ++ vh2.map (·.1) from by rw [E1.out, E2.out, E3.out]; exact SPV.out.2.2.1)
  have LA := Lib.hid (show vh.length = nn ∧ vh1.length = kk ∧ vh2.length = mm from by
    have h1 := congrArg List.length E1.out
    have h2 := congrArg List.length E2.out
    have h3 := congrArg List.length EA.out
    rw [List.length_map] at h1 h2
    rw [List.length_map, List.length_append, List.length_map, List.length_map] at h3
    have h4 := SPV.out.2.2.2.2.1
    rw [List.length_take] at h4
    have h5 := VC.out
    have h6 := HMM.out
    have h7 := HNN.out
    omega)
  have OKS := Lib.hid VF.out.2.2
  have HNC := Lib.hid (show nn ≤ 9223372036854775807 from by have := HNN.out; have := HCL.out; omega)
  clear hmm hnn
  go_wp2_with fail
  refine (all_n p start.length F V.2.2 _ S6.out VL.out H2.out).mono ?_
  rintro e w7 ⟨la1, lc1, rfl, ho, hc⟩
  have C7 := Lib.hid hc
  have OA1 := Lib.hid ho
  clear ho hc
  go_wp2_with fail
  refine (all_n q start.length G V.2.2 _ (T6_.out.chg C7.out (fun _ _ h => h)) VL.out H2.out).mono ?_
  rintro e w8 ⟨la2, lc2, rfl, ho, hc⟩
  have C8 := Lib.hid hc
  have OA2 := Lib.hid ho
  clear ho hc
  go_wp2_with fail
  refine (exact09_n la1 la2 lc1 lc2 start.length V.2.2 _ ((Sees.of_owns OA1.out).chg C8.out) (Sees.of_owns OA2.out) VL.out (by have := H2.out; omega)).mono ?_
  rintro e w9 ⟨rfl, hc⟩
  have C9 := Lib.hid ((C7.out.trans C8.out (fun _ _ h => h)).trans hc (fun _ _ h => h))
  clear hc
  have XA0 := Lib.hid (XA0.out.quiet C9.out)
  have XA1 := Lib.hid (XA1.out.quiet C9.out)
  have XA2 := Lib.hid (XA2.out.quiet C9.out)
  have CC := Lib.hid (C6.out.trans C9.out (fun _ _ h => h))
  go_wp2_with fail
  go_loopg [109] nn (fun k u wr => ∃ i : Nat, i + k = nn ∧ u = .int .i64 ((i : Nat) : Int) ∧ Chg w9 wr Nothing)
  case atStart => exact ⟨0, by simp, rfl, Chg.refl _ _⟩
  case round =>
    obtain ⟨i, hi, rfl, hc⟩ := hrel
    have XC := Lib.hid hc
    obtain ⟨wA, rfl⟩ : ∃ wA, wA = wr := ⟨_, rfl⟩
    clear hc
    by_cases hlt : i < nn
    · have hd : decide (i < nn) = true := by simpa using hlt
      have hd2 : decide ((i : Int) < (nn : Int)) = true := decide_eq_true (by omega)
      have hni : (i : Int) < (nn : Int) := by omega
      have hwi : IntKind.i64.wrap ((i : Int) + 1) = ((i + 1 : Nat) : Int) := (IntWalk.i64_in ((i : Int) + 1) (by have := HNC.out; omega)).trans (by omega)
      obtain ⟨x, hx⟩ : ∃ x, vh[i]? = some x := ⟨_, List.getElem?_eq_getElem (by have := LA.out.1; omega)⟩
      have EX := Lib.hid (show (vh1.map (·.1) ++ vh2.map (·.1))[i]? = some x.1 from by rw [← EA.out, List.getElem?_map, hx]; rfl)
      obtain ⟨b1, o1, ha1, g1⟩ := seven_at XA0.out.sees hx
      obtain ⟨m, VO⟩ := OKS.out x.1 (by rw [← E1.out]; exact List.mem_map.2 ⟨x, List.mem_of_getElem? hx, rfl⟩)
      have XI0 := Lib.hid (XA0.out.all x (List.mem_of_getElem? hx))
      by_cases hik : i < kk
      · have hk1 : decide ((i : Int) < (kk : Int)) = true := decide_eq_true (by omega)
        have hk2 : decide ((kk : Int) ≤ (i : Int)) = false := decide_eq_false (by omega)
        have hki : (i : Int) < (kk : Int) := by omega
        have hk3 : decide (kk ≤ i) = false := decide_eq_false (by omega)
        have hk4 : decide (i < kk) = true := decide_eq_true (by omega)
        obtain ⟨y, hy⟩ : ∃ h2, vh1[i]? = some (x.1, h2) := at_left EX.out (by rw [LA.out.2.1]; exact hik)
        obtain ⟨b2, o2, ha2, g2⟩ := seven_at XA1.out.sees hy
        have YI0 := Lib.hid (XA1.out.all _ (List.mem_of_getElem? hy))
        obtain ⟨v, ao, co, ar, cr, aw, cw⟩ := x
        obtain ⟨bo, do_, br, dr, bw, dw⟩ := y
        dsimp only at g1 g2 VO
        have VOK := Lib.hid VO
        obtain ⟨wB, hwB⟩ : ∃ wB, wB = wA.alloc (.cells #[.int .i64 v.how.1, .int .i64 v.how.2.1, .int .i64 v.how.2.2, .slice ao v.out.length co, .slice ar v.reads.length cr, .slice aw v.buf.length cw, .int .i64 (v.used : Int)] 69 (0, 0)) := ⟨_, rfl⟩
        have HWB := Lib.hid hwB
        have CAB := Lib.hid (show Chg wA wB Nothing from by rw [hwB]; exact (Chg.refl wA _).alloc _)
        have XB := Lib.hid (show wB.heap[wA.heap.size]? = some (.cells #[.int .i64 v.how.1, .int .i64 v.how.2.1, .int .i64 v.how.2.2, .slice ao v.out.length co, .slice ar v.reads.length cr, .slice aw v.buf.length cw, .int .i64 (v.used : Int)] 69 (0, 0)) from by rw [hwB]; exact heap_alloc_new wA _)
        have XI := Lib.hid ((XI0.out.quiet XC.out).quiet CAB.out)
        have YI := Lib.hid ((YI0.out.quiet XC.out).quiet CAB.out)
        have p0 : wA.cell? ⟨b1, o1 + i * 7, none⟩ = some (.int .i64 v.how.1) := XC.out.cell (g1 0 _ rfl) id
        have p1 := XC.out.cell (g1 1 _ rfl) id
        have p2 := XC.out.cell (g1 2 _ rfl) id
        have p3 := XC.out.cell (g1 3 _ rfl) id
        have p4 := XC.out.cell (g1 4 _ rfl) id
        have p5 := XC.out.cell (g1 5 _ rfl) id
        have p6 := XC.out.cell (g1 6 _ rfl) id
        have SK20 := Lib.hid (show ∀ W, Chg wB W Nothing → (W.cell? ⟨wA.heap.size, 0, none⟩ = some (.int .i64 v.how.1) ∧ W.cell? ⟨wA.heap.size, 1, none⟩ = some (.int .i64 v.how.2.1) ∧ W.cell? ⟨wA.heap.size, 2, none⟩ = some (.int .i64 v.how.2.2) ∧ W.cell? ⟨wA.heap.size, 3, none⟩ = some (.slice ao v.out.length co) ∧ W.cell? ⟨wA.heap.size, 4, none⟩ = some (.slice ar v.reads.length cr) ∧ W.cell? ⟨wA.heap.size, 5, none⟩ = some (.slice aw v.buf.length cw) ∧ W.cell? ⟨wA.heap.size, 6, none⟩ = some (.int .i64 (v.used : Int)) ∧ W.cell? ⟨b2, o2 + i * 7, none⟩ = some (.int .i64 v.how.1) ∧ W.cell? ⟨b2, o2 + i * 7 + 1, none⟩ = some (.int .i64 v.how.2.1) ∧ W.cell? ⟨b2, o2 + i * 7 + 2, none⟩ = some (.int .i64 v.how.2.2) ∧ W.cell? ⟨b2, o2 + i * 7 + 3, none⟩ = some (.slice bo v.out.length do_) ∧ W.cell? ⟨b2, o2 + i * 7 + 4, none⟩ = some (.slice br v.reads.length dr) ∧ W.cell? ⟨b2, o2 + i * 7 + 5, none⟩ = some (.slice bw v.buf.length dw) ∧ W.cell? ⟨b2, o2 + i * 7 + 6, none⟩ = some (.int .i64 (v.used : Int))) from fun W hW => by
          have hW2 := (XC.out.trans CAB.out (fun _ _ h => h)).trans hW (fun _ _ h => h)
          have X3 := (hW.block wA.heap.size (blk_lt XB.out) id).trans XB.out
          exact ⟨blk_cell X3 0, blk_cell X3 1, blk_cell X3 2, blk_cell X3 3, blk_cell X3 4, blk_cell X3 5, blk_cell X3 6, hW2.cell (g2 0 _ rfl) id, hW2.cell (g2 1 _ rfl) id, hW2.cell (g2 2 _ rfl) id, hW2.cell (g2 3 _ rfl) id, hW2.cell (g2 4 _ rfl) id, hW2.cell (g2 5 _ rfl) id, hW2.cell (g2 6 _ rfl) id⟩)
        clear hx hy g2 VO hwB
        subst ha1 ha2
        go_wp2_with fail
        rw [← HWB.out]
        refine beginL (fun W => W.cell? ⟨wA.heap.size, 0, none⟩ = some (.int .i64 v.how.1) ∧ W.cell? ⟨wA.heap.size, 1, none⟩ = some (.int .i64 v.how.2.1) ∧ W.cell? ⟨wA.heap.size, 2, none⟩ = some (.int .i64 v.how.2.2) ∧ W.cell? ⟨wA.heap.size, 3, none⟩ = some (.slice ao v.out.length co) ∧ W.cell? ⟨wA.heap.size, 4, none⟩ = some (.slice ar v.reads.length cr) ∧ W.cell? ⟨wA.heap.size, 5, none⟩ = some (.slice aw v.buf.length cw) ∧ W.cell? ⟨wA.heap.size, 6, none⟩ = some (.int .i64 (v.used : Int)) ∧ W.cell? ⟨b2, o2 + i * 7, none⟩ = some (.int .i64 v.how.1) ∧ W.cell? ⟨b2, o2 + i * 7 + 1, none⟩ = some (.int .i64 v.how.2.1) ∧ W.cell? ⟨b2, o2 + i * 7 + 2, none⟩ = some (.int .i64 v.how.2.2) ∧ W.cell? ⟨b2, o2 + i * 7 + 3, none⟩ = some (.slice bo v.out.length do_) ∧ W.cell? ⟨b2, o2 + i * 7 + 4, none⟩ = some (.slice br v.reads.length dr) ∧ W.cell? ⟨b2, o2 + i * 7 + 5, none⟩ = some (.slice bw v.buf.length dw) ∧ W.cell? ⟨b2, o2 + i * 7 + 6, none⟩ = some (.int .i64 (v.used : Int))) 28 (by kernel_rfl) (SK20.out _ ((Chg.refl wB Nothing).drew)) (fun hHeld => ?_)
        refine takeL 0 2 (v := ?_) rfl (by kernel_rfl) (fun _ _ _ h => h) (by rfl) (by assumption) ?_ ?_
        rotate_left
        · (intro w hSw; (try dsimp only at hSw); go_simp; try with_reducible rfl)
        try simp only [Act.put, List.setIfInBounds_toArray, List.set_cons_zero, List.set_cons_succ]
        refine takeL 1 2 (v := ?_) rfl (by kernel_rfl) (fun _ _ _ h => h) (by rfl) (by assumption) ?_ ?_
        rotate_left
        · (intro w hSw; (try dsimp only at hSw); go_simp; try with_reducible rfl)
        try simp only [Act.put, List.setIfInBounds_toArray, List.set_cons_zero, List.set_cons_succ]
        refine takeL 2 2 (v := ?_) rfl (by kernel_rfl) (fun _ _ _ h => h) (by rfl) (by assumption) ?_ ?_
        rotate_left
        · (intro w hSw; (try dsimp only at hSw); go_simp; try with_reducible rfl)
        try simp only [Act.put, List.setIfInBounds_toArray, List.set_cons_zero, List.set_cons_succ]
        refine takeL 3 2 (v := ?_) rfl (by kernel_rfl) (fun _ _ _ h => h) (by rfl) (by assumption) ?_ ?_
        rotate_left
        · (intro w hSw; (try dsimp only at hSw); go_simp; try with_reducible rfl)
        try simp only [Act.put, List.setIfInBounds_toArray, List.set_cons_zero, List.set_cons_succ]
        refine takeL 4 2 (v := ?_) rfl (by kernel_rfl) (fun _ _ _ h => h) (by rfl) (by assumption) ?_ ?_
        rotate_left
        · (intro w hSw; (try dsimp only at hSw); go_simp; try with_reducible rfl)
        try simp only [Act.put, List.setIfInBounds_toArray, List.set_cons_zero, List.set_cons_succ]
        refine takeL 5 2 (v := ?_) rfl (by kernel_rfl) (fun _ _ _ h => h) (by rfl) (by assumption) ?_ ?_
        rotate_left
        · (intro w hSw; (try dsimp only at hSw); go_simp; try with_reducible rfl)
        try simp only [Act.put, List.setIfInBounds_toArray, List.set_cons_zero, List.set_cons_succ]
        refine takeL 6 2 (v := ?_) rfl (by kernel_rfl) (fun _ _ _ h => h) (by rfl) (by assumption) ?_ ?_
        rotate_left
        · (intro w hSw; (try dsimp only at hSw); go_simp; try with_reducible rfl)
        try simp only [Act.put, List.setIfInBounds_toArray, List.set_cons_zero, List.set_cons_succ]
        refine takeL 7 2 (v := ?_) rfl (by kernel_rfl) (fun _ _ _ h => h) (by rfl) (by assumption) ?_ ?_
        rotate_left
        · (intro w hSw; (try dsimp only at hSw); go_simp; try with_reducible rfl)
        try simp only [Act.put, List.setIfInBounds_toArray, List.set_cons_zero, List.set_cons_succ]
        refine takeL 8 2 (v := ?_) rfl (by kernel_rfl) (fun _ _ _ h => h) (by rfl) (by assumption) ?_ ?_
        rotate_left
        · (intro w hSw; (try dsimp only at hSw); go_simp; try with_reducible rfl)
        try simp only [Act.put, List.setIfInBounds_toArray, List.set_cons_zero, List.set_cons_succ]
        refine oneL 9 rfl (by kernel_rfl) (by rfl) (fun K hK => ?_)
        go_simp
        go_at_call 42
        refine (result09_true v.how (v.used : Int) v.out v.reads v.buf ao ar aw bo br bw co cr cw do_ dr dw _ (XI.out.out.chg (Chg.refl wB Nothing).drew) (XI.out.reads.chg (Chg.refl wB Nothing).drew) (XI.out.buf.chg (Chg.refl wB Nothing).drew) (YI.out.out.chg (Chg.refl wB Nothing).drew) (YI.out.reads.chg (Chg.refl wB Nothing).drew) (YI.out.buf.chg (Chg.refl wB Nothing).drew) VOK.out.out VOK.out.reads VOK.out.buf).mono ?_
        rintro e w19 ⟨rfl, hc⟩
        have D19 := Lib.hid (show Chg wB w19 Nothing from ((Chg.refl wB Nothing).drew).trans hc (fun _ _ h => h))
        clear hc
        go_wp2_with fail
        refine hK.out _ _ (SK20.out _ D19.out) (fun hHeld => ?_)
        clear hK K
        try simp only [Act.put, List.setIfInBounds_toArray, List.set_cons_zero, List.set_cons_succ]
        refine takeL 10 2 (v := ?_) rfl (by kernel_rfl) (fun _ _ _ h => h) (by rfl) (by assumption) ?_ ?_
        rotate_left
        · (intro w hSw; (try dsimp only at hSw); go_simp; try with_reducible rfl)
        try simp only [Act.put, List.setIfInBounds_toArray, List.set_cons_zero, List.set_cons_succ]
        refine takeL 11 2 (v := ?_) rfl (by kernel_rfl) (fun _ _ _ h => h) (by rfl) (by assumption) ?_ ?_
        rotate_left
        · (intro w hSw; (try dsimp only at hSw); go_simp; try with_reducible rfl)
        try simp only [Act.put, List.setIfInBounds_toArray, List.set_cons_zero, List.set_cons_succ]
        refine takeL 12 2 (v := ?_) rfl (by kernel_rfl) (fun _ _ _ h => h) (by rfl) (by assumption) ?_ ?_
        rotate_left
        · (intro w hSw; (try dsimp only at hSw); go_simp; try with_reducible rfl)
        try simp only [Act.put, List.setIfInBounds_toArray, List.set_cons_zero, List.set_cons_succ]
        refine takeL 13 2 (v := ?_) rfl (by kernel_rfl) (fun _ _ _ h => h) (by rfl) (by assumption) ?_ ?_
        rotate_left
        · (intro w hSw; (try dsimp only at hSw); go_simp; try with_reducible rfl)
        try simp only [Act.put, List.setIfInBounds_toArray, List.set_cons_zero, List.set_cons_succ]
        refine takeL 14 2 (v := ?_) rfl (by kernel_rfl) (fun _ _ _ h => h) (by rfl) (by assumption) ?_ ?_
        rotate_left
        · (intro w hSw; (try dsimp only at hSw); go_simp; try with_reducible rfl)
        try simp only [Act.put, List.setIfInBounds_toArray, List.set_cons_zero, List.set_cons_succ]
        refine takeL 15 2 (v := ?_) rfl (by kernel_rfl) (fun _ _ _ h => h) (by rfl) (by assumption) ?_ ?_
        rotate_left
        · (intro w hSw; (try dsimp only at hSw); go_simp; try with_reducible rfl)
        try simp only [Act.put, List.setIfInBounds_toArray, List.set_cons_zero, List.set_cons_succ]
        refine takeL 16 2 (v := ?_) rfl (by kernel_rfl) (fun _ _ _ h => h) (by rfl) (by assumption) ?_ ?_
        rotate_left
        · (intro w hSw; (try dsimp only at hSw); go_simp; try with_reducible rfl)
        try simp only [Act.put, List.setIfInBounds_toArray, List.set_cons_zero, List.set_cons_succ]
        refine skipL 17 2 rfl (by kernel_rfl) (fun _ _ _ h => h) (by rfl) (by assumption) ?_
        try simp only [Act.put, List.setIfInBounds_toArray, List.set_cons_zero, List.set_cons_succ]
        refine skipL 18 2 rfl (by kernel_rfl) (fun _ _ _ h => h) (by rfl) (by assumption) ?_
        try simp only [Act.put, List.setIfInBounds_toArray, List.set_cons_zero, List.set_cons_succ]
        refine skipL 19 2 rfl (by kernel_rfl) (fun _ _ _ h => h) (by rfl) (by assumption) ?_
        try simp only [Act.put, List.setIfInBounds_toArray, List.set_cons_zero, List.set_cons_succ]
        refine skipL 20 2 rfl (by kernel_rfl) (fun _ _ _ h => h) (by rfl) (by assumption) ?_
        try simp only [Act.put, List.setIfInBounds_toArray, List.set_cons_zero, List.set_cons_succ]
        refine skipL 21 2 rfl (by kernel_rfl) (fun _ _ _ h => h) (by rfl) (by assumption) ?_
        try simp only [Act.put, List.setIfInBounds_toArray, List.set_cons_zero, List.set_cons_succ]
        refine skipL 22 2 rfl (by kernel_rfl) (fun _ _ _ h => h) (by rfl) (by assumption) ?_
        try simp only [Act.put, List.setIfInBounds_toArray, List.set_cons_zero, List.set_cons_succ]
        refine skipL 23 2 rfl (by kernel_rfl) (fun _ _ _ h => h) (by rfl) (by assumption) ?_
        try simp only [Act.put, List.setIfInBounds_toArray, List.set_cons_zero, List.set_cons_succ]
        refine skipL 24 2 rfl (by kernel_rfl) (fun _ _ _ h => h) (by rfl) (by assumption) ?_
        try simp only [Act.put, List.setIfInBounds_toArray, List.set_cons_zero, List.set_cons_succ]
        refine skipL 25 2 rfl (by kernel_rfl) (fun _ _ _ h => h) (by rfl) (by assumption) ?_
        try simp only [Act.put, List.setIfInBounds_toArray, List.set_cons_zero, List.set_cons_succ]
        refine takeL 26 2 (v := ?_) rfl (by kernel_rfl) (fun _ _ _ h => h) (by rfl) (by assumption) ?_ ?_
        rotate_left
        · (intro w hSw; (try dsimp only at hSw); go_simp; try with_reducible rfl)
        try simp only [Act.put, List.setIfInBounds_toArray, List.set_cons_zero, List.set_cons_succ]
        refine takeL 27 2 (v := ?_) rfl (by kernel_rfl) (fun _ _ _ h => h) (by rfl) (by assumption) ?_ ?_
        rotate_left
        · (intro w hSw; (try dsimp only at hSw); go_simp; try with_reducible rfl)
        try simp only [Act.put, List.setIfInBounds_toArray, List.set_cons_zero, List.set_cons_succ]
        refine doneL (by kernel_rfl) ?_ _
        go_wp2_with fail
        go_roundg (gk - 1)
        case measure => omega
        case rel => exact ⟨i + 1, by omega, by first | rfl | go_num, (XC.out.trans CAB.out (fun _ _ h => h)).trans D19.out (fun _ _ h => h)⟩
      · have hk1 : decide ((i : Int) < (kk : Int)) = false := decide_eq_false (by omega)
        have hk2 : decide ((kk : Int) ≤ (i : Int)) = true := decide_eq_true (by omega)
        have hk3 : decide (kk ≤ i) = true := decide_eq_true (by omega)
        have hk4 : decide (i < kk) = false := decide_eq_false (by omega)
        obtain ⟨j, hj⟩ : ∃ j, i = kk + j := ⟨i - kk, by omega⟩
        have hjw : IntKind.i64.wrap ((i : Int) - (kk : Int)) = (j : Int) := (IntWalk.i64_in ((i : Int) - (kk : Int)) (by have := HNC.out; omega)).trans (by omega)
        have hjm : (j : Int) < (mm : Int) := by have := HMM.out; omega
        have hjn : j < mm := by omega
        have HJ := Lib.hid hj
        clear hj
        obtain ⟨y, hy⟩ : ∃ h2, vh2[j]? = some (x.1, h2) := at_right EX.out (by rw [LA.out.2.1]; exact HJ.out)
        obtain ⟨b2, o2, ha2, g2⟩ := seven_at XA2.out.sees hy
        have YI0 := Lib.hid (XA2.out.all _ (List.mem_of_getElem? hy))
        obtain ⟨v, ao, co, ar, cr, aw, cw⟩ := x
        obtain ⟨bo, do_, br, dr, bw, dw⟩ := y
        dsimp only at g1 g2 VO
        have VOK := Lib.hid VO
        obtain ⟨wB, hwB⟩ : ∃ wB, wB = wA.alloc (.cells #[.int .i64 v.how.1, .int .i64 v.how.2.1, .int .i64 v.how.2.2, .slice ao v.out.length co, .slice ar v.reads.length cr, .slice aw v.buf.length cw, .int .i64 (v.used : Int)] 69 (0, 0)) := ⟨_, rfl⟩
        have HWB := Lib.hid hwB
        have CAB := Lib.hid (show Chg wA wB Nothing from by rw [hwB]; exact (Chg.refl wA _).alloc _)
        have XB := Lib.hid (show wB.heap[wA.heap.size]? = some (.cells #[.int .i64 v.how.1, .int .i64 v.how.2.1, .int .i64 v.how.2.2, .slice ao v.out.length co, .slice ar v.reads.length cr, .slice aw v.buf.length cw, .int .i64 (v.used : Int)] 69 (0, 0)) from by rw [hwB]; exact heap_alloc_new wA _)
        have XI := Lib.hid ((XI0.out.quiet XC.out).quiet CAB.out)
        have YI := Lib.hid ((YI0.out.quiet XC.out).quiet CAB.out)
        have p0 : wA.cell? ⟨b1, o1 + i * 7, none⟩ = some (.int .i64 v.how.1) := XC.out.cell (g1 0 _ rfl) id
        have p1 := XC.out.cell (g1 1 _ rfl) id
        have p2 := XC.out.cell (g1 2 _ rfl) id
        have p3 := XC.out.cell (g1 3 _ rfl) id
        have p4 := XC.out.cell (g1 4 _ rfl) id
        have p5 := XC.out.cell (g1 5 _ rfl) id
        have p6 := XC.out.cell (g1 6 _ rfl) id
        have SK20 := Lib.hid (show ∀ W, Chg wB W Nothing → (W.cell? ⟨wA.heap.size, 0, none⟩ = some (.int .i64 v.how.1) ∧ W.cell? ⟨wA.heap.size, 1, none⟩ = some (.int .i64 v.how.2.1) ∧ W.cell? ⟨wA.heap.size, 2, none⟩ = some (.int .i64 v.how.2.2) ∧ W.cell? ⟨wA.heap.size, 3, none⟩ = some (.slice ao v.out.length co) ∧ W.cell? ⟨wA.heap.size, 4, none⟩ = some (.slice ar v.reads.length cr) ∧ W.cell? ⟨wA.heap.size, 5, none⟩ = some (.slice aw v.buf.length cw) ∧ W.cell? ⟨wA.heap.size, 6, none⟩ = some (.int .i64 (v.used : Int)) ∧ W.cell? ⟨b2, o2 + j * 7, none⟩ = some (.int .i64 v.how.1) ∧ W.cell? ⟨b2, o2 + j * 7 + 1, none⟩ = some (.int .i64 v.how.2.1) ∧ W.cell? ⟨b2, o2 + j * 7 + 2, none⟩ = some (.int .i64 v.how.2.2) ∧ W.cell? ⟨b2, o2 + j * 7 + 3, none⟩ = some (.slice bo v.out.length do_) ∧ W.cell? ⟨b2, o2 + j * 7 + 4, none⟩ = some (.slice br v.reads.length dr) ∧ W.cell? ⟨b2, o2 + j * 7 + 5, none⟩ = some (.slice bw v.buf.length dw) ∧ W.cell? ⟨b2, o2 + j * 7 + 6, none⟩ = some (.int .i64 (v.used : Int))) from fun W hW => by
          have hW2 := (XC.out.trans CAB.out (fun _ _ h => h)).trans hW (fun _ _ h => h)
          have X3 := (hW.block wA.heap.size (blk_lt XB.out) id).trans XB.out
          exact ⟨blk_cell X3 0, blk_cell X3 1, blk_cell X3 2, blk_cell X3 3, blk_cell X3 4, blk_cell X3 5, blk_cell X3 6, hW2.cell (g2 0 _ rfl) id, hW2.cell (g2 1 _ rfl) id, hW2.cell (g2 2 _ rfl) id, hW2.cell (g2 3 _ rfl) id, hW2.cell (g2 4 _ rfl) id, hW2.cell (g2 5 _ rfl) id, hW2.cell (g2 6 _ rfl) id⟩)
        clear hx hy g2 VO hwB
        subst ha1 ha2
        go_wp2_with fail
        rw [← HWB.out]
        refine beginL (fun W => W.cell? ⟨wA.heap.size, 0, none⟩ = some (.int .i64 v.how.1) ∧ W.cell? ⟨wA.heap.size, 1, none⟩ = some (.int .i64 v.how.2.1) ∧ W.cell? ⟨wA.heap.size, 2, none⟩ = some (.int .i64 v.how.2.2) ∧ W.cell? ⟨wA.heap.size, 3, none⟩ = some (.slice ao v.out.length co) ∧ W.cell? ⟨wA.heap.size, 4, none⟩ = some (.slice ar v.reads.length cr) ∧ W.cell? ⟨wA.heap.size, 5, none⟩ = some (.slice aw v.buf.length cw) ∧ W.cell? ⟨wA.heap.size, 6, none⟩ = some (.int .i64 (v.used : Int)) ∧ W.cell? ⟨b2, o2 + j * 7, none⟩ = some (.int .i64 v.how.1) ∧ W.cell? ⟨b2, o2 + j * 7 + 1, none⟩ = some (.int .i64 v.how.2.1) ∧ W.cell? ⟨b2, o2 + j * 7 + 2, none⟩ = some (.int .i64 v.how.2.2) ∧ W.cell? ⟨b2, o2 + j * 7 + 3, none⟩ = some (.slice bo v.out.length do_) ∧ W.cell? ⟨b2, o2 + j * 7 + 4, none⟩ = some (.slice br v.reads.length dr) ∧ W.cell? ⟨b2, o2 + j * 7 + 5, none⟩ = some (.slice bw v.buf.length dw) ∧ W.cell? ⟨b2, o2 + j * 7 + 6, none⟩ = some (.int .i64 (v.used : Int))) 28 (by kernel_rfl) (SK20.out _ ((Chg.refl wB Nothing).drew)) (fun hHeld => ?_)
        refine takeL 0 2 (v := ?_) rfl (by kernel_rfl) (fun _ _ _ h => h) (by rfl) (by assumption) ?_ ?_
        rotate_left
        · (intro w hSw; (try dsimp only at hSw); go_simp; try with_reducible rfl)
        try simp only [Act.put, List.setIfInBounds_toArray, List.set_cons_zero, List.set_cons_succ]
        refine takeL 1 2 (v := ?_) rfl (by kernel_rfl) (fun _ _ _ h => h) (by rfl) (by assumption) ?_ ?_
        rotate_left
        · (intro w hSw; (try dsimp only at hSw); go_simp; try with_reducible rfl)
        try simp only [Act.put, List.setIfInBounds_toArray, List.set_cons_zero, List.set_cons_succ]
        refine takeL 2 2 (v := ?_) rfl (by kernel_rfl) (fun _ _ _ h => h) (by rfl) (by assumption) ?_ ?_
        rotate_left
        · (intro w hSw; (try dsimp only at hSw); go_simp; try with_reducible rfl)
        try simp only [Act.put, List.setIfInBounds_toArray, List.set_cons_zero, List.set_cons_succ]
        refine takeL 3 2 (v := ?_) rfl (by kernel_rfl) (fun _ _ _ h => h) (by rfl) (by assumption) ?_ ?_
        rotate_left
        · (intro w hSw; (try dsimp only at hSw); go_simp; try with_reducible rfl)
        try simp only [Act.put, List.setIfInBounds_toArray, List.set_cons_zero, List.set_cons_succ]
        refine skipL 4 2 rfl (by kernel_rfl) (fun _ _ _ h => h) (by rfl) (by assumption) ?_
        try simp only [Act.put, List.setIfInBounds_toArray, List.set_cons_zero, List.set_cons_succ]
        refine skipL 5 2 rfl (by kernel_rfl) (fun _ _ _ h => h) (by rfl) (by assumption) ?_
        try simp only [Act.put, List.setIfInBounds_toArray, List.set_cons_zero, List.set_cons_succ]
        refine skipL 6 2 rfl (by kernel_rfl) (fun _ _ _ h => h) (by rfl) (by assumption) ?_
        try simp only [Act.put, List.setIfInBounds_toArray, List.set_cons_zero, List.set_cons_succ]
        refine skipL 7 2 rfl (by kernel_rfl) (fun _ _ _ h => h) (by rfl) (by assumption) ?_
        try simp only [Act.put, List.setIfInBounds_toArray, List.set_cons_zero, List.set_cons_succ]
        refine skipL 8 2 rfl (by kernel_rfl) (fun _ _ _ h => h) (by rfl) (by assumption) ?_
        try simp only [Act.put, List.setIfInBounds_toArray, List.set_cons_zero, List.set_cons_succ]
        refine skipL 9 2 rfl (by kernel_rfl) (fun _ _ _ h => h) (by rfl) (by assumption) ?_
        try simp only [Act.put, List.setIfInBounds_toArray, List.set_cons_zero, List.set_cons_succ]
        refine skipL 10 2 rfl (by kernel_rfl) (fun _ _ _ h => h) (by rfl) (by assumption) ?_
        try simp only [Act.put, List.setIfInBounds_toArray, List.set_cons_zero, List.set_cons_succ]
        refine takeL 11 2 (v := ?_) rfl (by kernel_rfl) (fun _ _ _ h => h) (by rfl) (by assumption) ?_ ?_
        rotate_left
        · (intro w hSw; (try dsimp only at hSw); go_simp; try with_reducible rfl)
        try simp only [Act.put, List.setIfInBounds_toArray, List.set_cons_zero, List.set_cons_succ]
        refine takeL 12 2 (v := ?_) rfl (by kernel_rfl) (fun _ _ _ h => h) (by rfl) (by assumption) ?_ ?_
        rotate_left
        · (intro w hSw; (try dsimp only at hSw); go_simp; try with_reducible rfl)
        try simp only [Act.put, List.setIfInBounds_toArray, List.set_cons_zero, List.set_cons_succ]
        refine takeL 13 2 (v := ?_) rfl (by kernel_rfl) (fun _ _ _ h => h) (by rfl) (by assumption) ?_ ?_
        rotate_left
        · (intro w hSw; (try dsimp only at hSw); go_simp; try with_reducible rfl)
        try simp only [Act.put, List.setIfInBounds_toArray, List.set_cons_zero, List.set_cons_succ]
        refine takeL 14 2 (v := ?_) rfl (by kernel_rfl) (fun _ _ _ h => h) (by rfl) (by assumption) ?_ ?_
        rotate_left
        · (intro w hSw; (try dsimp only at hSw); go_simp; try with_reducible rfl)
        try simp only [Act.put, List.setIfInBounds_toArray, List.set_cons_zero, List.set_cons_succ]
        refine takeL 15 2 (v := ?_) rfl (by kernel_rfl) (fun _ _ _ h => h) (by rfl) (by assumption) ?_ ?_
        rotate_left
        · (intro w hSw; (try dsimp only at hSw); go_simp; try with_reducible rfl)
        try simp only [Act.put, List.setIfInBounds_toArray, List.set_cons_zero, List.set_cons_succ]
        refine takeL 16 2 (v := ?_) rfl (by kernel_rfl) (fun _ _ _ h => h) (by rfl) (by assumption) ?_ ?_
        rotate_left
        · (intro w hSw; (try dsimp only at hSw); go_simp; try with_reducible rfl)
        try simp only [Act.put, List.setIfInBounds_toArray, List.set_cons_zero, List.set_cons_succ]
        refine takeL 17 2 (v := ?_) rfl (by kernel_rfl) (fun _ _ _ h => h) (by rfl) (by assumption) ?_ ?_
        rotate_left
        · (intro w hSw; (try dsimp only at hSw); go_simp; try with_reducible rfl)
        try simp only [Act.put, List.setIfInBounds_toArray, List.set_cons_zero, List.set_cons_succ]
        refine takeL 18 2 (v := ?_) rfl (by kernel_rfl) (fun _ _ _ h => h) (by rfl) (by assumption) ?_ ?_
        rotate_left
        · (intro w hSw; (try dsimp only at hSw); go_simp; try with_reducible rfl)
        try simp only [Act.put, List.setIfInBounds_toArray, List.set_cons_zero, List.set_cons_succ]
        refine takeL 19 2 (v := ?_) rfl (by kernel_rfl) (fun _ _ _ h => h) (by rfl) (by assumption) ?_ ?_
        rotate_left
        · (intro w hSw; (try dsimp only at hSw); go_simp; try with_reducible rfl)
        try simp only [Act.put, List.setIfInBounds_toArray, List.set_cons_zero, List.set_cons_succ]
        refine takeL 20 2 (v := ?_) rfl (by kernel_rfl) (fun _ _ _ h => h) (by rfl) (by assumption) ?_ ?_
        rotate_left
        · (intro w hSw; (try dsimp only at hSw); go_simp; try with_reducible rfl)
        try simp only [Act.put, List.setIfInBounds_toArray, List.set_cons_zero, List.set_cons_succ]
        refine takeL 21 2 (v := ?_) rfl (by kernel_rfl) (fun _ _ _ h => h) (by rfl) (by assumption) ?_ ?_
        rotate_left
        · (intro w hSw; (try dsimp only at hSw); go_simp; try with_reducible rfl)
        try simp only [Act.put, List.setIfInBounds_toArray, List.set_cons_zero, List.set_cons_succ]
        refine takeL 22 2 (v := ?_) rfl (by kernel_rfl) (fun _ _ _ h => h) (by rfl) (by assumption) ?_ ?_
        rotate_left
        · (intro w hSw; (try dsimp only at hSw); go_simp; try with_reducible rfl)
        try simp only [Act.put, List.setIfInBounds_toArray, List.set_cons_zero, List.set_cons_succ]
        refine takeL 23 2 (v := ?_) rfl (by kernel_rfl) (fun _ _ _ h => h) (by rfl) (by assumption) ?_ ?_
        rotate_left
        · (intro w hSw; (try dsimp only at hSw); go_simp; try with_reducible rfl)
        try simp only [Act.put, List.setIfInBounds_toArray, List.set_cons_zero, List.set_cons_succ]
        refine oneL 24 rfl (by kernel_rfl) (by rfl) (fun K hK => ?_)
        go_simp
        go_at_call 42
        refine (result09_true v.how (v.used : Int) v.out v.reads v.buf ao ar aw bo br bw co cr cw do_ dr dw _ (XI.out.out.chg (Chg.refl wB Nothing).drew) (XI.out.reads.chg (Chg.refl wB Nothing).drew) (XI.out.buf.chg (Chg.refl wB Nothing).drew) (YI.out.out.chg (Chg.refl wB Nothing).drew) (YI.out.reads.chg (Chg.refl wB Nothing).drew) (YI.out.buf.chg (Chg.refl wB Nothing).drew) VOK.out.out VOK.out.reads VOK.out.buf).mono ?_
        rintro e w19 ⟨rfl, hc⟩
        have D19 := Lib.hid (show Chg wB w19 Nothing from ((Chg.refl wB Nothing).drew).trans hc (fun _ _ h => h))
        clear hc
        go_wp2_with fail
        refine hK.out _ _ (SK20.out _ D19.out) (fun hHeld => ?_)
        clear hK K
        try simp only [Act.put, List.setIfInBounds_toArray, List.set_cons_zero, List.set_cons_succ]
        refine takeL 25 2 (v := ?_) rfl (by kernel_rfl) (fun _ _ _ h => h) (by rfl) (by assumption) ?_ ?_
        rotate_left
        · (intro w hSw; (try dsimp only at hSw); go_simp; try with_reducible rfl)
        try simp only [Act.put, List.setIfInBounds_toArray, List.set_cons_zero, List.set_cons_succ]
        refine takeL 26 2 (v := ?_) rfl (by kernel_rfl) (fun _ _ _ h => h) (by rfl) (by assumption) ?_ ?_
        rotate_left
        · (intro w hSw; (try dsimp only at hSw); go_simp; try with_reducible rfl)
        try simp only [Act.put, List.setIfInBounds_toArray, List.set_cons_zero, List.set_cons_succ]
        refine takeL 27 2 (v := ?_) rfl (by kernel_rfl) (fun _ _ _ h => h) (by rfl) (by assumption) ?_ ?_
        rotate_left
        · (intro w hSw; (try dsimp only at hSw); go_simp; try with_reducible rfl)
        try simp only [Act.put, List.setIfInBounds_toArray, List.set_cons_zero, List.set_cons_succ]
        refine doneL (by kernel_rfl) ?_ _
        go_wp2_with fail
        go_roundg (gk - 1)
        case measure => omega
        case rel => exact ⟨i + 1, by omega, by first | rfl | go_num, (XC.out.trans CAB.out (fun _ _ h => h)).trans D19.out (fun _ _ h => h)⟩
    · have hd : decide (i < nn) = false := by simpa using hlt
      have hd2 : decide ((i : Int) < (nn : Int)) = false := decide_eq_false (by omega)
      go_wp2_with fail
      go_ret
      exact ⟨rfl, CC.out.trans XC.out (fun _ _ h => h)⟩
end Go.Proofs.YthgllaomafhdkaaGreat
