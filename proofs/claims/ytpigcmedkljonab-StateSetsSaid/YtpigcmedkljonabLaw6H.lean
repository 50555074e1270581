/- StateSets: the walk. -/
import Derived.Test.YtpigcmedkljonabLaw6F
namespace Go.Proofs.Ytpigcmedkljonab
open Go Go.RowKit
set_option linter.unusedVariables false
set_option linter.unusedSimpArgs false

theorem fixB_fix (b : Nat) : fixB (fixB b) = fixB b := by
  unfold fixB
  by_cases h : nanB b = true
  · rw [if_pos h, if_pos (by decide)]
  · rw [if_neg h, if_neg h]
theorem fixB_nan {b : Nat} (h : nanB b = true) : fixB b = 9221120237041090560 := by unfold fixB; rw [if_pos h]
theorem fixB_num {b : Nat} (h : nanB b = false) : fixB b = b := by unfold fixB; rw [if_neg (by simp [h])]
theorem fixB_map (fs : List Nat) : (fs.map fixB).map fixB = fs.map fixB := by simp [fixB_fix]
theorem sameL_self (fs : List Nat) : sameL fs fs = true := by simp [sameL]

theorem raw_nat (b : Nat) (w : World) : Calls Try.prog 19 #[.int .u64 b] w fun e w' => e = .returned (fl b) ∧ w' = w := raw_any b w

set_option maxHeartbeats 1600000 in
set_option maxRecDepth 4000 in
theorem sets_walk (a : Option Addr) (c : Nat) (zs : List Int) (cell : Int) (x : Nat) (w : World) (hz : Sees w a (zs.map (Value.int .u64))) (hzl : zs.length * 8 ≤ 140737488351232) :
    Calls Try.prog 5 #[.slice a zs.length c, .int .i64 cell, .int .u64 x] w fun e w' => e = .returned (.bool true) ∧ Chg w w' Nothing := by
  have HZ := Lib.hid hz
  have FL := Lib.hid (fun w hs => floats_fs a c zs w hs hzl)
  have HE := Lib.hid (rawL_len zs)
  clear hz
  generalize rawL zs = fs at FL HE
  go_enter Try.func5, Try.ntmps5
  go_wp2_with fail
  refine (live_any _).mono ?_
  rintro e w1 ⟨rfl, c1⟩
  have C1 := Lib.hid c1
  clear c1
  go_wp2_with fail
  refine (FL.out _ (HZ.out.chg C1.out)).mono ?_
  rintro e w2 ⟨a2, k2, rfl, o2, c2⟩
  have S2 := Lib.hid (Sees.of_owns o2)
  have C2 := Lib.hid (C1.out.trans c2 (fun _ _ h => h))
  have C2' := Lib.hid C2.out
  clear o2 c2
  by_cases hb1 : fs.length < 1
  · have HB := Lib.hid (show fs.length < 1 ∨ 256 < fs.length from .inl hb1)
    have d1' : decide ((zs.length : Int) < 1) = true := decide_eq_true (by have := HE.out; omega)
    clear hb1
    go_wp2_with fail
    refine (T6.of_bad a2 fs.length k2 w2 HB.out).mono ?_
    rintro e w3 ⟨rfl, rfl⟩
    go_wp2_with fail
    go_ret
    exact ⟨rfl, C2.out⟩
  by_cases hb2 : 256 < fs.length
  · have HB := Lib.hid (show fs.length < 1 ∨ 256 < fs.length from .inr hb2)
    have d1' : decide ((zs.length : Int) < 1) = false := decide_eq_false (by have := HE.out; omega)
    have d2' : decide ((256 : Int) < (zs.length : Int)) = true := decide_eq_true (by have := HE.out; omega)
    clear hb1 hb2
    go_wp2_with fail
    refine (T6.of_bad a2 fs.length k2 w2 HB.out).mono ?_
    rintro e w3 ⟨rfl, rfl⟩
    go_wp2_with fail
    go_ret
    exact ⟨rfl, C2.out⟩
  have g1 := Lib.hid (show 1 ≤ fs.length by omega)
  have g2 := Lib.hid (show fs.length ≤ 256 by omega)
  have d1' : decide ((zs.length : Int) < 1) = false := decide_eq_false (by have := HE.out; omega)
  have d2' : decide ((256 : Int) < (zs.length : Int)) = false := decide_eq_false (by have := HE.out; omega)
  clear hb1 hb2
  go_wp2_with fail
  refine (T6.of_good a2 k2 fs w2 S2.out g1.out g2.out).mono ?_
  rintro e w3 ⟨p, rfl, hp, s3, c3⟩
  have S3 := Lib.hid s3
  have F3 := Lib.hid (show ∀ k, Grow Nothing w2 w3 k → w2.heap.size ≤ k from fun k h => by rcases h with h | h; exact h.elim; exact h.1)
  have C3 := Lib.hid (C2.out.trans c3 (fun _ _ h => h))
  have HGL := Lib.hid (show (fs.map fixB).length = fs.length by simp)
  have HGF := Lib.hid (fixB_map fs)
  clear s3 c3 hp
  generalize Grow Nothing w2 w3 = F at S3 F3
  generalize fs.map fixB = gs at S3 HGL HGF
  have g3 := Lib.hid (show gs.length ≤ 256 by have := HGL.out; have := g2.out; omega)
  have g4 := Lib.hid (show 1 ≤ gs.length by have := HGL.out; have := g1.out; omega)
  go_wp2_with fail
  refine (T6.all_any p F gs w3 S3.out g3.out).mono ?_
  rintro e w4 ⟨a4, k4, rfl, o4, c4⟩
  have B4 := Lib.hid (Sees.of_owns o4)
  have L4 := Lib.hid (ownsRow_low o4)
  have S4 := Lib.hid (S3.out.chg c4 (fun _ _ h => h))
  have C4 := Lib.hid (C3.out.trans c4 (fun _ _ h => h))
  have Z4 := Lib.hid S3.out.lt
  clear o4 c4
  go_wp2_with fail
  refine (T6.of_good a4 k4 gs w4 B4.out g4.out g3.out).mono ?_
  rintro e w5 ⟨q, rfl, hq, s5, c5⟩
  rw [HGF.out] at s5
  have Q5 := Lib.hid s5
  have S5 := Lib.hid (S4.out.chg c5 (fun _ _ h => h))
  have C5 := Lib.hid (C4.out.trans c5 (fun _ _ h => h))
  have B5 := Lib.hid (B4.out.chg c5)
  have K5 := Lib.hid c5
  clear s5 c5 hq
  generalize Grow Nothing w4 w5 = G at Q5
  have n1 : ((gs.length : Int) != (zs.length : Int)) = false := by have := HGL.out; have := HE.out; simp; omega
  go_wp2_with fail
  refine (T6.same_true q p G F gs gs w5 Q5.out S5.out g3.out).mono ?_
  rintro e w6 ⟨rfl, m6, rfl⟩
  rw [sameL_self]
  have S6 := Lib.hid (S5.out.drewN m6)
  have C6 := Lib.hid (C5.out.drewN m6)
  have B6 := Lib.hid (B5.out.drewN m6)
  have E6 := Lib.hid (show ∀ k, F k → k < w3.heap.size from Z4.out)
  have K6 := Lib.hid (K5.out.drewN m6)
  clear S5 C5 B5 Q5 K5 S4 C4 Z4 B4 S3 C3 S2 C2 C1
  generalize w5.drewN m6 = w6 at S6 C6 B6 K6
  go_wp2_with fail
  refine (raw_nat x w6).mono ?_
  rintro e w7 ⟨rfl, rfl⟩
  go_wp2_with fail
  refine (T6.set_any p F gs cell x w7 S6.out g3.out).mono ?_
  rintro e w8 ⟨rfl, s8, c8⟩
  have S8 := Lib.hid s8
  have C8 := Lib.hid (C6.out.trans c8 (fun k hk h => by have := F3.out k h; have := C2'.out.size; omega))
  have B8 := Lib.hid (show Sees w8 a4 (gs.map fl) from L4.out w8 fun k hk => by
    rw [c8.block k (by have := K6.out.size; omega) (fun h => by have := E6.out k h; omega)]
    exact K6.out.block k hk.2 id)
  clear s8 c8 S6 C6 B6 K6 L4
  have H8 := Lib.hid (show ∀ (i : Nat) (h : i < gs.length), ∃ n : Nat, (((i : Int) == cell) = true → n = x) ∧ (((i : Int) == cell) = false → n = gs[i]) ∧ (setL gs cell x)[i]? = some (fixB n) from fun i h => by
    have hfix : fixB gs[i] = gs[i] := by
      have h1 : (gs.map fixB)[i]? = gs[i]? := by rw [HGF.out]
      simpa [h] using h1
    by_cases hi : (i : Int) = cell
    · subst hi
      refine ⟨x, fun _ => rfl, fun h => by simp at h, ?_⟩
      have : hasB (i : Int) gs.length = true := by simp [hasB, h]
      simp [setL, this, h]
    · refine ⟨gs[i], fun h => by simp at h; exact absurd h hi, fun _ => rfl, ?_⟩
      rw [hfix]
      unfold setL
      split
      · rename_i hb
        have := hasB_iff.1 hb
        rw [List.getElem?_set_ne (by omega)]
        simp [h]
      · simp [h])
  have h8 : (setL gs cell x).length = gs.length := setL_len _ _ _
  have hs8 : ∃ hs, hs = setL gs cell x := ⟨_, rfl⟩
  obtain ⟨hs, hh⟩ := hs8
  rw [← hh] at S8 H8 h8
  clear hh
  have H8' := Lib.hid h8
  clear h8
  go_wp2_with fail
  refine (T6.all_any p F hs w8 S8.out (by have := g3.out; have := H8'.out; omega)).mono ?_
  rintro e w9 ⟨a9, k9, rfl, o9, c9⟩
  have A9 := Lib.hid (Sees.of_owns o9)
  have S9 := Lib.hid (S8.out.chg c9 (fun _ _ h => h))
  have B9 := Lib.hid (B8.out.chg c9)
  have C9 := Lib.hid (C8.out.trans c9 (fun _ _ h => h))
  clear o9 c9 S8 B8 C8
  have n2 : ((hs.length : Int) != (zs.length : Int)) = false := by have := HGL.out; have := HE.out; have := H8'.out; simp; omega
  have key : (decide (0 ≤ cell) = true ∧ decide (cell < (zs.length : Int)) = true ∧ setE gs cell = 0) ∨ (decide (0 ≤ cell) = false ∧ setE gs cell = 60) ∨ (decide (0 ≤ cell) = true ∧ decide (cell < (zs.length : Int)) = false ∧ setE gs cell = 60) := by
    have e1 := HGL.out
    have e2 := HE.out
    by_cases h0 : 0 ≤ cell
    · by_cases h1 : cell < gs.length
      · exact .inl ⟨decide_eq_true h0, decide_eq_true (by omega), by simp [setE, hasB, h0, h1]⟩
      · exact .inr (.inr ⟨decide_eq_true h0, decide_eq_false (by omega), by simp [setE, hasB, h0, h1]⟩)
    · exact .inr (.inl ⟨decide_eq_false h0, by simp [setE, hasB, h0]⟩)
  rcases key with ⟨q0, q1, hE⟩ | ⟨q0, hE⟩ | ⟨q0, q1, hE⟩
  all_goals
    rw [hE]
    clear hE
    go_wp2_with fail
    go_loopg [16] zs.length (fun k i wr => ∃ n : Nat, n + k = zs.length ∧ i = .int .i64 n ∧ ∃ m, wr = w9.drewN m)
    case atStart => exact ⟨0, by simp, rfl, 0, rfl⟩
    case round =>
      clear q0 n1 n2 d1' d2'
      obtain ⟨n, hn, rfl, m, rfl⟩ := hrel
      by_cases hlt : n < zs.length
      · have hd : decide (n < zs.length) = true := by simpa using hlt
        have hng : n < gs.length := by have := HGL.out; have := HE.out; omega
        obtain ⟨v, e1, e2, e3⟩ := H8.out n hng
        rcases A9.out with h | ⟨b9, o9, rfl, g9⟩
        · have := H8'.out; simp at h; subst h; simp at this; omega
        rcases B9.out with h | ⟨b4, o4, rfl, g4'⟩
        · simp at h; subst h; simp at hng
        have k9c := g9 n (fl (fixB v)) (by simp [e3])
        have k4c := g4' n (fl gs[n]) (by simp [hng])
        have x9 : n < hs.length := (List.getElem?_eq_some_iff.1 e3).1
        clear g9 g4'
        have hget : getV hs n = fixB v ∧ setE hs n = 0 := by
          have := (List.getElem?_eq_some_iff.1 e3)
          obtain ⟨h1, h2⟩ := this
          simp [getV, setE, hasB, h1, h2]
        obtain ⟨hg1, hg2⟩ := hget
        go_wp2_with fail
        refine (T6.get_any p F hs n _ (S9.out.drewN m) (by have := g3.out; have := H8'.out; omega)).mono ?_
        rintro e w10 ⟨rfl, rfl⟩
        rw [hg1, hg2]
        clear hg1 hg2
        have y0 : ((fixB v : Int) != (fixB v : Int)) = false := by simp
        have y1 : nanB v = true → ((fixB v : Int) != 9221120237041090560) = false := fun h => by rw [fixB_nan h]; rfl
        have y2 : nanB v = false → ((fixB v : Int) != (v : Int)) = false := fun h => by rw [fixB_num h]; simp
        generalize fixB v = y at k9c y0 y1 y2
        clear e3
        generalize gs[n] = z at k4c e2
        by_cases hic : ((n : Int) == cell) = true
        · obtain rfl := e1 hic
          clear e1 e2
          by_cases hna : nanB v = true
          · have y3 := y1 hna
            have hnn : (FloatKind.f64.format.order v v != some .eq) = true := hna
            clear y1 y2 hna
            go_wp2_with fail
            refine (raw_nat v _).mono ?_
            rintro e w11 ⟨rfl, rfl⟩
            go_wp2_with fail
            refine (raw_nat v _).mono ?_
            rintro e w11 ⟨rfl, rfl⟩
            go_wp2_with fail
            go_quiet (fail)
            go_wp2_with fail
            go_roundg (gk - 1)
            case measure => omega
            case rel => exact ⟨n + 1, by omega, by go_num, _, rfl⟩
          · have y3 := y2 (by simpa using hna)
            have hnn : (FloatKind.f64.format.order v v != some .eq) = false := by simpa [nanB] using hna
            clear y1 y2 hna
            go_wp2_with fail
            refine (raw_nat v _).mono ?_
            rintro e w11 ⟨rfl, rfl⟩
            go_wp2_with fail
            refine (raw_nat v _).mono ?_
            rintro e w11 ⟨rfl, rfl⟩
            go_wp2_with fail
            go_quiet (fail)
            go_wp2_with fail
            go_roundg (gk - 1)
            case measure => omega
            case rel => exact ⟨n + 1, by omega, by go_num, _, rfl⟩
        · have hic : ((n : Int) == cell) = false := by simpa using hic
          obtain rfl := e2 hic
          clear e1 e2
          by_cases hna : nanB v = true
          · have y3 := y1 hna
            have hnn : (FloatKind.f64.format.order v v != some .eq) = true := hna
            clear y1 y2 hna
            go_wp2_with fail
            refine (raw_nat v _).mono ?_
            rintro e w11 ⟨rfl, rfl⟩
            go_wp2_with fail
            refine (raw_nat v _).mono ?_
            rintro e w11 ⟨rfl, rfl⟩
            go_wp2_with fail
            go_quiet (fail)
            go_wp2_with fail
            go_roundg (gk - 1)
            case measure => omega
            case rel => exact ⟨n + 1, by omega, by go_num, _, rfl⟩
          · have y3 := y2 (by simpa using hna)
            have hnn : (FloatKind.f64.format.order v v != some .eq) = false := by simpa [nanB] using hna
            clear y1 y2 hna
            go_wp2_with fail
            refine (raw_nat v _).mono ?_
            rintro e w11 ⟨rfl, rfl⟩
            go_wp2_with fail
            refine (raw_nat v _).mono ?_
            rintro e w11 ⟨rfl, rfl⟩
            go_wp2_with fail
            go_quiet (fail)
            go_wp2_with fail
            go_roundg (gk - 1)
            case measure => omega
            case rel => exact ⟨n + 1, by omega, by go_num, _, rfl⟩
      · have hd : decide (n < zs.length) = false := by simpa using hlt
        go_wp2_with fail
        go_ret
        exact ⟨rfl, C9.out.drewN _⟩

end Go.Proofs.Ytpigcmedkljonab
