/- BufferKeeps: the walk. -/
import Derived.Test.YtpigcmedkljonacLaw7D
namespace Go.Proofs.Ytpigcmedkljonac
open Go Go.RowKit
set_option linter.unusedVariables false
set_option linter.unusedSimpArgs false

theorem put_cases (zs : List (Int × Nat)) (most m : Int) (x : Nat) (hl : (zs.length : Int) ≤ most) :
    (∃ i, Kn zs m i ∧ putL zs most m x = zs.set i (m, x) ∧ putN zs most m = false ∧ putE zs most m = 0 ∧ getB zs m = true) ∨
    (Un zs m ∧ (zs.length : Int) < most ∧ putL zs most m x = zs ++ [(m, x)] ∧ putN zs most m = true ∧ putE zs most m = 0 ∧ getB zs m = false) ∨
    (Un zs m ∧ (zs.length : Int) = most ∧ putL zs most m x = zs ∧ putN zs most m = false ∧ putE zs most m = 70 ∧ getB zs m = false) := by
  cases hp : pos zs m with
  | some i => exact .inl ⟨i, Kn.of_pos hp, by simp [putL, hp], by simp [putN, hp], by simp [putE, hp], by simp [getB, hp]⟩
  | none =>
    by_cases h : (zs.length : Int) < most
    · exact .inr (.inl ⟨Un.of_pos hp, h, by simp [putL, hp, h], by simp [putN, hp, h], by simp [putE, hp, h], by simp [getB, hp]⟩)
    · exact .inr (.inr ⟨Un.of_pos hp, by omega, by simp [putL, hp, h], by simp [putN, hp, h], by simp [putE, hp, h], by simp [getB, hp]⟩)

theorem put_len {zs : List (Int × Nat)} {most m : Int} {x : Nat} (hl : (zs.length : Int) ≤ most) : (putL zs most m x).length = zs.length + (if putN zs most m then 1 else 0) := by
  rcases put_cases zs most m x hl with ⟨i, _, h1, h2, _⟩ | ⟨_, _, h1, h2, _⟩ | ⟨_, _, h1, h2, _⟩ <;> rw [h1, h2] <;> simp

theorem put_get {zs : List (Int × Nat)} {most m : Int} {x : Nat} (hl : (zs.length : Int) ≤ most) (h : putE zs most m = 0) : getX (putL zs most m x) m = x ∧ getB (putL zs most m x) m = true := by
  rcases put_cases zs most m x hl with ⟨i, hk, h1, h2, h3, _⟩ | ⟨hu, _, h1, h2, h3, _⟩ | ⟨_, _, h1, h2, h3, _⟩
  · rw [h1]
    have hlt := hk.lt
    have hk' : Kn (zs.set i (m, x)) m i := ⟨⟨x, by simp [hlt]⟩, fun j hj t ht => by rw [List.getElem?_set_ne (by omega)] at ht; exact hk.2 j hj t ht⟩
    simp [getX, getB, hk'.pos, hlt]
  · rw [h1]
    have hk' : Kn (zs ++ [(m, x)]) m zs.length := ⟨⟨x, by simp⟩, fun j hj t ht => by rw [List.getElem?_append_left hj] at ht; exact hu t (List.mem_of_getElem? ht)⟩
    simp [getX, getB, hk'.pos]
  · omega
theorem put_not {zs : List (Int × Nat)} {most m : Int} {x : Nat} (hl : (zs.length : Int) ≤ most) (h : putE zs most m = 70) : getX (putL zs most m x) m = 0 ∧ getB (putL zs most m x) m = false := by
  rcases put_cases zs most m x hl with ⟨i, hk, h1, h2, h3, _⟩ | ⟨hu, _, h1, h2, h3, _⟩ | ⟨hu, _, h1, h2, h3, _⟩
  · omega
  · omega
  · rw [h1]; simp [getX, getB, hu.pos]
theorem putE_two (zs : List (Int × Nat)) (most m : Int) (hl : (zs.length : Int) ≤ most) : putE zs most m = 0 ∨ putE zs most m = 70 := by
  rcases put_cases zs most m 0 hl with ⟨i, hk, h1, h2, h3, _⟩ | ⟨hu, _, h1, h2, h3, _⟩ | ⟨hu, _, h1, h2, h3, _⟩
  · exact .inl h3
  · exact .inl h3
  · exact .inr h3
theorem put_stay {zs : List (Int × Nat)} {most m : Int} {x : Nat} (hl : (zs.length : Int) ≤ most) {i : Nat} {t t' : Int × Nat} (h : zs[i]? = some t) (h' : (putL zs most m x)[i]? = some t') : t'.1 = t.1 ∧ (t'.1 = m ∨ t'.2 = t.2) := by
  have hlt := (List.getElem?_eq_some_iff.1 h).1
  rcases put_cases zs most m x hl with ⟨j, hk, h1, _⟩ | ⟨hu, _, h1, _⟩ | ⟨hu, _, h1, _⟩
  · rw [h1] at h'
    by_cases hj : j = i
    · subst hj
      obtain ⟨⟨y, hy⟩, _⟩ := hk
      rw [h] at hy
      cases hy
      simp [hlt] at h'
      subst h'
      exact ⟨rfl, .inl rfl⟩
    · rw [List.getElem?_set_ne hj, h] at h'
      cases h'
      exact ⟨rfl, .inr rfl⟩
  · rw [h1, List.getElem?_append_left hlt, h] at h'
    cases h'
    exact ⟨rfl, .inr rfl⟩
  · rw [h1, h] at h'
    cases h'
    exact ⟨rfl, .inr rfl⟩

theorem put_q (zs : List (Int × Nat)) (most m : Int) (x : Nat) (hl : (zs.length : Int) ≤ most) :
    ((getB zs m = true ∧ putN zs most m = false ∧ putE zs most m = 0 ∧ (putL zs most m x).length = zs.length) ∨
    (getB zs m = false ∧ putN zs most m = true ∧ putE zs most m = 0 ∧ (putL zs most m x).length = zs.length + 1 ∧ (zs.length : Int) < most) ∨
    (getB zs m = false ∧ putN zs most m = false ∧ putE zs most m = 70 ∧ (putL zs most m x).length = zs.length ∧ (zs.length : Int) = most)) ∧
    ((putE zs most m = 0 ∧ getX (putL zs most m x) m = x ∧ getB (putL zs most m x) m = true) ∨ (putE zs most m = 70 ∧ getX (putL zs most m x) m = 0 ∧ getB (putL zs most m x) m = false)) := by
  refine ⟨?_, ?_⟩
  · rcases put_cases zs most m x hl with ⟨i, _, h1, h2, h3, h4⟩ | ⟨_, h0, h1, h2, h3, h4⟩ | ⟨_, h0, h1, h2, h3, h4⟩
    · exact .inl ⟨h4, h2, h3, by rw [h1]; simp⟩
    · exact .inr (.inl ⟨h4, h2, h3, by rw [h1]; simp, h0⟩)
    · exact .inr (.inr ⟨h4, h2, h3, by rw [h1], h0⟩)
  · rcases putE_two zs most m hl with h | h
    · exact .inl ⟨h, put_get hl h⟩
    · exact .inr ⟨h, put_not hl h⟩

/-- Whether a cell stands among the first. -/
def hasTo (zs : List (Int × Nat)) (m : Int) (n : Nat) : Bool := (zs.take n).any (·.1 == m)
theorem hasTo_zero (zs : List (Int × Nat)) (m : Int) : hasTo zs m 0 = false := rfl
theorem hasTo_succ {zs : List (Int × Nat)} {m : Int} {n : Nat} {t : Int × Nat} (h : zs[n]? = some t) : hasTo zs m (n + 1) = (hasTo zs m n || t.1 == m) := by
  obtain ⟨h1, h2⟩ := List.getElem?_eq_some_iff.1 h
  simp [hasTo, List.take_succ_eq_append_getElem h1, h2]
theorem hasTo_all (zs : List (Int × Nat)) (m : Int) : hasTo zs m zs.length = getB zs m := by
  unfold hasTo getB
  rw [List.take_length]
  cases hp : pos zs m with
  | none =>
    have := Un.of_pos hp
    simp
    intro a b hab e
    exact this _ hab e
  | some i =>
    obtain ⟨⟨y, hy⟩, _⟩ := Kn.of_pos hp
    simp
    exact ⟨y, List.mem_of_getElem? hy⟩

theorem fixB_nan {b : Nat} (h : nanB b = true) : fixB b = 9221120237041090560 := by unfold fixB; rw [if_pos h]
theorem fixB_num {b : Nat} (h : nanB b = false) : fixB b = b := by unfold fixB; rw [if_neg (by simp [h])]
theorem drewN_two (w : World) (a b : Nat) : (w.drewN a).drewN b = w.drewN (a + b) := by simp [World.drewN, Nat.add_assoc]
theorem cell_drewN {w : World} {a : Addr} {v : Value} (h : w.cell? a = some v) (n : Nat) : (w.drewN n).cell? a = some v := h
theorem raw_nat (b : Nat) (w : World) : Calls Try.prog 12 #[.int .u64 b] w fun e w' => e = .returned (fl b) ∧ w' = w := raw_any b w

/-- What holds at the head of each round. -/
def InvK (w wr : World) (p : Nat) (most : Int) : Prop := ∃ F l, Bf wr p F l most ∧ (∀ k, F k → w.heap.size ≤ k) ∧ Chg w wr Nothing

set_option maxHeartbeats 4000000 in
set_option maxRecDepth 8000 in
theorem keeps_low (most : Int) (a : Option Addr) (n c : Nat) (w : World) (hb1 : most < 1) :
    Calls Try.prog 4 #[.int .i64 most, .slice a n c] w fun e w' => e = .returned (.bool true) ∧ Chg w w' Nothing := by
  have b1 : decide (most < 1) = true := decide_eq_true hb1
  go_enter Try.func4, Try.ntmps4
  go_wp2_with fail
  refine (live_any _).mono ?_
  rintro e w1 ⟨rfl, c1⟩
  go_wp2_with fail
  refine (new_bad most w1 (.inl hb1)).mono ?_
  rintro e w2 ⟨rfl, rfl⟩
  go_wp2_with fail
  go_ret
  exact ⟨rfl, c1⟩

set_option maxHeartbeats 4000000 in
set_option maxRecDepth 8000 in
theorem keeps_high (most : Int) (a : Option Addr) (n c : Nat) (w : World) (hb1 : ¬ most < 1) (hb2 : 32 < most) :
    Calls Try.prog 4 #[.int .i64 most, .slice a n c] w fun e w' => e = .returned (.bool true) ∧ Chg w w' Nothing := by
  have b1 : decide (most < 1) = false := decide_eq_false hb1
  have b2 : decide (32 < most) = true := decide_eq_true hb2
  go_enter Try.func4, Try.ntmps4
  go_wp2_with fail
  refine (live_any _).mono ?_
  rintro e w1 ⟨rfl, c1⟩
  go_wp2_with fail
  refine (new_bad most w1 (.inr hb2)).mono ?_
  rintro e w2 ⟨rfl, rfl⟩
  go_wp2_with fail
  go_ret
  exact ⟨rfl, c1⟩

set_option maxHeartbeats 8000000 in
set_option maxRecDepth 8000 in
theorem keeps_walk (most : Int) (a : Option Addr) (c : Nat) (l : List (Int × Int × Nat)) (w : World) (hs : Script w a (l.map fun y => (y.1, y.2.1, (y.2.2 : Int)))) (hl : l.length ≤ 9223372036854775807) :
    Calls Try.prog 4 #[.int .i64 most, .slice a l.length c] w fun e w' => e = .returned (.bool true) ∧ Chg w w' Nothing := by
  have HS := Lib.hid hs
  clear hs
  by_cases hb1 : most < 1
  · exact keeps_low most a l.length c w hb1
  by_cases hb2 : 32 < most
  · exact keeps_high most a l.length c w hb1 hb2
  have b1 : decide (most < 1) = false := decide_eq_false hb1
  have b2 : decide (32 < most) = false := decide_eq_false hb2
  have g1 := Lib.hid (show 1 ≤ most by omega)
  have g2 := Lib.hid (show most ≤ 32 by omega)
  clear hb1 hb2
  go_enter Try.func4, Try.ntmps4
  go_wp2_with fail
  refine (live_any _).mono ?_
  rintro e w1 ⟨rfl, c1⟩
  go_wp2_with fail
  refine (new_good most _ g1.out g2.out).mono ?_
  rintro e w2 ⟨p, rfl, hp, s2, c2⟩
  have HI := Lib.hid (show InvK w w2 p most from by
    have := c1.size
    exact ⟨Grow Nothing w1 w2, [], s2, fun k h => by rcases h with h | h; exact h.elim; omega, c1.trans c2 (fun _ _ h => h)⟩)
  clear s2 c1 c2 hp
  go_wp2_with fail
  go_loopg [56] l.length (fun k i wr => ∃ n : Nat, n + k = l.length ∧ i = .int .i64 (n : Nat) ∧ InvK w wr p most)
  case atStart => exact ⟨0, by simp, rfl, HI.out⟩
  case round => as_aux_lemma =>
    clear HI b1 b2
    obtain ⟨n, hn, rfl, F, zs, ht, hF, hc⟩ := hrel
    have HT := Lib.hid ht
    have HF := Lib.hid hF
    have HC := Lib.hid hc
    clear ht hF hc
    by_cases hlt : n < l.length
    · have hd : decide (n < l.length) = true := by simpa using hlt
      obtain ⟨kd, m, s, hx⟩ : ∃ kd m s, l[n] = (kd, m, s) := ⟨_, _, _, rfl⟩
      obtain ⟨b, o, rfl, k0, k1, k2⟩ := HS.out n (kd, m, (s : Int)) (by simp [hlt, hx])
      have k0 := HC.out.cell k0 id
      have k1 := HC.out.cell k1 id
      have k2 := HC.out.cell k2 id
      clear hx
      go_wp2_with fail
      refine (all_any p F zs most _ (HT.out.chg ((Chg.refl _ Nothing).alloc _) (fun _ _ h => h))).mono ?_
      rintro e w4 ⟨a4, q4, rfl, o4, c4⟩
      clear k0 k1 k2
      have LW := Lib.hid (ownsRow_low o4)
      have C4 := Lib.hid c4
      have H4 := Lib.hid (HT.out.chg ((Chg.refl wr Nothing).trans (((Chg.refl wr Nothing).alloc _).trans c4 (fun _ _ h => h)) (fun _ _ h => h)) (fun _ _ h => h))
      have L4 := Lib.hid HT.out.lt
      have Z4 := Lib.hid (show wr.heap.size ≤ w4.heap.size from by have := c4.size; simp at this; omega)
      have C04 := Lib.hid (show Chg w w4 Nothing from (HC.out.alloc _).trans c4 (fun _ _ h => h))
      have d0 := box_cell 0 c4 (F := Nothing) (fun _ h => h.elim) rfl
      have d1 := box_cell 1 c4 (F := Nothing) (fun _ h => h.elim) rfl
      have d2 := box_cell 2 c4 (F := Nothing) (fun _ h => h.elim) rfl
      clear o4 c4
      go_upto_region 9 with fail
      go_cut [11, 12] (fun v1 v2 wx => v1 = .bool (putN zs most m) ∧ v2 = .int .i64 (putE zs most m) ∧ Bf wx p (Grow F w4 wx) (putL zs most m (fixB s)) most ∧ Chg w4 wx F)
      case first => as_aux_lemma =>
        go_region_law (first | (go_simp; go_at_call 12; refine (raw_nat s _).mono ?_; rintro e w' ⟨rfl, rfl⟩) | (go_simp; go_at_call 11; refine (put_any p F zs most m s _ (H4.out.drewN 1)).mono ?_; rintro e w1 ⟨rfl, s1, c1⟩))
        all_goals
          go_wp2_with fail
          go_meet
          exact ⟨rfl, rfl, s1, c1.os, c1.tape, c1.output, c1.size, c1.block⟩
      case rest => as_aux_lemma =>
        obtain ⟨rfl, rfl, hs5, hc5⟩ := hcut
        have C5 := Lib.hid hc5
        have B5 := Lib.hid (LW.out wc (fun j hj => hc5.block j hj.2 (fun h => by have := L4.out j h; have := hj.1; simp at this; omega)))
        have d0 := hc5.cell d0 (fun h => Nat.lt_irrefl _ (L4.out _ h))
        have d1 := hc5.cell d1 (fun h => Nat.lt_irrefl _ (L4.out _ h))
        have d2 := hc5.cell d2 (fun h => Nat.lt_irrefl _ (L4.out _ h))
        have hfz := H4.out.fits
        have Q := Lib.hid (put_q zs most m (fixB s) hfz.2.1)
        have ST := Lib.hid (fun i t t' => put_stay (x := fixB s) (m := m) hfz.2.1 (i := i) (t := t) (t' := t'))
        have HK := Lib.hid (hasTo_all zs m)
        have Z32 := Lib.hid (show zs.length ≤ 32 by omega)
        have G5 := Lib.hid (show ∀ k, Grow F w4 wc k → w.heap.size ≤ k from fun k h => by
          have := HC.out.size; have := H4.out.lt
          have z4 := Z4.out
          rcases h with h | h
          · exact HF.out k h
          · omega)
        generalize putN zs most m = N at Q
        generalize putE zs most m = E at Q
        generalize getB zs m = K at Q HK
        generalize putL zs most m (fixB s) = zs' at Q hs5 ST
        generalize Grow F w4 wc = F' at hs5 G5
        have S5 := Lib.hid hs5
        have Y32 := Lib.hid (show zs'.length ≤ 32 ∧ (zs'.length : Int) ≤ most ∧ (zs'.map (·.1)).Nodup by have := hs5.fits; exact ⟨by omega, by omega, this.1⟩)
        have D5 := Lib.hid (show Chg w wc Nothing from (C04.out).trans hc5 (fun k hk h => by have := HF.out k h; omega))
        clear hs5 hc5 hfz C5
        go_wp2_with fail
        refine (all_any p F' zs' most wc S5.out).mono ?_
        rintro e w6 ⟨a6, q6, rfl, o6, c6⟩
        have A6 := Lib.hid (Sees.of_owns o6)
        have B6 := Lib.hid (B5.out.chg c6)
        have S6 := Lib.hid (S5.out.chg c6 (fun _ _ h => h))
        have D6 := Lib.hid (D5.out.trans c6 (fun _ _ h => h))
        have e0 := c6.cell d0 id
        have e1 := c6.cell d1 id
        have e2 := c6.cell d2 id
        clear o6 c6 d0 d1 d2 B5 S5 D5 LW
        go_wp2_with fail
        go_loopg [14, 15] zs.length (fun k v i wq => ∃ j : Nat, j + k = zs.length ∧ i = .int .i64 (j : Nat) ∧ v = .bool (hasTo zs m j) ∧ ∃ mm, wq = w6.drewN mm)
        case atStart => exact ⟨0, by simp, rfl, rfl, 0, rfl⟩
        case round => as_aux_lemma =>
          obtain ⟨j, hj, rfl, rfl, mm, rfl⟩ := hrel
          have hz := Z32.out
          by_cases hlt : j < zs.length
          · have hd : decide (j < zs.length) = true := by simpa using hlt
            obtain ⟨ky, y, hy⟩ : ∃ ky y, zs[j]? = some (ky, y) := ⟨_, _, List.getElem?_eq_getElem hlt⟩
            obtain ⟨b1, o1, rfl, x1, y1⟩ := tch_cells B6.out hy
            have HT := Lib.hid (hasTo_succ (m := m) hy)
            clear hy
            generalize hasTo zs m j = v at HT
            cases v with
            | true =>
              go_wp2_with fail
              go_quiet (fail)
              go_wp2_with fail
              go_roundg (gk - 1)
              case measure => omega
              case rel => exact ⟨j + 1, by omega, by go_num, by rw [HT.out]; rfl, _, rfl⟩
            | false =>
              cases hq : (ky == m) with
              | true =>
                rw [hq] at HT
                go_wp2_with fail
                go_quiet (fail)
                go_wp2_with fail
                go_roundg (gk - 1)
                case measure => omega
                case rel => exact ⟨j + 1, by omega, by go_num, by rw [HT.out]; rfl, _, rfl⟩
              | false =>
                rw [hq] at HT
                go_wp2_with fail
                go_quiet (fail)
                go_wp2_with fail
                go_roundg (gk - 1)
                case measure => omega
                case rel => exact ⟨j + 1, by omega, by go_num, by rw [HT.out]; rfl, _, rfl⟩
          · have hd : decide (j < zs.length) = false := by simpa using hlt
            obtain rfl : j = zs.length := by omega
            rw [HK.out]
            have A7 := Lib.hid (A6.out.drewN mm)
            have B7 := Lib.hid (B6.out.drewN mm)
            have S7 := Lib.hid (S6.out.drewN mm)
            have D7 := Lib.hid (D6.out.drewN mm)
            have f0 := cell_drewN e0 mm
            have f1 := cell_drewN e1 mm
            have f2 := cell_drewN e2 mm
            clear e0 e1 e2 A6 B6 S6 D6 hd hlt hj
            generalize w6.drewN mm = w7 at A7 B7 S7 D7 f0 f1 f2
            go_upto_region 17 with fail
            go_cut [98] (fun v wx => v = .bool N ∧ wx = w7)
            case first => as_aux_lemma =>
              rcases Q.out.1 with ⟨rfl, rfl, rfl, hz'⟩ | ⟨rfl, rfl, rfl, hz', hm⟩ | ⟨rfl, rfl, rfl, hz', hm⟩
              all_goals
                clear hz'
                (try clear hm)
                go_wp2_with fail
                go_meet
                exact ⟨rfl, rfl⟩
            case rest => as_aux_lemma =>
            obtain ⟨rfl, rfl⟩ := hcut
            go_upto_if 98 with fail
            go_cut [16] (fun v wx => v = .int .i64 (zs'.length : Nat) ∧ wx = wc)
            case first => as_aux_lemma =>
              have hz := Z32.out
              rcases Q.out.1 with ⟨rfl, rfl, rfl, hz'⟩ | ⟨rfl, rfl, rfl, hz', hm⟩ | ⟨rfl, rfl, rfl, hz', hm⟩
              · have HZ := Lib.hid hz'
                clear hz'
                go_wp2_with fail
                go_meet
                exact ⟨by rw [HZ.out], rfl⟩
              · have HZ := Lib.hid hz'
                clear hz' hm
                go_wp2_with fail
                go_meet
                exact ⟨by rw [HZ.out]; simp, rfl⟩
              · have HZ := Lib.hid hz'
                clear hz' hm
                go_wp2_with fail
                go_meet
                exact ⟨by rw [HZ.out], rfl⟩
            case rest => as_aux_lemma =>
            obtain ⟨rfl, rfl⟩ := hcut
            go_upto_region 19 with fail
            go_cut [145] (fun v wx => v = .bool false ∧ wx = wc)
            case first => as_aux_lemma =>
              have n1 : ((zs'.length : Int) != (zs'.length : Int)) = false := by simp
              have n2 : decide (most < (zs'.length : Int)) = false := decide_eq_false (by have := Y32.out; omega)
              rcases Q.out.1 with ⟨rfl, rfl, rfl, hz'⟩ | ⟨rfl, rfl, rfl, hz', hm⟩ | ⟨rfl, rfl, rfl, hz', hm⟩
              · have n3 : decide (zs.length < zs'.length) = false := decide_eq_false (by omega)
                clear hz'
                go_wp2_with fail
                refine (len_any p F' zs' most wc S7.out).mono ?_
                rintro e w8 ⟨rfl, rfl⟩
                go_wp2_with fail
                go_meet
                exact ⟨rfl, rfl⟩
              · have n3 : decide (zs.length < zs'.length) = true := decide_eq_true (by omega)
                have n4 : decide ((zs.length : Int) < most) = true := decide_eq_true hm
                clear hz' hm
                go_wp2_with fail
                refine (len_any p F' zs' most wc S7.out).mono ?_
                rintro e w8 ⟨rfl, rfl⟩
                go_wp2_with fail
                go_meet
                exact ⟨rfl, rfl⟩
              · have n3 : decide (zs.length < zs'.length) = false := decide_eq_false (by omega)
                have n4 : decide ((zs.length : Int) < most) = false := decide_eq_false (by omega)
                clear hz' hm
                go_wp2_with fail
                refine (len_any p F' zs' most wc S7.out).mono ?_
                rintro e w8 ⟨rfl, rfl⟩
                go_wp2_with fail
                go_meet
                exact ⟨rfl, rfl⟩
            case rest => as_aux_lemma =>
            obtain ⟨rfl, rfl⟩ := hcut
            have hy32 := Y32.out.1
            go_wp2_with fail
            go_loopg [17] zs'.length (fun k i wq => ∃ j : Nat, j + k = zs'.length ∧ i = .int .i64 (j : Nat) ∧ ∃ mm, wq = wc.drewN mm)
            case atStart => exact ⟨0, by simp, rfl, 0, rfl⟩
            case round => as_aux_lemma =>
              obtain ⟨j, hj, rfl, mm, rfl⟩ := hrel
              by_cases hlt : j < zs'.length
              · have hd : decide (j < zs'.length) = true := by simpa using hlt
                obtain ⟨ky, y, hy⟩ : ∃ ky y, zs'[j]? = some (ky, y) := ⟨_, _, List.getElem?_eq_getElem hlt⟩
                obtain ⟨b3, o3, rfl, x1, y1⟩ := tch_cells A7.out hy
                have HY := Lib.hid hy
                clear hy
                go_wp2_with fail
                refine (get_known p F' zs' most ky j y _ (S7.out.drewN mm) (Kn.of_nodup (t := (ky, y)) Y32.out.2.2 HY.out) HY.out).mono ?_
                rintro e w8 ⟨rfl, rfl⟩
                go_upto_region 25 with fail
                go_cut [20] (fun v wx => v = .bool true ∧ ∃ mm, wx = wc.drewN mm)
                case first => as_aux_lemma =>
                  by_cases hb : j < zs.length
                  · obtain ⟨kz, z, hz⟩ : ∃ kz z, zs[j]? = some (kz, z) := ⟨_, _, List.getElem?_eq_getElem hb⟩
                    obtain ⟨s1, s2⟩ := ST.out j (kz, z) (ky, y) hz HY.out
                    simp only at s1 s2
                    subst s1
                    obtain ⟨b4, o4, rfl, x2, y2⟩ := tch_cells B7.out hz
                    have h1 : decide (zs.length ≤ j) = false := decide_eq_false (by omega)
                    have h2 : (ky == ky) = true := by simp
                    clear hz
                    by_cases hk : ky = m
                    · have h3 : (ky == m) = true := by simpa using hk
                      clear s2 hk
                      go_quiet (fail)
                      go_wp2_with fail
                      go_meet
                      first | exact ⟨rfl, _, rfl⟩ | exact ⟨rfl, _, drewN_two _ _ _⟩
                    · have h3 : (ky == m) = false := by simpa using hk
                      obtain rfl : y = z := s2.resolve_left hk
                      have h4 : ((y : Int) == (y : Int)) = true := by simp
                      clear s2 hk
                      go_quiet (fail)
                      go_wp2_with fail
                      go_meet
                      first | exact ⟨rfl, _, rfl⟩ | exact ⟨rfl, _, drewN_two _ _ _⟩
                  · have h1 : decide (zs.length ≤ j) = true := decide_eq_true (by omega)
                    go_quiet (fail)
                    go_wp2_with fail
                    go_meet
                    first | exact ⟨rfl, _, rfl⟩ | exact ⟨rfl, _, drewN_two _ _ _⟩
                case rest => as_aux_lemma =>
                obtain ⟨rfl, m2, rfl⟩ := hcut
                have hyy : ((y : Int) != (y : Int)) = false := by simp
                go_upto_region 26 with fail
                go_quiet (fail)
                go_wp2_with fail
                go_loopg [21] j (fun k i wq => ∃ h : Nat, h + k = j ∧ i = .int .i64 (h : Nat) ∧ ∃ mm, wq = wc.drewN mm)
                case atStart => first | exact ⟨0, by simp, rfl, _, rfl⟩ | exact ⟨0, by simp, rfl, _, drewN_two _ _ _⟩
                case round => as_aux_lemma =>
                  obtain ⟨h, hh, rfl, m3, rfl⟩ := hrel
                  by_cases hlh : h < j
                  · have hdh : decide (h < j) = true := by simpa using hlh
                    obtain ⟨kv, v, hv⟩ : ∃ kv v, zs'[h]? = some (kv, v) := ⟨_, _, List.getElem?_eq_getElem (by omega)⟩
                    obtain ⟨b5, o5, hb5, x3, y3⟩ := tch_cells A7.out hv
                    cases hb5
                    have hne : (kv == ky) = false := by
                      have h1 := Kn.of_nodup (t := (ky, y)) Y32.out.2.2 HY.out
                      simpa using h1.2 h hlh (kv, v) hv
                    have hh' : h < zs'.length := by omega
                    clear hv
                    go_wp2_with fail
                    go_quiet (fail)
                    go_wp2_with fail
                    go_roundg (gk - 1)
                    case measure => omega
                    case rel => exact ⟨h + 1, by omega, by go_num, _, rfl⟩
                  · have hdh : decide (h < j) = false := by simpa using hlh
                    go_wp2_with fail
                    go_roundg (zs'.length - (j + 1))
                    case measure => omega
                    case rel => exact ⟨j + 1, by omega, by go_num, _, rfl⟩
              · have hd : decide (j < zs'.length) = false := by simpa using hlt
                go_wp2_with fail
                refine (get_any p F' zs' most m _ (S7.out.drewN mm)).mono ?_
                rintro e w8 ⟨rfl, rfl⟩
                have Q2 := Lib.hid Q.out.2
                generalize getX zs' m = X at Q2
                generalize getB zs' m = B at Q2
                go_upto_region 34 with fail
                go_cut [24] (fun v wx => (∃ b, v = .bool b ∧ Hid (b = nanB s)) ∧ ∃ mm, wx = wc.drewN mm)
                case first => as_aux_lemma =>
                  go_region_law (first | (go_simp; go_at_call 12; refine (raw_nat s _).mono ?_; rintro e w' ⟨rfl, rfl⟩))
                  all_goals
                    go_wp2_with fail
                    go_meet
                    exact ⟨⟨_, rfl, Lib.hid rfl⟩, mm + 1, rfl⟩
                case rest => as_aux_lemma =>
                obtain ⟨⟨N1, rfl, HN1⟩, m4, rfl⟩ := hcut
                go_upto_region 35 with fail
                go_cut [282] (fun v wx => v = .bool false ∧ ∃ mm, wx = wc.drewN mm)
                case first => as_aux_lemma =>
                  rcases Q2.out with ⟨rfl, hX, rfl⟩ | ⟨rfl, hX, rfl⟩
                  · have y1 : nanB s = true → ((X : Int) != 9221120237041090560) = false := fun h => by rw [hX, fixB_nan h]; rfl
                    have y2 : nanB s = false → ((X : Int) != (s : Int)) = false := fun h => by rw [hX, fixB_num h]; simp
                    have y1 := Lib.hid y1
                    have y2 := Lib.hid y2
                    clear hX
                    cases N1 with
                    | true =>
                      have y3 := y1.out HN1.out.symm
                      go_quiet (fail)
                      go_wp2_with fail
                      go_meet
                      first | exact ⟨rfl, _, rfl⟩ | exact ⟨rfl, _, drewN_two _ _ _⟩
                    | false =>
                      have y3 := y2.out HN1.out.symm
                      go_quiet (fail)
                      go_wp2_with fail
                      go_meet
                      first | exact ⟨rfl, _, rfl⟩ | exact ⟨rfl, _, drewN_two _ _ _⟩
                  · clear hX
                    go_quiet (fail)
                    go_wp2_with fail
                    go_meet
                    first | exact ⟨rfl, _, rfl⟩ | exact ⟨rfl, _, drewN_two _ _ _⟩
                case rest => as_aux_lemma =>
                obtain ⟨rfl, m5, rfl⟩ := hcut
                go_wp2_with fail
                go_roundg (l.length - (n + 1))
                case measure => omega
                case rel => exact ⟨n + 1, by omega, by go_num, F', zs', S7.out.drewN _, G5.out, D7.out.drewN _⟩
    · have hd : decide (n < l.length) = false := by simpa using hlt
      go_wp2_with fail
      go_ret
      exact ⟨rfl, HC.out⟩

end Go.Proofs.Ytpigcmedkljonac
