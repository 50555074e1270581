/- StackBack: the walk. -/
import Derived.Test.YtpigcmedkljonaaLawA
namespace Go.Proofs.Ytpigcmedkljonaa
open Go Go.RowKit
set_option linter.unusedVariables false
set_option linter.unusedSimpArgs false

/-- What holds of the stack in the first loop: it has the first n of the list. -/
def Held (w wr : World) (p : Nat) (zs : List Int) (n : Nat) (R : Int) : Prop :=
  ∃ F, Stk 57 3 wr p F ((zs.take n).map (Value.int .i64)) R ∧ (∀ k, F k → w.heap.size ≤ k) ∧ Chg w wr Nothing

theorem Held.next {w wr w' : World} {p : Nat} {zs ys : List Int} {n : Nat} {R : Int} {F : Nat → Prop} (hF : ∀ k, F k → w.heap.size ≤ k) (hC : Chg w wr Nothing)
    (s : Stk 57 3 w' p (Grow F wr w') (ys.map (Value.int .i64)) R) (c : Chg wr w' F) (he : ys = zs.take n) : Held w w' p zs n R := by
  subst he
  have := hC.size
  exact ⟨_, s, fun k hk => by rcases hk with h | h; exact hF k h; omega, hC.trans c (fun k hk h => by have := hF k h; omega)⟩

theorem back_walk (room : Int) (a : Option Addr) (c : Nat) (zs : List Int) (w : World) (hs : Sees w a (zs.map (Value.int .i64))) (hc : zs.length ≤ c) (hl : c ≤ 9223372036854775807) :
    Calls Try.prog 4 #[.int .i64 room, .slice a zs.length c] w fun e w' => e = .returned (.bool true) ∧ Chg w w' Nothing := by
  have HS := Lib.hid hs
  clear hs
  obtain ⟨R, hR⟩ : ∃ R, R = roomOf room := ⟨_, rfl⟩
  have hR0 := roomOf_le room
  rw [← hR] at hR0
  obtain ⟨hR1, hR2⟩ := hR0
  go_enter Try.func4, Try.ntmps4
  go_wp2_with fail
  refine (live_any _).mono ?_
  rintro e w1 ⟨rfl, c1⟩
  go_wp2_with fail
  refine (SI.new_any room _).mono ?_
  rintro e w2 ⟨p, rfl, hp, s2, c2⟩
  rw [← hR] at s2
  clear hR
  have HI := Lib.hid (show Held w w2 p zs 0 R from by
    have := c1.size
    exact ⟨_, s2, fun k h => by rcases h with h | h; exact h.elim; omega, c1.trans c2 (fun _ _ h => h)⟩)
  clear s2 c1 c2 hp
  go_wp2_with fail
  go_loopg [7, 8] zs.length (fun k n i wr => ∃ j m : Nat, j + k = zs.length ∧ i = .int .i64 (j : Nat) ∧ n = .int .i64 (m : Nat) ∧ m ≤ j ∧ (m : Int) ≤ R ∧ (m < j → R ≤ (m : Int)) ∧ Held w wr p zs m R)
  case atStart => exact ⟨0, 0, by simp, rfl, rfl, Nat.le_refl _, by simpa using hR1, by simp, HI.out⟩
  case round =>
    clear HI
    obtain ⟨j, m, hj, rfl, rfl, hmj, hmR, hRm, F, hst, hF, hC⟩ := hrel
    have HT := Lib.hid hst
    have HF := Lib.hid hF
    have HC := Lib.hid hC
    have HRm := Lib.hid hRm
    clear hst hF hC hRm
    by_cases hlt : j < zs.length
    · have hd : decide (j < zs.length) = true := by simpa using hlt
      rcases HS.out with h | ⟨b, o, rfl, g⟩
      · simp at h; subst h; simp at hlt
      have cx := HC.out.cell (g j (.int .i64 zs[j]) (by simp [hlt])) id
      clear g
      have hlm : (zs.take m).length = m := by simp; omega
      have HL := Lib.hid hlm
      clear hlm
      by_cases hfull : (m : Int) < R
      · obtain rfl : m = j := by have := HRm.out; omega
        have hdR : decide ((m : Int) < R) = true := by simpa using hfull
        go_wp2_with fail
        refine (SI.push_good p F _ R _ wr HT.out (by rw [List.length_map, HL.out]; exact hfull)).mono ?_
        rintro e w3 ⟨rfl, s3, c3⟩
        have s3' := Lib.hid s3
        clear s3
        go_wp2_with fail
        refine (SI.room_any p _ _ R _ s3'.out).mono ?_
        rintro e w4 ⟨rfl, rfl⟩
        have R1 := Lib.hid (Held.next (zs := zs) (ys := zs.take m ++ [zs[m]]) (n := m + 1) HF.out HC.out (by rw [List.map_append]; exact s3'.out) c3 (by rw [List.take_succ_eq_append_getElem hlt]))
        clear s3' c3 cx
        go_wp2_with fail
        go_roundg (gk - 1)
        case measure => omega
        case rel => exact ⟨m + 1, m + 1, by omega, by go_num, by go_num, by omega, by omega, by omega, R1.out⟩
      · have hdR : decide ((m : Int) < R) = false := by simpa using hfull
        obtain rfl : R = m := by omega
        have hst : Stk 57 3 wr p F ((zs.take m).map (Value.int .i64)) ((((zs.take m).map (Value.int .i64)).length : Nat) : Int) := by rw [List.length_map, HL.out]; exact HT.out
        have HX := Lib.hid hst
        clear hst
        go_wp2_with fail
        refine (SI.push_full p F _ _ wr HX.out).mono ?_
        rintro e w3 ⟨rfl, m3, rfl⟩
        go_wp2_with fail
        refine (SI.room_any p F _ m _ (HT.out.drewN m3)).mono ?_
        rintro e w4 ⟨rfl, rfl⟩
        go_wp2_with fail
        go_roundg (gk - 1)
        case measure => omega
        case rel => exact ⟨j + 1, m, by omega, by go_num, rfl, by omega, by omega, by omega, F, HT.out.drewN m3, HF.out, HC.out.drewN m3⟩
    · have hd : decide (j < zs.length) = false := by simpa using hlt
      have hT := HT.out
      obtain ⟨ys, hys⟩ : ∃ ys, zs.take m = ys := ⟨_, rfl⟩
      obtain rfl : ys.length = m := by rw [← hys]; simp; omega
      rw [hys] at hT
      clear HT HRm hlt
      have HT := Lib.hid hT
      have HY := Lib.hid hys
      clear hT hys
      have SZ := Lib.hid (show Sees w a (ys.map (Value.int .i64)) from by
        have := HS.out.take ys.length
        rwa [← List.map_take, HY.out] at this)
      have SY := Lib.hid (SZ.out.chg HC.out)
      go_wp2_with fail
      refine (SI.all_any p F _ R wr HT.out (ints_one _)).mono ?_
      rintro e w3 ⟨a2, k2, rfl, o2, c3⟩
      have T3 := Lib.hid (HT.out.chg c3 (fun _ _ h => h))
      have S2 := Lib.hid (Sees.of_owns o2)
      have S1 := Lib.hid (SY.out.chg c3)
      have C3 := Lib.hid (HC.out.trans c3 (fun _ _ h => h))
      clear o2 c3 SY
      go_wp2_with fail
      refine (SI.len_any p F _ R w3 T3.out).mono ?_
      rintro e w4 ⟨rfl, rfl⟩
      have hq : ((ys.length : Int) != (ys.length : Int)) = false := by simp
      go_wp2_with fail
      refine (SI.room_any p F _ R w3 T3.out).mono ?_
      rintro e w4 ⟨rfl, rfl⟩
      have hq2 : decide (R < (ys.length : Int)) = false := by simp; omega
      have hmc : ys.length ≤ c := by omega
      go_wp2_with fail
      refine (same_true a2 a k2 c ys w3 S2.out S1.out (by omega)).mono ?_
      rintro e w4 ⟨rfl, m4, rfl⟩
      have HI := Lib.hid (show Held w (w3.drewN m4) p zs ys.length R from ⟨F, by rw [HY.out]; exact T3.out.drewN m4, HF.out, C3.out.drewN m4⟩)
      have S3 := Lib.hid (S1.out.drewN m4)
      have C4 := Lib.hid (C3.out.drewN m4)
      clear T3 S2 S1 C3 HT
      obtain ⟨w5, hw5⟩ : ∃ w5, w5 = w3.drewN m4 := ⟨_, rfl⟩
      rw [← hw5] at HI S3 C4 ⊢
      clear hw5
      have HJ := Lib.hid (show Held w w5 p ys ys.length R from by obtain ⟨F', h1, h2, h3⟩ := HI.out; exact ⟨F', by rw [List.take_length]; rwa [HY.out] at h1, h2, h3⟩)
      clear HI HY HC HF C4 S3
      go_wp2_with fail
      go_loopg [11] ys.length (fun k i wr => ∃ m : Nat, m = k ∧ m ≤ ys.length ∧ i = .int .i64 ((m : Int) - 1) ∧ Held w wr p ys m R)
      case atStart => exact ⟨ys.length, rfl, Nat.le_refl _, rfl, HJ.out⟩
      case round =>
        clear HJ
        obtain ⟨m, hm, hml, rfl, F', hst, hF, hC⟩ := hrel
        have HT := Lib.hid hst
        have HF := Lib.hid hF
        have HC := Lib.hid hC
        have HM := Lib.hid hm
        clear hst hF hC hm
        cases m with
        | zero =>
          have hd : decide ((0 : Int) ≤ ((0 : Nat) : Int) - 1) = false := by simp
          go_wp2_with fail
          refine (SI.pop_bad p F' R _ HT.out).mono ?_
          rintro e w6 ⟨rfl, m6, rfl⟩
          go_wp2_with fail
          refine (SI.len_any p F' _ R _ (HT.out.drewN m6)).mono ?_
          rintro e w7 ⟨rfl, rfl⟩
          go_wp2_with fail
          go_ret
          exact ⟨rfl, HC.out.drewN m6⟩
        | succ m =>
          rcases SZ.out with h | ⟨b, o, rfl, g⟩
          · simp at h; subst h; simp at hml
          have cm := HC.out.cell (g m (.int .i64 ys[m]) (by simp [show m < ys.length by omega])) id
          have c0 := HC.out.cell (g 0 (.int .i64 ys[0]) (by simp [show 0 < ys.length by omega])) id
          rw [Nat.add_zero] at c0
          have hb : b < w.heap.size := cell_lt (g 0 (.int .i64 ys[0]) (by simp [show 0 < ys.length by omega]))
          have HB := Lib.hid (show ¬ F' b from fun h => by have := HF.out _ h; omega)
          clear g hb
          have tk : ys.take (m + 1) = ys.take m ++ [ys[m]] := by rw [List.take_succ_eq_append_getElem]
          have HK := Lib.hid tk
          clear tk
          have P1 := Lib.hid (SI.pick_good p F' _ R m wr HT.out (.int .i64 ys[0]) (by simp; omega) (by simp [show min (m + 1) ys.length = m + 1 by omega, show 0 < ys.length by omega]))
          go_wp2_with fail
          refine P1.out.mono ?_
          rintro e w6 ⟨rfl, m6, rfl⟩
          have P2 := Lib.hid (SI.pop_good p F' ((ys.take m).map (Value.int .i64)) (.int .i64 ys[m]) R (wr.drewN m6) (by have := HT.out.drewN m6; rw [HK.out, List.map_append] at this; exact this))
          clear P1
          go_wp2_with fail
          refine P2.out.mono ?_
          rintro e w7 ⟨rfl, s7, c7⟩
          have cm' := c7.cell (w := wr.drewN m6) cm HB.out
          have c0' := c7.cell (w := wr.drewN m6) c0 HB.out
          have R7 := Lib.hid (show Held w w7 p ys m R from ⟨F', s7, HF.out, (HC.out.drewN m6).trans c7 (fun k hk h => by have := HF.out k h; omega)⟩)
          clear cm c0 s7 c7
          have hq1 : (ys[m] != ys[m]) = false := by simp
          have hq2 : (ys[0] != ys[0]) = false := by simp
          clear P2
          go_wp2_with fail
          go_roundg m
          case measure => have := HM.out; omega
          case rel => exact ⟨m, rfl, by omega, by go_num, R7.out⟩

end Go.Proofs.Ytpigcmedkljonaa
