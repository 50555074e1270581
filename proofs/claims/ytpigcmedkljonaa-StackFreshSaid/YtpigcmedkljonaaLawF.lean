/- StackFresh: the walk. -/
import Derived.Test.YtpigcmedkljonaaLawE
namespace Go.Proofs.Ytpigcmedkljonaa
open Go Go.RowKit
set_option linter.unusedVariables false
set_option linter.unusedSimpArgs false

theorem pushL_take {zs : List Int} {m j : Nat} {R : Int} (hmj : m ≤ j) (hlt : j < zs.length) (hmR : (m : Int) ≤ R) (hRm : m < j → R ≤ (m : Int)) :
    ∃ m', pushL (zs.take m) R zs[j] = zs.take m' ∧ m' ≤ j + 1 ∧ (m' : Int) ≤ R ∧ (m' < j + 1 → R ≤ (m' : Int)) := by
  have hl : (zs.take m).length = m := by simp; omega
  unfold pushL
  rw [hl]
  by_cases h : (m : Int) < R
  · obtain rfl : m = j := by omega
    rw [if_pos h]
    exact ⟨m + 1, by rw [List.take_succ_eq_append_getElem hlt], by omega, by omega, by omega⟩
  · rw [if_neg h]
    exact ⟨m, rfl, by omega, hmR, by omega⟩

/-- A row of numbers that the call itself has made. -/
def Nums (w wr : World) (a : Option Addr) (n c : Nat) : Prop := ∃ vs : List Int, vs.length = n ∧ wr.ownsRow w.heap.size 3 1 (.slice a n c) n (vs.map (Value.int .i64)) ∧ Chg w wr Nothing

theorem Nums.store {w wr : World} {g n c j : Nat} (h : Nums w wr (some ⟨g, 0, none⟩) n c) (hj : j < n) (z : Int) : Nums w (wr.setCell ⟨g, j, none⟩ (.int .i64 z)) (some ⟨g, 0, none⟩) n c := by
  obtain ⟨vs, h1, h2, h3⟩ := h
  have := h2.stored j (.int .i64 z)
  rw [← List.map_set] at this
  exact ⟨vs.set j z, by simpa using h1, this.1, h3.grown this.2 (fun k hk => by cases hk; exact .inl (h2.lt _ rfl).1)⟩

theorem fresh_walk (room : Int) (a : Option Addr) (c : Nat) (zs : List Int) (w : World) (hs : Sees w a (zs.map (Value.int .i64))) (hc : zs.length ≤ c) (hl : c ≤ 9223372036854775807) :
    Calls Try.prog 5 #[.int .i64 room, .slice a zs.length c] w fun e w' => e = .returned (.bool true) ∧ Chg w w' Nothing := by
  have HS := Lib.hid hs
  clear hs
  obtain ⟨R, hR⟩ : ∃ R, R = roomOf room := ⟨_, rfl⟩
  have hR0 := roomOf_le room
  rw [← hR] at hR0
  obtain ⟨hR1, hR2⟩ := hR0
  go_enter Try.func5, Try.ntmps5
  go_wp2_with fail
  refine (live_any _).mono ?_
  rintro e w1 ⟨rfl, c1⟩
  go_wp2_with fail
  refine (SI.new_any room _).mono ?_
  rintro e w2 ⟨p, rfl, hp, s2, c2⟩
  rw [← hR] at s2
  clear hR
  have HI := Lib.hid (show Held w w2 p zs 0 R from by
    have := c1.size
    exact ⟨_, s2, fun k h => by rcases h with h | h; exact h.elim; omega, c1.trans c2 (fun _ _ h => h)⟩)
  clear s2 c1 c2 hp
  go_wp2_with fail
  go_loopg [7] zs.length (fun k i wr => ∃ j m : Nat, j + k = zs.length ∧ i = .int .i64 (j : Nat) ∧ m ≤ j ∧ (m : Int) ≤ R ∧ (m < j → R ≤ (m : Int)) ∧ Held w wr p zs m R)
  case atStart => exact ⟨0, 0, by simp, rfl, Nat.le_refl _, by simpa using hR1, by simp, HI.out⟩
  case round =>
    clear HI
    obtain ⟨j, m, hj, rfl, hmj, hmR, hRm, F, hst, hF, hC⟩ := hrel
    have HT := Lib.hid hst
    have HF := Lib.hid hF
    have HC := Lib.hid hC
    have HRm := Lib.hid hRm
    clear hst hF hC hRm
    by_cases hlt : j < zs.length
    · have hd : decide (j < zs.length) = true := by simpa using hlt
      rcases HS.out with h | ⟨b, o, rfl, g⟩
      · simp at h; subst h; simp at hlt
      have cx := HC.out.cell (g j (.int .i64 zs[j]) (by simp [hlt])) id
      clear g
      have P := Lib.hid (pushL_take hmj hlt hmR HRm.out)
      go_wp2_with fail
      refine (SI.push_any p F _ R _ wr HT.out).mono ?_
      rintro e w3 ⟨rfl, s3, c3⟩
      obtain ⟨m', e1, e2, e3, e4⟩ := P.out
      have R1 := Lib.hid (Held.next (zs := zs) (n := m') HF.out HC.out s3 c3 e1)
      have E4 := Lib.hid e4
      clear s3 c3 cx e1 e4 P
      go_wp2_with fail
      go_roundg (gk - 1)
      case measure => omega
      case rel => exact ⟨j + 1, m', by omega, by go_num, e2, e3, E4.out, R1.out⟩
    · have hd : decide (j < zs.length) = false := by simpa using hlt
      have hT := HT.out
      obtain ⟨ys, hys⟩ : ∃ ys, zs.take m = ys := ⟨_, rfl⟩
      obtain rfl : ys.length = m := by rw [← hys]; simp; omega
      rw [hys] at hT
      clear HT HRm hlt
      have HT := Lib.hid hT
      have HY := Lib.hid hys
      clear hT hys
      have SY := Lib.hid (show Sees wr a (ys.map (Value.int .i64)) from by
        have := (HS.out.chg HC.out).take ys.length
        rwa [← List.map_take, HY.out] at this)
      go_wp2_with fail
      refine (SI.clone_any p F _ R wr HT.out (ints_one _)).mono ?_
      rintro e w3 ⟨q, rfl, hq, sq, c3⟩
      have T3 := Lib.hid (HT.out.chg c3 (fun _ _ h => h))
      have Q3 := Lib.hid sq
      have C3 := Lib.hid c3
      have FQ := Lib.hid (show ∀ k, F k → ¬ Grow Nothing wr w3 k from fun k h h' => by have := HT.out.lt k h; rcases h' with h' | h'; exact h'; omega)
      have GQ := Lib.hid (show ∀ k, Grow Nothing wr w3 k → w.heap.size ≤ k from fun k h => by have := HC.out.size; rcases h with h | h; exact h.elim; omega)
      clear sq hq c3
      generalize Grow Nothing wr w3 = G at Q3 FQ GQ
      go_wp2_with fail
      refine (SI.all_any p F _ R w3 T3.out (ints_one _)).mono ?_
      rintro e w4 ⟨a2, k2, rfl, o2, c4⟩
      have HN := Lib.hid (show Nums w3 w4 a2 ys.length k2 from ⟨ys, rfl, by simpa using o2, c4⟩)
      clear o2 c4
      go_wp2_with fail
      go_loopg [10] ys.length (fun k i wq => ∃ j : Nat, j + k = ys.length ∧ i = .int .i64 (j : Nat) ∧ Nums w3 wq a2 ys.length k2)
      case atStart => exact ⟨0, by simp, rfl, HN.out⟩
      case round =>
        clear HN
        obtain ⟨i, hi, rfl, hn⟩ := hrel
        by_cases hlt : i < ys.length
        · have hd : decide (i < ys.length) = true := by simpa using hlt
          obtain ⟨vs, hv, hown, hch⟩ := hn
          obtain ⟨g, cc, hg⟩ := (ownsRow_shape hown).2 (by omega)
          injection hg with hg _ hk
          subst hg hk
          have cx := (hown.cellAt i (by omega)).trans (show _ = some (.int .i64 vs[i]) by simp [show i < vs.length by omega])
          have fx := hown.frozenAt i
          have N1 := Lib.hid (Nums.store (w := w3) (wr := wr) (g := g) (c := k2) (j := i) ⟨vs, hv, hown, hch⟩ hlt)
          clear hown hch
          go_wp2_with fail
          go_roundg (gk - 1)
          case measure => omega
          case rel => exact ⟨i + 1, by omega, by go_num, N1.out _⟩
        · have hd : decide (i < ys.length) = false := by simpa using hlt
          obtain ⟨vs, hv, hown, hch⟩ := hn
          have HO := Lib.hid hown
          have HH := Lib.hid hch
          have HV := Lib.hid hv
          clear hown hch hv
          have T5 := Lib.hid (T3.out.chg HH.out (fun _ _ h => h))
          have Q5 := Lib.hid (Q3.out.chg HH.out (fun _ _ h => h))
          have S5 := Lib.hid ((SY.out.chg C3.out).chg HH.out)
          have D5 := Lib.hid ((HC.out.trans C3.out (fun _ _ h => h)).trans HH.out (fun _ _ h => h))
          have hfit := T5.out.fits
          simp only [List.length_map] at hfit
          go_wp2_with (at_builtin; refine append_any rfl _ _ 28 3 rfl (.int .i64 0) 1 8 Try.underlying28 (by kernel_rfl) rfl (by decide) _ ys.length (vs.map (Value.int .i64)) rfl (ownsRow_base (HO.out.alloc _) (Nat.zero_le _)) ⟨wr.heap.size, 0, none⟩ 2 2 rfl [.int .i64 1, .int .i64 2] rfl ?c1 ?c2 ?c3 ?c4 ?c5)
          case c1 => intro j u hj; match j, hj with | 0, hj => (simp at hj; subst hj; exact blk_cell (heap_alloc_new wr _) 0) | 1, hj => (simp at hj; subst hj; exact blk_cell (heap_alloc_new wr _) 1)
          case c2 => intro u hu; simp at hu; rcases hu with rfl | rfl <;> rfl
          case c3 => unfold maxLen; omega
          case c4 => omega
          case c5 =>
            intro v w6 hown2 hg2 hgg
            obtain ⟨⟨a6, k6, rfl⟩, _⟩ := ownsRow_shape hown2
            have C6 := Lib.hid (show Chg wr w6 (fun k => w3.heap.size ≤ k) from ((Chg.refl _ _).alloc _).grown hg2 (fun k hk => .inr (HO.out.lt k hk).1))
            clear hown2 hg2 hgg
            have T6 := Lib.hid (T5.out.chg C6.out (fun k hk h => by have := HT.out.lt k hk; have := C3.out.size; omega))
            have Q6 := Lib.hid (Q5.out.chg C6.out (fun k hk h => by have := Q3.out.lt k hk; omega))
            have D6 := Lib.hid (D5.out.trans C6.out (fun k hk h => by have := HC.out.size; have := C3.out.size; omega))
            have S6 := Lib.hid (show Sees w6 a (ys.map (Value.int .i64)) from by
              have := (HS.out.chg D6.out).take ys.length
              rwa [← List.map_take, HY.out] at this)
            clear T5 Q5 D5 S5 HO HH T3 Q3
            go_wp2_with fail
            refine (SI.len_any p F _ R w6 T6.out).mono ?_
            rintro e w7 ⟨rfl, rfl⟩
            go_wp2_with fail
            refine (SI.all_any p F _ R w6 T6.out (ints_one _)).mono ?_
            rintro e w7 ⟨a7, k7, rfl, o7, c7⟩
            have T7 := Lib.hid (T6.out.chg c7 (fun _ _ h => h))
            have Q7 := Lib.hid (Q6.out.chg c7 (fun _ _ h => h))
            have D7 := Lib.hid (D6.out.trans c7 (fun _ _ h => h))
            have S7 := Lib.hid (S6.out.chg c7)
            have A7 := Lib.hid (Sees.of_owns o7)
            have L7 := Lib.hid (ownsRow_low o7)
            have GL := Lib.hid (show ∀ k, G k → k < w6.heap.size from Q6.out.lt)
            clear T6 Q6 D6 S6 C6 o7 c7
            go_wp2_with fail
            refine (SI.push_any q _ _ R _ w7 Q7.out).mono ?_
            rintro e w8 ⟨rfl, q8, c8⟩
            go_wp2_with fail
            refine (SI.pop_any q _ _ R w8 q8).mono ?_
            rintro e w9 ⟨rfl, q9, c9⟩
            go_wp2_with fail
            refine (SI.pop_any q _ _ R w9 q9).mono ?_
            rintro e w10 ⟨rfl, q10, c10⟩
            have K := Lib.hid (show Chg w7 w10 G from (c8.trans c9 (fun k hk h => by rcases h with h | h; exact h; omega)).trans c10 (fun k hk h => by rcases h with h | h; exact h; omega))
            clear c8 c9 c10 q8 q9 q10
            have T8 := Lib.hid (T7.out.chg K.out FQ.out)
            have D8 := Lib.hid (D7.out.trans K.out (fun k hk h => by have := GQ.out k h; omega))
            have A8 := Lib.hid (show Sees w10 a7 (ys.map (Value.int .i64)) from L7.out w10 fun k hk => K.out.block k (by have := hk.2; omega) (fun h => by have := GL.out k h; omega))
            have S8 := Lib.hid (show Sees w10 a (ys.map (Value.int .i64)) from by
              have := (HS.out.chg D8.out).take ys.length
              rwa [← List.map_take, HY.out] at this)
            have hyz : ys.length ≤ zs.length := by omega
            have hyc : ys.length ≤ c := by omega
            have hq : decide (ys.length ≤ zs.length) = true := by simpa using hyz
            clear S7 A7 L7 T7 Q7 D7
            go_wp2_with fail
            refine (SI.all_any p F _ R w10 T8.out (ints_one _)).mono ?_
            rintro e w11 ⟨a9, k9, rfl, o9, c9⟩
            have B9 := Lib.hid (Sees.of_owns o9)
            have A9 := Lib.hid (A8.out.chg c9)
            have S9 := Lib.hid (S8.out.chg c9)
            have D9 := Lib.hid (D8.out.trans c9 (fun _ _ h => h))
            clear o9 c9
            go_wp2_with fail
            refine (same_true a7 a k7 c ys w11 A9.out S9.out (by omega)).mono ?_
            rintro e w12 ⟨rfl, m12, rfl⟩
            go_wp2_with fail
            refine (same_true a9 a k9 c ys _ (B9.out.drewN m12) (S9.out.drewN m12) (by omega)).mono ?_
            rintro e w13 ⟨rfl, m13, rfl⟩
            go_wp2_with fail
            go_ret
            exact ⟨rfl, D9.out.drewN _⟩

end Go.Proofs.Ytpigcmedkljonaa
