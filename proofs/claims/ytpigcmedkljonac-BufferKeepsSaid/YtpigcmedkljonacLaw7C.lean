/- BufferNumbers and BufferPlays: the walks. -/
import Derived.Test.YtpigcmedkljonacLaw7B
namespace Go.Proofs.Ytpigcmedkljonac
open Go Go.RowKit
set_option linter.unusedVariables false
set_option linter.unusedSimpArgs false

theorem numbers_walk (w : World) : Calls Try.prog 3 #[] w fun e w' => e = .returned (.bool true) ∧ Chg w w' Nothing := by
  go_enter Try.func3, Try.ntmps3
  go_wp2_with fail
  refine (new_bad 33 w (by decide)).mono ?_
  rintro e w2 ⟨rfl, rfl⟩
  go_wp2_with fail
  refine (new_good 32 w (by decide) (by decide)).mono ?_
  rintro e w1 ⟨p, rfl, hp, s1, c1⟩
  go_wp2_with fail
  refine (len_any p _ _ 32 w1 s1).mono ?_
  rintro e w2 ⟨rfl, rfl⟩
  go_wp2_with fail
  go_ret
  exact ⟨rfl, c1⟩

/-- A script that lies in memory. -/
def Script (w : World) (a : Option Addr) (l : List (Int × Int × Int)) : Prop :=
  ∀ i x, l[i]? = some x → ∃ b o, a = some ⟨b, o, none⟩ ∧ w.cell? ⟨b, o + i * 3, none⟩ = some (.int .i64 x.1) ∧ w.cell? ⟨b, o + i * 3 + 1, none⟩ = some (.int .i64 x.2.1) ∧ w.cell? ⟨b, o + i * 3 + 2, none⟩ = some (.int .u64 x.2.2)

/-- What holds at the head of each round: both buffers lie in what the call has made. -/
def Inv (w wr : World) (p r : Nat) (most : Int) : Prop :=
  ∃ F G l, Two wr p r F G l most ∧ (∀ k, F k → w.heap.size ≤ k) ∧ (∀ k, G k → w.heap.size ≤ k) ∧ Chg w wr Nothing

theorem Inv.after {w wr w' : World} {p r : Nat} {F G : Nat → Prop} {most : Int} (hF : ∀ k, F k → w.heap.size ≤ k) (hG : ∀ k, G k → w.heap.size ≤ k) (hC : Chg w wr Nothing) (ha : After wr w' p r F G most) : Inv w w' p r most := by
  obtain ⟨F', G', zs', h1, h2, h3, h4⟩ := ha
  have := hC.size
  refine ⟨F', G', zs', h1, fun k hk => ?_, fun k hk => ?_, hC.trans h2 (fun k hk h => ?_)⟩
  · rcases h3 k hk with h | h; exact hF k h; omega
  · rcases h4 k hk with h | h; exact hG k h; omega
  · rcases h with h | h; have := hF k h; omega; have := hG k h; omega

/-- A clone goes on, the one that was left has been changed. -/
theorem Two.cloned {wr w5 w6 : World} {p r q : Nat} {F G : Nat → Prop} {l : List (Int × Nat)} {most : Int} {o : Obj} (h : Two wr p r F G l most) (h5 : Bf w5 q (Grow Nothing (wr.alloc o) w5) l most)
    (c5 : Chg (wr.alloc o) w5 Nothing) (c6 : Chg w5 w6 F) : Two w6 q r (Grow Nothing (wr.alloc o) w5) G l most := by
  have e1 := h.s.lt
  have e2 := h.r.lt
  have e3 : (wr.alloc o).heap.size = wr.heap.size + 1 := by simp
  refine ⟨h5.chg c6 ?_, ((h.boxed o).r.chg c5 (fun _ _ h => h)).chg c6 (fun k hk hf => h.d k hf hk), ?_⟩
  · intro k hk hf; rcases hk with hk | hk; exact hk; have := e1 k hf; omega
  · intro k hk hg; rcases hk with hk | hk; exact hk; have := e2 k hg; omega

/-- A clone was changed and left. -/
theorem Two.leave {wr w5 w6 : World} {p r : Nat} {F G : Nat → Prop} {l : List (Int × Nat)} {most : Int} {o : Obj} (h : Two wr p r F G l most)
    (c5 : Chg (wr.alloc o) w5 Nothing) (c6 : Chg w5 w6 (Grow Nothing (wr.alloc o) w5)) : Two w6 p r F G l most ∧ Chg wr w6 Nothing := by
  have e3 : (wr.alloc o).heap.size = wr.heap.size + 1 := by simp
  have hc : Chg wr w6 Nothing := (((Chg.refl _ _).alloc o).trans c5 (fun _ _ h => h)).trans c6 (fun k hk h => by rcases h with h | h; exact h; omega)
  exact ⟨h.chg hc, hc⟩

theorem plays_walk (most : Int) (a : Option Addr) (c : Nat) (l : List (Int × Int × Int)) (w : World) (hs : Script w a l) (hl : l.length ≤ 9223372036854775807) :
    Calls Try.prog 6 #[.int .i64 most, .slice a l.length c] w fun e w' => e = .returned (.bool true) ∧ Chg w w' Nothing := by
  have HS := Lib.hid hs
  clear hs
  by_cases hb : most < 1 ∨ 32 < most
  · have HB := Lib.hid hb
    clear hb
    go_enter Try.func6, Try.ntmps6
    go_wp2_with fail
    refine (live_any _).mono ?_
    rintro e w1 ⟨rfl, c1⟩
    go_wp2_with fail
    refine (new_bad most w1 HB.out).mono ?_
    rintro e w2 ⟨rfl, rfl⟩
    go_wp2_with fail
    refine (R7.new_bad most w1 HB.out).mono ?_
    rintro e w2 ⟨rfl, rfl⟩
    go_wp2_with fail
    go_ret
    exact ⟨rfl, c1⟩
  have g1 := Lib.hid (show 1 ≤ most by omega)
  have g2 := Lib.hid (show most ≤ 32 by omega)
  clear hb
  go_enter Try.func6, Try.ntmps6
  go_wp2_with fail
  refine (live_any _).mono ?_
  rintro e w1 ⟨rfl, c1⟩
  go_wp2_with fail
  refine (new_good most _ g1.out g2.out).mono ?_
  rintro e w2 ⟨p, rfl, hp, s2, c2⟩
  go_wp2_with fail
  refine (R7.new_good most _ g1.out g2.out).mono ?_
  rintro e w3 ⟨r, rfl, hr, s3, c3⟩
  have HI := Lib.hid (show Inv w w3 p r most from by
    have := c1.size; have := c2.size
    refine ⟨Grow Nothing w1 w2, Grow Nothing w2 w3, [], ⟨s2.chg c3 (fun _ _ h => h), s3, fun k h h' => by rcases h with h | h <;> rcases h' with h' | h' <;> first | exact h | exact h' | omega⟩, fun k h => by rcases h with h | h; exact h.elim; omega, fun k h => by rcases h with h | h; exact h.elim; omega, (c1.trans c2 (fun _ _ h => h)).trans c3 (fun _ _ h => h)⟩)
  clear s2 s3 c1 c2 c3 hp hr
  go_wp2_with fail
  go_loopg [6, 42] l.length (fun k s i wr => ∃ n p, n + k = l.length ∧ i = .int .i64 (n : Nat) ∧ s = .pointer (some ⟨p, 0, none⟩) ∧ Inv w wr p r most)
  case atStart => exact ⟨0, p, by simp, rfl, rfl, HI.out⟩
  case round =>
    clear HI
    obtain ⟨n, p, hn, rfl, rfl, F, G, zs, ht, hF, hG, hc⟩ := hrel
    have HT := Lib.hid ht
    have HF := Lib.hid hF
    have HG := Lib.hid hG
    have HC := Lib.hid hc
    clear ht hF hG hc
    by_cases hlt : n < l.length
    · have hd : decide (n < l.length) = true := by simpa using hlt
      obtain ⟨kd, m, s, hx⟩ : ∃ kd m s, l[n] = (kd, m, s) := ⟨_, _, _, rfl⟩
      obtain ⟨b, o, rfl, k0, k1, k2⟩ := HS.out n _ (List.getElem?_eq_getElem hlt)
      rw [hx] at k0 k1 k2
      have k0 := HC.out.cell k0 id
      have k1 := HC.out.cell k1 id
      have k2 := HC.out.cell k2 id
      clear hx
      by_cases h6 : kd = 5
      · subst h6
        go_wp2_with fail
        refine (clone_any p F zs most _ (HT.out.boxed _).s).mono ?_
        rintro e w5 ⟨q, rfl, hq, s5, c5⟩
        have P5 := Lib.hid ((HT.out.boxed _).s.chg c5 (fun _ _ h => h))
        go_wp2_with fail
        refine (stir_any p F zs most w5 P5.out).mono ?_
        rintro e w6 ⟨rfl, c6⟩
        have d0 := c6.cell (box_cell 0 c5 (F := Nothing) (fun _ h => h.elim) rfl) (fun h => Nat.lt_irrefl _ (HT.out.s.lt _ h))
        have d1 := c6.cell (box_cell 1 c5 (F := Nothing) (fun _ h => h.elim) rfl) (fun h => Nat.lt_irrefl _ (HT.out.s.lt _ h))
        have d2 := c6.cell (box_cell 2 c5 (F := Nothing) (fun _ h => h.elim) rfl) (fun h => Nat.lt_irrefl _ (HT.out.s.lt _ h))
        have T6 := Lib.hid (HT.out.cloned s5 c5 c6)
        have C6 := Lib.hid (show Chg w w6 Nothing from ((HC.out.alloc _).trans c5 (fun _ _ h => h)).trans c6 (fun k hk h => by have := HF.out k h; omega))
        have F6 := Lib.hid (show ∀ k, Grow Nothing (wr.alloc (.cells #[.int .i64 5, .int .i64 m, .int .u64 s] 31)) w5 k → w.heap.size ≤ k from fun k h => by
          have := HC.out.size
          rcases h with h | h
          · exact h.elim
          · simp at h; omega)
        clear s5 c5 c6 hq k0 k1 k2 P5
        go_wp2_with fail
        refine (step_any q r _ G zs most 5 m s w6 T6.out).mono ?_
        rintro e w7 ⟨rfl, a7⟩
        have I7 := Lib.hid (Inv.after F6.out HG.out C6.out a7)
        clear a7 d0 d1 d2
        go_wp2_with fail
        go_roundg (gk - 1)
        case measure => omega
        case rel => exact ⟨n + 1, q, by omega, by go_num, rfl, I7.out⟩
      have b6 : (kd == 5) = false := by simpa using h6
      by_cases h7 : kd = 6
      · subst h7
        go_wp2_with fail
        refine (clone_any p F zs most _ (HT.out.boxed _).s).mono ?_
        rintro e w5 ⟨q, rfl, hq, s5, c5⟩
        go_wp2_with fail
        refine (stir_any q _ zs most w5 s5).mono ?_
        rintro e w6 ⟨rfl, c6⟩
        have hg : ¬ Grow Nothing (wr.alloc (.cells #[.int .i64 6, .int .i64 m, .int .u64 s] 31)) w5 wr.heap.size := fun h => by
          rcases h with h | h
          · exact h.elim
          · simp at h; omega
        have d0 := c6.cell (box_cell 0 c5 (F := Nothing) (fun _ h => h.elim) rfl) hg
        have d1 := c6.cell (box_cell 1 c5 (F := Nothing) (fun _ h => h.elim) rfl) hg
        have d2 := c6.cell (box_cell 2 c5 (F := Nothing) (fun _ h => h.elim) rfl) hg
        have T6 := Lib.hid (HT.out.leave c5 c6)
        have C6 := Lib.hid (HC.out.trans T6.out.2 (fun _ _ h => h))
        clear s5 c5 c6 hq k0 k1 k2 hg
        go_wp2_with fail
        refine (step_any p r F G zs most 6 m s w6 T6.out.1).mono ?_
        rintro e w7 ⟨rfl, a7⟩
        have I7 := Lib.hid (Inv.after HF.out HG.out C6.out a7)
        clear a7 d0 d1 d2
        go_wp2_with fail
        go_roundg (gk - 1)
        case measure => omega
        case rel => exact ⟨n + 1, p, by omega, by go_num, rfl, I7.out⟩
      have b7 : (kd == 6) = false := by simpa using h7
      clear h6 h7
      go_wp2_with fail
      refine (step_any p r F G zs most kd m s _ (HT.out.boxed _)).mono ?_
      rintro e w7 ⟨rfl, a7⟩
      have I7 := Lib.hid (Inv.after HF.out HG.out HC.out a7.boxed)
      clear a7 k0 k1 k2
      go_wp2_with fail
      go_roundg (gk - 1)
      case measure => omega
      case rel => exact ⟨n + 1, p, by omega, by go_num, rfl, I7.out⟩
    · have hd : decide (n < l.length) = false := by simpa using hlt
      have hq : ((zs.length : Int) == (zs.length : Int)) = true := by simp
      go_wp2_with fail
      refine (R7.all_any r G zs most _ HT.out.r HT.out.len.1).mono ?_
      rintro e w1 ⟨a1, k1, rfl, o1, c1⟩
      have T1 := Lib.hid (HT.out.chg c1)
      have S1 := Lib.hid (Sees.of_owns o1)
      have C1 := Lib.hid (HC.out.trans c1 (fun _ _ h => h))
      clear o1 c1
      go_wp2_with fail
      refine (len_any p F zs most w1 T1.out.s).mono ?_
      rintro e w2 ⟨rfl, rfl⟩
      go_wp2_with fail
      refine (R7.len_any r G zs most w1 T1.out.r).mono ?_
      rintro e w2 ⟨rfl, rfl⟩
      go_wp2_with fail
      refine (all_any p F zs most w1 T1.out.s).mono ?_
      rintro e w2 ⟨a2, k2, rfl, o2, c2⟩
      have S2 := Lib.hid (Sees.of_owns o2)
      have S3 := Lib.hid (S1.out.chg c2)
      have C2 := Lib.hid (C1.out.trans c2 (fun _ _ h => h))
      clear o2 c2
      go_wp2_with fail
      refine (exact_true a2 a1 k2 k1 zs w2 S2.out S3.out (by have := HT.out.len; omega)).mono ?_
      rintro e w3 ⟨rfl, m, rfl⟩
      go_wp2_with fail
      go_ret
      exact ⟨rfl, C2.out.drewN m⟩

end Go.Proofs.Ytpigcmedkljonac
