/- step and play of layer 6's statements. -/
import Derived.Test.YtpigcmedkljonabLaw6D
namespace Go.Proofs.Ytpigcmedkljonab
open Go Go.RowKit
set_option linter.unusedVariables false
set_option linter.unusedSimpArgs false

theorem step_same (p q : Nat) (F G : Nat → Prop) (fs : List Nat) (n x : Int) (a : Option Addr) (c : Nat) (ps : List (Int × Int)) (w : World) (h : Two w p q F G fs) (hp : Pts w a ps) (hl : ps.length * 16 ≤ 140737488351232) :
    Calls Try.prog 31 #[.pointer (some ⟨p, 0, none⟩), .pointer (some ⟨q, 0, none⟩), .agg #[.int .i64 5, .int .i64 n, .int .u64 x, .slice a ps.length c]] w fun e w' => e = .returned (.bool true) ∧ After w w' p q F G := by
  have H := Lib.hid h
  have HP := Lib.hid hp
  clear h hp
  have P0 := Lib.hid (fun o => HP.out.chg (((Chg.refl w Nothing).alloc o)))
  go_enter Try.func31, Try.ntmps31
  go_wp2_with fail
  refine (numbers_fs a c ps _ (P0.out _) (by omega)).mono ?_
  rintro e w1 ⟨a1, k1, ms, rfl, hm, s1, c1⟩
  have S1 := Lib.hid s1
  have H1 := Lib.hid ((H.out.boxed _).chg c1)
  have C1 := Lib.hid (((Chg.refl w Nothing).alloc _).trans c1 (fun _ _ h => h))
  clear s1 c1 hm
  by_cases hb : ms.length < 1 ∨ 256 < ms.length
  · have HB := Lib.hid hb
    clear hb
    go_wp2_with fail
    refine (T6.of_bad a1 ms.length k1 w1 HB.out).mono ?_
    rintro e w2 ⟨rfl, rfl⟩
    go_wp2_with fail
    refine (R6.of_bad a1 ms.length k1 w1 HB.out).mono ?_
    rintro e w2 ⟨rfl, rfl⟩
    go_wp2_with fail
    go_ret
    exact ⟨rfl, After.same H.out C1.out⟩
  · have g1 := Lib.hid (show 1 ≤ ms.length by omega)
    have g2 := Lib.hid (show ms.length ≤ 256 by omega)
    clear hb
    go_wp2_with fail
    refine (T6.of_good a1 k1 ms w1 S1.out g1.out g2.out).mono ?_
    rintro e w2 ⟨t, rfl, ht, s2, c2⟩
    have H2 := Lib.hid (H1.out.chg c2)
    have S2 := Lib.hid (S1.out.chg c2)
    have T2 := Lib.hid s2
    have C2 := Lib.hid (C1.out.trans c2 (fun _ _ h => h))
    clear s2 c2 ht
    generalize Grow Nothing w1 w2 = FT at T2
    go_wp2_with fail
    refine (R6.of_good a1 k1 ms w2 S2.out g1.out g2.out).mono ?_
    rintro e w3 ⟨u, rfl, hu, s3, c3⟩
    have H3 := Lib.hid (H2.out.chg c3)
    have T3 := Lib.hid (T2.out.chg c3 (fun _ _ h => h))
    have U3 := Lib.hid s3
    have C3 := Lib.hid (C2.out.trans c3 (fun _ _ h => h))
    clear s3 c3 hu
    generalize Grow Nothing w2 w3 = FU at U3
    have hg : (ms.map fixB).length ≤ 256 := by simp; exact g2.out
    generalize ms.map fixB = gs at T3 U3 hg
    go_wp2_with fail
    refine (R6.same_true q u G FU fs gs w3 H3.out.r U3.out H.out.l).mono ?_
    rintro e w4 ⟨rfl, m4, rfl⟩
    go_wp2_with fail
    refine (T6.same_true p t F FT fs gs _ (H3.out.drewN m4).s (T3.out.drewN m4) H.out.l).mono ?_
    rintro e w5 ⟨rfl, m5, rfl⟩
    have hq : (sameL fs gs == sameL fs gs) = true := by simp
    go_wp2_with fail
    refine (T6.same_true t p FT F gs fs _ (T3.out.drewN (m4 + m5)) (H3.out.drewN (m4 + m5)).s hg).mono ?_
    rintro e w6 ⟨rfl, m6, rfl⟩
    rw [sameL_comm gs fs]
    go_wp2_with fail
    go_ret
    exact ⟨rfl, After.same H.out (C3.out.drewN _)⟩

theorem step_any (p q : Nat) (F G : Nat → Prop) (fs : List Nat) (k n x : Int) (a : Option Addr) (c : Nat) (ps : List (Int × Int)) (w : World) (h : Two w p q F G fs) (hp : Pts w a ps) (hl : ps.length * 16 ≤ 140737488351232) (hF : ∀ b o, a = some ⟨b, o, none⟩ → 0 < ps.length → ¬ F b ∧ ¬ G b) :
    Calls Try.prog 31 #[.pointer (some ⟨p, 0, none⟩), .pointer (some ⟨q, 0, none⟩), .agg #[.int .i64 k, .int .i64 n, .int .u64 x, .slice a ps.length c]] w fun e w' => e = .returned (.bool true) ∧ After w w' p q F G := by
  by_cases h1 : k = 1
  · subst h1; exact step_get p q F G fs n x _ w h
  by_cases h2 : k = 2
  · subst h2; exact step_set p q F G fs n x _ w h
  by_cases h3 : k = 3
  · subst h3; exact step_apply p q F G fs n x a c ps w h hp hl hF
  by_cases h4 : k = 4
  · subst h4; exact step_all p q F G fs n x _ w h
  by_cases h5 : k = 5
  · subst h5; exact step_same p q F G fs n x a c ps w h hp hl
  exact step_other p q F G fs k n x _ w h h1 h2 h3 h4 h5

/-- A script that lies in memory. -/
structure OpD where
  k : Int
  n : Int
  x : Int
  a : Option Addr
  c : Nat
  ps : List (Int × Int)
def Script (w : World) (a : Option Addr) (l : List OpD) : Prop :=
  ∀ i x, l[i]? = some x → (∃ b o, a = some ⟨b, o, none⟩ ∧ w.cell? ⟨b, o + i * 4, none⟩ = some (.int .i64 x.k) ∧ w.cell? ⟨b, o + i * 4 + 1, none⟩ = some (.int .i64 x.n) ∧ w.cell? ⟨b, o + i * 4 + 2, none⟩ = some (.int .u64 x.x) ∧ w.cell? ⟨b, o + i * 4 + 3, none⟩ = some (.slice x.a x.ps.length x.c)) ∧
    Pts w x.a x.ps ∧ x.ps.length * 16 ≤ 140737488351232 ∧ ∀ b o, x.a = some ⟨b, o, none⟩ → 0 < x.ps.length → b < w.heap.size
theorem Script.chg {w w' : World} {a : Option Addr} {l : List OpD} (h : Script w a l) (hc : Chg w w' Nothing) : Script w' a l := by
  intro i x hx
  obtain ⟨⟨b, o, ha, h0, h1, h2, h3⟩, hp, hl, hb⟩ := h i x hx
  exact ⟨⟨b, o, ha, hc.cell h0 id, hc.cell h1 id, hc.cell h2 id, hc.cell h3 id⟩, hp.chg hc, hl, fun b o e h0 => Nat.lt_of_lt_of_le (hb b o e h0) hc.size⟩

/-- What holds at the head of each round: both states lie in what came after 'w0'. -/
def Inv (w0 wr : World) (p q : Nat) : Prop :=
  ∃ F G fs, Two wr p q F G fs ∧ (∀ k, F k → w0.heap.size ≤ k) ∧ (∀ k, G k → w0.heap.size ≤ k) ∧ Chg w0 wr Nothing

theorem Inv.after {w0 wr w' : World} {p q : Nat} {F G : Nat → Prop} {fs : List Nat} (hF : ∀ k, F k → w0.heap.size ≤ k) (hG : ∀ k, G k → w0.heap.size ≤ k) (hC : Chg w0 wr Nothing) (ha : After wr w' p q F G) : Inv w0 w' p q := by
  obtain ⟨gs, h1, h2⟩ := ha
  exact ⟨F, G, gs, h1, hF, hG, hC.trans h2 (fun k hk h => by rcases h with h | h; have := hF k h; omega; have := hG k h; omega)⟩

/-- A clone goes on, the one that was left has been changed. -/
theorem Two.cloned {wr w5 w6 : World} {p q t : Nat} {F G : Nat → Prop} {fs : List Nat} {o : Obj} (h : Two wr p q F G fs) (h5 : St 53 36 w5 t (Grow Nothing (wr.alloc o) w5) (fs.map fl))
    (c5 : Chg (wr.alloc o) w5 Nothing) (c6 : Chg w5 w6 F) : Two w6 t q (Grow Nothing (wr.alloc o) w5) G fs := by
  have e1 := h.s.lt
  have e2 := h.r.lt
  have e3 : (wr.alloc o).heap.size = wr.heap.size + 1 := by simp
  refine ⟨h5.chg c6 ?_, ((h.boxed o).r.chg c5 (fun _ _ h => h)).chg c6 (fun k hk hf => h.d k hf hk), ?_, h.l⟩
  · intro k hk hf; rcases hk with hk | hk; exact hk; have := e1 k hf; omega
  · intro k hk hg; rcases hk with hk | hk; exact hk; have := e2 k hg; omega

/-- A clone was changed and left. -/
theorem Two.leave {wr w5 w6 : World} {p q : Nat} {F G : Nat → Prop} {fs : List Nat} {o : Obj} (h : Two wr p q F G fs)
    (c5 : Chg (wr.alloc o) w5 Nothing) (c6 : Chg w5 w6 (Grow Nothing (wr.alloc o) w5)) : Two w6 p q F G fs ∧ Chg wr w6 Nothing := by
  have e3 : (wr.alloc o).heap.size = wr.heap.size + 1 := by simp
  have hc : Chg wr w6 Nothing := (((Chg.refl _ _).alloc o).trans c5 (fun _ _ h => h)).trans c6 (fun k hk h => by rcases h with h | h; exact h; omega)
  exact ⟨h.chg hc, hc⟩

theorem play_any (w0 : World) (p q : Nat) (a : Option Addr) (c : Nat) (l : List OpD) (w : World) (hi : Inv w0 w p q) (hs : Script w0 a l) (hl : l.length ≤ 9223372036854775807) :
    Calls Try.prog 23 #[.pointer (some ⟨p, 0, none⟩), .pointer (some ⟨q, 0, none⟩), .slice a l.length c] w fun e w' => e = .returned (.bool true) ∧ Chg w0 w' Nothing := by
  have HS := Lib.hid hs
  have HI := Lib.hid hi
  clear hs hi
  go_enter Try.func23, Try.ntmps23
  go_wp2_with fail
  go_loopg [0, 15] l.length (fun k s i wr => ∃ n p, n + k = l.length ∧ i = .int .i64 (n : Nat) ∧ s = .pointer (some ⟨p, 0, none⟩) ∧ Inv w0 wr p q)
  case atStart => exact ⟨0, p, by simp, rfl, rfl, HI.out⟩
  case round =>
    clear HI
    obtain ⟨n, p, hn, rfl, rfl, F, G, fs, ht, hF, hG, hc⟩ := hrel
    have HT := Lib.hid ht
    have HF := Lib.hid hF
    have HG := Lib.hid hG
    have HC := Lib.hid hc
    clear ht hF hG hc
    by_cases hlt : n < l.length
    · have hd : decide (n < l.length) = true := by simpa using hlt
      obtain ⟨kd, m, x, pa, pc, ps, hx⟩ : ∃ kd m x pa pc ps, l[n] = ⟨kd, m, x, pa, pc, ps⟩ := ⟨_, _, _, _, _, _, rfl⟩
      obtain ⟨⟨b, o, rfl, k0, k1, k2, k3⟩, hp, hpl, hpb⟩ := HS.out n _ (List.getElem?_eq_getElem hlt)
      rw [hx] at k0 k1 k2 k3 hp hpl hpb
      simp only at k0 k1 k2 k3 hp hpl hpb
      have k0 := HC.out.cell k0 id
      have k1 := HC.out.cell k1 id
      have k2 := HC.out.cell k2 id
      have k3 := HC.out.cell k3 id
      have HP := Lib.hid hp
      have HPB := Lib.hid hpb
      clear hx hp hpb
      by_cases h6 : kd = 6
      · subst h6
        go_wp2_with fail
        refine (T6.clone_any p F fs _ (HT.out.boxed _).s HT.out.l).mono ?_
        rintro e w5 ⟨t, rfl, ht, s5, c5⟩
        have P5 := Lib.hid ((HT.out.boxed _).s.chg c5 (fun _ _ h => h))
        go_wp2_with fail
        refine (stir_any p F fs w5 P5.out HT.out.l).mono ?_
        rintro e w6 ⟨rfl, c6⟩
        have d0 := c6.cell (box_cell 0 c5 (F := Nothing) (fun _ h => h.elim) rfl) (fun h => Nat.lt_irrefl _ (HT.out.s.lt _ h))
        have d1 := c6.cell (box_cell 1 c5 (F := Nothing) (fun _ h => h.elim) rfl) (fun h => Nat.lt_irrefl _ (HT.out.s.lt _ h))
        have d2 := c6.cell (box_cell 2 c5 (F := Nothing) (fun _ h => h.elim) rfl) (fun h => Nat.lt_irrefl _ (HT.out.s.lt _ h))
        have d3 := c6.cell (box_cell 3 c5 (F := Nothing) (fun _ h => h.elim) rfl) (fun h => Nat.lt_irrefl _ (HT.out.s.lt _ h))
        have T6 := Lib.hid (HT.out.cloned s5 c5 c6)
        have C6 := Lib.hid (show Chg w0 w6 Nothing from ((HC.out.alloc _).trans c5 (fun _ _ h => h)).trans c6 (fun k hk h => by have := HF.out k h; omega))
        have F6 := Lib.hid (show ∀ k, Grow Nothing (wr.alloc (.cells #[.int .i64 6, .int .i64 m, .int .u64 x, .slice pa ps.length pc] 61)) w5 k → w0.heap.size ≤ k from fun k h => by
          have := HC.out.size
          rcases h with h | h
          · exact h.elim
          · simp at h; omega)
        clear s5 c5 c6 ht k0 k1 k2 k3 P5
        go_wp2_with fail
        refine (step_any t q _ G fs 6 m x pa pc ps w6 T6.out (HP.out.chg C6.out) hpl (fun b o hb h0 => ⟨fun h => by have := HPB.out b o hb h0; have := F6.out b h; omega, fun h => by have := HPB.out b o hb h0; have := HG.out b h; omega⟩)).mono ?_
        rintro e w7 ⟨rfl, a7⟩
        have I7 := Lib.hid (Inv.after (fs := fs) F6.out HG.out C6.out a7)
        clear a7 d0 d1 d2 d3
        go_wp2_with fail
        go_roundg (gk - 1)
        case measure => omega
        case rel => exact ⟨n + 1, t, by omega, by go_num, rfl, I7.out⟩
      have b6 : (kd == 6) = false := by simpa using h6
      by_cases h7 : kd = 7
      · subst h7
        go_wp2_with fail
        refine (T6.clone_any p F fs _ (HT.out.boxed _).s HT.out.l).mono ?_
        rintro e w5 ⟨t, rfl, ht, s5, c5⟩
        go_wp2_with fail
        refine (stir_any t _ fs w5 s5 HT.out.l).mono ?_
        rintro e w6 ⟨rfl, c6⟩
        have hg : ¬ Grow Nothing (wr.alloc (.cells #[.int .i64 7, .int .i64 m, .int .u64 x, .slice pa ps.length pc] 61)) w5 wr.heap.size := fun h => by
          rcases h with h | h
          · exact h.elim
          · simp at h; omega
        have d0 := c6.cell (box_cell 0 c5 (F := Nothing) (fun _ h => h.elim) rfl) hg
        have d1 := c6.cell (box_cell 1 c5 (F := Nothing) (fun _ h => h.elim) rfl) hg
        have d2 := c6.cell (box_cell 2 c5 (F := Nothing) (fun _ h => h.elim) rfl) hg
        have d3 := c6.cell (box_cell 3 c5 (F := Nothing) (fun _ h => h.elim) rfl) hg
        have T6 := Lib.hid (HT.out.leave c5 c6)
        have C6 := Lib.hid (HC.out.trans T6.out.2 (fun _ _ h => h))
        clear s5 c5 c6 ht k0 k1 k2 k3 hg
        go_wp2_with fail
        refine (step_any p q F G fs 7 m x pa pc ps w6 T6.out.1 (HP.out.chg C6.out) hpl (fun b o hb h0 => ⟨fun h => by have := HPB.out b o hb h0; have := HF.out b h; omega, fun h => by have := HPB.out b o hb h0; have := HG.out b h; omega⟩)).mono ?_
        rintro e w7 ⟨rfl, a7⟩
        have I7 := Lib.hid (Inv.after (fs := fs) HF.out HG.out C6.out a7)
        clear a7 d0 d1 d2 d3
        go_wp2_with fail
        go_roundg (gk - 1)
        case measure => omega
        case rel => exact ⟨n + 1, p, by omega, by go_num, rfl, I7.out⟩
      have b7 : (kd == 7) = false := by simpa using h7
      clear h6 h7
      go_wp2_with fail
      refine (step_any p q F G fs kd m x pa pc ps _ (HT.out.boxed _) ((HP.out.chg HC.out).chg ((Chg.refl _ _).alloc _)) hpl (fun b o hb h0 => ⟨fun h => by have := HPB.out b o hb h0; have := HF.out b h; omega, fun h => by have := HPB.out b o hb h0; have := HG.out b h; omega⟩)).mono ?_
      rintro e w7 ⟨rfl, a7⟩
      have I7 := Lib.hid (Inv.after (fs := fs) HF.out HG.out HC.out a7.boxed)
      clear a7 k0 k1 k2 k3
      go_wp2_with fail
      go_roundg (gk - 1)
      case measure => omega
      case rel => exact ⟨n + 1, p, by omega, by go_num, rfl, I7.out⟩
    · have hd : decide (n < l.length) = false := by simpa using hlt
      have hlen : (fs.map fl).length = fs.length := by simp
      have hq : ((fs.length : Int) == (fs.length : Int)) = true := by simp
      go_wp2_with fail
      refine (R6.all_any q G fs _ HT.out.r HT.out.l).mono ?_
      rintro e w1 ⟨a1, k1, rfl, o1, c1⟩
      have H1 := Lib.hid (HT.out.chg c1)
      have S1 := Lib.hid (Sees.of_owns o1)
      have C1 := Lib.hid (HC.out.trans c1 (fun _ _ h => h))
      clear o1 c1
      go_wp2_with fail
      refine (T6.len_any p F _ w1 H1.out.s).mono ?_
      rintro e w2 ⟨rfl, rfl⟩
      rw [hlen]
      go_wp2_with fail
      refine (R6.len_any q G _ w1 H1.out.r).mono ?_
      rintro e w2 ⟨rfl, rfl⟩
      rw [hlen]
      go_wp2_with fail
      refine (T6.all_any p F fs w1 H1.out.s HT.out.l).mono ?_
      rintro e w2 ⟨a2, k2, rfl, o2, c2⟩
      have S2 := Lib.hid (Sees.of_owns o2)
      have S3 := Lib.hid (S1.out.chg c2)
      have C2 := Lib.hid (C1.out.trans c2 (fun _ _ h => h))
      clear o2 c2
      go_wp2_with fail
      refine (exact_true a2 a1 k2 k1 fs w2 S2.out S3.out (by have := HT.out.l; omega)).mono ?_
      rintro e w3 ⟨rfl, m, rfl⟩
      go_wp2_with fail
      go_ret
      exact ⟨rfl, C2.out.drewN m⟩

end Go.Proofs.Ytpigcmedkljonab
