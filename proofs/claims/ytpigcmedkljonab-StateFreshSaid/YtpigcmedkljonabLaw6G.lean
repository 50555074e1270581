/- StateFresh: the walk. -/
import Derived.Test.YtpigcmedkljonabLaw6F
namespace Go.Proofs.Ytpigcmedkljonab
open Go Go.RowKit
set_option linter.unusedVariables false
set_option linter.unusedSimpArgs false

/-- A row of floats that the call itself has made. -/
def Nums (w wr : World) (a : Option Addr) (n c : Nat) : Prop := ∃ vs : List Nat, vs.length = n ∧ wr.ownsRow w.heap.size 36 1 (.slice a n c) n (vs.map fl) ∧ Chg w wr Nothing

theorem Nums.store {w wr : World} {g n c j : Nat} (h : Nums w wr (some ⟨g, 0, none⟩) n c) (hj : j < n) (z : Nat) : Nums w (wr.setCell ⟨g, j, none⟩ (fl z)) (some ⟨g, 0, none⟩) n c := by
  obtain ⟨vs, h1, h2, h3⟩ := h
  have := h2.stored j (fl z)
  rw [← List.map_set] at this
  exact ⟨vs.set j z, by simpa using h1, this.1, h3.grown this.2 (fun k hk => by cases hk; exact .inl (h2.lt _ rfl).1)⟩

theorem fresh_walk (a : Option Addr) (c : Nat) (zs : List Int) (w : World) (hz : Sees w a (zs.map (Value.int .u64))) (hzl : zs.length * 8 ≤ 140737488351232) :
    Calls Try.prog 4 #[.slice a zs.length c] w fun e w' => e = .returned (.bool true) ∧ Chg w w' Nothing := by
  have HZ := Lib.hid hz
  have FL := Lib.hid (fun w hs => floats_fs a c zs w hs hzl)
  have HE := Lib.hid (rawL_len zs)
  clear hz
  generalize rawL zs = fs at FL HE
  go_enter Try.func4, Try.ntmps4
  go_wp2_with fail
  refine (live_any _).mono ?_
  rintro e w1 ⟨rfl, c1⟩
  have C1 := Lib.hid c1
  clear c1
  go_wp2_with fail
  refine (FL.out _ (HZ.out.chg C1.out)).mono ?_
  rintro e w2 ⟨a2, k2, rfl, o2, c2⟩
  have S2 := Lib.hid (Sees.of_owns o2)
  have N2 := Lib.hid (show Nums w1 w2 a2 fs.length k2 from ⟨fs, rfl, o2, c2⟩)
  have C2 := Lib.hid (C1.out.trans c2 (fun _ _ h => h))
  clear o2 c2
  by_cases hb : fs.length < 1 ∨ 256 < fs.length
  · have HB := Lib.hid hb
    clear hb
    go_wp2_with fail
    refine (T6.of_bad a2 fs.length k2 w2 HB.out).mono ?_
    rintro e w3 ⟨rfl, rfl⟩
    go_wp2_with fail
    refine (R6.of_bad a2 fs.length k2 w2 HB.out).mono ?_
    rintro e w3 ⟨rfl, rfl⟩
    go_wp2_with fail
    go_ret
    exact ⟨rfl, C2.out⟩
  · have g1 := Lib.hid (show 1 ≤ fs.length by omega)
    have g2 := Lib.hid (show fs.length ≤ 256 by omega)
    clear hb
    go_wp2_with fail
    refine (T6.of_good a2 k2 fs w2 S2.out g1.out g2.out).mono ?_
    rintro e w3 ⟨p, rfl, hp, s3, c3⟩
    go_wp2_with fail
    refine (R6.of_good a2 k2 fs w3 (S2.out.chg c3) g1.out g2.out).mono ?_
    rintro e w4 ⟨q, rfl, hq, s4, c4⟩
    have T4 := Lib.hid (show Two w4 p q (Grow Nothing w2 w3) (Grow Nothing w3 w4) (fs.map fixB) from by
      refine ⟨s3.chg c4 (fun _ _ h => h), s4, ?_, by rw [List.length_map]; exact g2.out⟩
      intro k h h'; rcases h with h | h <;> rcases h' with h' | h' <;> first | exact h | exact h' | omega)
    have F4 := Lib.hid (show ∀ k, Grow Nothing w2 w3 k → w2.heap.size ≤ k from fun k h => by rcases h with h | h; exact h.elim; exact h.1)
    have G4 := Lib.hid (show ∀ k, Grow Nothing w3 w4 k → w2.heap.size ≤ k from fun k h => by have := c3.size; rcases h with h | h; exact h.elim; omega)
    have C34 := Lib.hid (c3.trans c4 (fun _ _ h => h))
    have S4 := Lib.hid (S2.out.chg C34.out)
    have C4 := Lib.hid (C2.out.trans C34.out (fun _ _ h => h))
    clear s3 s4 c3 c4 hp hq
    generalize Grow Nothing w2 w3 = F at T4 F4
    generalize Grow Nothing w3 w4 = G at T4 G4
    have HGL := Lib.hid (show (fs.map fixB).length = fs.length by simp)
    generalize fs.map fixB = gs at T4 HGL
    have N4 := Lib.hid (show Nums w1 w4 a2 fs.length k2 from by
      obtain ⟨vs, h1, h2, h3⟩ := N2.out
      refine ⟨vs, h1, ownsRow_heap h2 (fun k hk => C34.out.block k (h2.lt k hk).2 id), h3.trans C34.out (fun _ _ h => h)⟩)
    have L2 := Lib.hid (show ∀ g, a2 = some ⟨g, 0, none⟩ → g < w2.heap.size from fun g hg => by
      obtain ⟨vs, h1, h2, h3⟩ := N2.out
      exact (h2.lt g (by rw [hg]; rfl)).2)
    clear N2
    go_wp2_with fail
    refine (FL.out _ (HZ.out.chg C4.out)).mono ?_
    rintro e w5 ⟨a5, k5, rfl, o5, c5⟩
    have S5 := Lib.hid (Sees.of_owns o5)
    have S5' := Lib.hid (S4.out.chg c5)
    have T5 := Lib.hid (T4.out.chg c5)
    have C5 := Lib.hid (C4.out.trans c5 (fun _ _ h => h))
    have N5 := Lib.hid (show Nums w1 w5 a2 fs.length k2 from by
      obtain ⟨vs, h1, h2, h3⟩ := N4.out
      refine ⟨vs, h1, ownsRow_heap h2 (fun k hk => c5.block k (h2.lt k hk).2 id), h3.trans c5 (fun _ _ h => h)⟩)
    clear o5 c5 N4
    go_wp2_with fail
    refine (exact_true a2 a5 k2 k5 fs w5 S5'.out S5.out (by have := g2.out; omega)).mono ?_
    rintro e w6 ⟨rfl, m6, rfl⟩
    have N6 := Lib.hid (show Nums w1 (w5.drewN m6) a2 fs.length k2 from by
      obtain ⟨vs, h1, h2, h3⟩ := N5.out
      exact ⟨vs, h1, ownsRow_heap h2 (fun k hk => rfl), h3.drewN _⟩)
    have C6 := Lib.hid (C5.out.drewN m6)
    have T6' := Lib.hid (T5.out.drewN m6)
    clear S5 S5' T5 C5 N5
    generalize w5.drewN m6 = w6 at N6 C6 T6'
    go_wp2_with fail
    go_loopg [10] fs.length (fun k i wq => ∃ j : Nat, j + k = fs.length ∧ i = .int .i64 (j : Nat) ∧ Nums w1 wq a2 fs.length k2 ∧ Two wq p q F G gs)
    case atStart => exact ⟨0, by simp, rfl, N6.out, T6'.out⟩
    case round =>
      clear N6 T6' C6
      obtain ⟨i, hi, rfl, hn, ht⟩ := hrel
      by_cases hlt : i < fs.length
      · have hd : decide (i < fs.length) = true := by simpa using hlt
        obtain ⟨vs, hv, hown, hch⟩ := hn
        obtain ⟨g, cc, hg⟩ := (ownsRow_shape hown).2 (by omega)
        injection hg with hg _ hk
        subst hg hk
        have cx := (hown.cellAt i (by omega)).trans (show _ = some (fl vs[i]) by simp [show i < vs.length by omega])
        have fx := hown.frozenAt i
        have N1 := Lib.hid (Nums.store (w := w1) (wr := wr) (g := g) (c := k2) (j := i) ⟨vs, hv, hown, hch⟩ hlt)
        have T1 := Lib.hid (show ∀ z, Two (wr.setCell ⟨g, i, none⟩ (fl z)) p q F G gs from fun z => by
          have hgl := L2.out g rfl
          have hc := (Chg.refl wr (fun k => k = g)).setCell (a := ⟨g, i, none⟩) (.inr rfl) (fl z)
          exact ⟨ht.s.chg hc (fun k hk h => by have := F4.out k hk; omega), ht.r.chg hc (fun k hk h => by have := G4.out k hk; omega), ht.d, ht.l⟩)
        have hb2 := g2.out
        clear hown hch ht
        go_wp2_with fail
        go_roundg (gk - 1)
        case measure => omega
        case rel => exact ⟨i + 1, by omega, by go_num, N1.out _, T1.out _⟩
      · have hd : decide (i < fs.length) = false := by simpa using hlt
        obtain ⟨vs, hv, hown, hch⟩ := hn
        have T7 := Lib.hid ht
        have C7 := Lib.hid (show Chg w wr Nothing from C1.out.trans hch (fun _ _ h => h))
        clear hown hch hv ht
        go_wp2_with fail
        refine (T6.all_any p F gs wr T7.out.s T7.out.l).mono ?_
        rintro e w8 ⟨a8, k8, rfl, o8, c8⟩
        have T8 := Lib.hid (T7.out.chg c8)
        have C8 := Lib.hid (C7.out.trans c8 (fun _ _ h => h))
        have F8 := Lib.hid (T7.out.s.lt)
        have G8 := Lib.hid (T7.out.r.lt)
        have N8 := Lib.hid (show Nums wr w8 a8 gs.length k8 from ⟨gs, rfl, o8, c8⟩)
        have TW := Lib.hid T7.out
        have CW := Lib.hid C7.out
        obtain ⟨W8, hW8⟩ : ∃ W8, W8 = wr := ⟨_, rfl⟩
        rw [← hW8] at TW CW N8 
        clear o8 c8 T7 C7 hW8
        go_wp2_with fail
        go_loopg [12] gs.length (fun k i wq => ∃ j : Nat, j + k = gs.length ∧ i = .int .i64 (j : Nat) ∧ Nums W8 wq a8 gs.length k8)
        case atStart => exact ⟨0, by simp, rfl, N8.out⟩
        case round =>
          clear N8 T8 C8
          obtain ⟨j, hj, rfl, hn⟩ := hrel
          by_cases hlt : j < gs.length
          · have hd : decide (j < gs.length) = true := by simpa using hlt
            obtain ⟨vs, hv, hown, hch⟩ := hn
            obtain ⟨g, cc, hg⟩ := (ownsRow_shape hown).2 (by omega)
            injection hg with hg _ hk
            subst hg hk
            have cx := (hown.cellAt j (by omega)).trans (show _ = some (fl vs[j]) by simp [show j < vs.length by omega])
            have fx := hown.frozenAt j
            have N1 := Lib.hid (Nums.store (g := g) (c := k8) (j := j) ⟨vs, hv, hown, hch⟩ hlt)
            have hb2 : gs.length ≤ 256 := by have := g2.out; have := HGL.out; omega
            clear hown hch
            go_wp2_with fail
            go_roundg (gk - 1)
            case measure => omega
            case rel => exact ⟨j + 1, by omega, by go_num, N1.out _⟩
          · have hd : decide (j < gs.length) = false := by simpa using hlt
            obtain ⟨vs, hv, hown, hch⟩ := hn
            have HO := Lib.hid hown
            have HH := Lib.hid hch
            have HV := Lib.hid hv
            clear hown hch hv
            have T9 := Lib.hid (TW.out.chg HH.out)
            have D9 := Lib.hid (CW.out.trans HH.out (fun _ _ h => h))
            have hb2 : gs.length ≤ 256 := by have := g2.out; have := HGL.out; omega
            go_wp2_with (at_builtin; refine append_any rfl _ _ 29 36 rfl (fl 0) 1 8 Try.underlying29 (by kernel_rfl) rfl (by decide) _ gs.length (vs.map fl) rfl (ownsRow_base (HO.out.alloc _) (Nat.zero_le _)) ⟨wr.heap.size, 0, none⟩ 2 2 rfl [fl 4607182418800017408, fl 4611686018427387904] rfl ?c1 ?c2 ?c3 ?c4 ?c5)
            case c1 => intro j u hj; match j, hj with | 0, hj => (simp at hj; subst hj; exact blk_cell (heap_alloc_new wr _) 0) | 1, hj => (simp at hj; subst hj; exact blk_cell (heap_alloc_new wr _) 1)
            case c2 => intro u hu; simp at hu; rcases hu with rfl | rfl <;> rfl
            case c3 => unfold maxLen; omega
            case c4 => omega
            case c5 =>
              intro v w10 hown2 hg2 hgg
              obtain ⟨⟨a10, k10, rfl⟩, _⟩ := ownsRow_shape hown2
              have C10 := Lib.hid (show Chg wr w10 (fun k => W8.heap.size ≤ k) from ((Chg.refl _ _).alloc _).grown hg2 (fun k hk => .inr (HO.out.lt k hk).1))
              clear hown2 hg2 hgg
              have T10 := Lib.hid (show Two w10 p q F G gs from ⟨T9.out.s.chg C10.out (fun k hk h => by have := TW.out.s.lt k hk; omega), T9.out.r.chg C10.out (fun k hk h => by have := TW.out.r.lt k hk; omega), T9.out.d, T9.out.l⟩)
              have D10 := Lib.hid (D9.out.trans C10.out (fun k hk h => by have := CW.out.size; omega))
              have hq : ((gs.length : Int) + 2 == (zs.length : Int) + 2) = true := by have := HE.out; have := HGL.out; simp; omega
              clear T9 D9 HO HH C10
              go_wp2_with fail
              refine (R6.all_any q G gs w10 T10.out.r T10.out.l).mono ?_
              rintro e w11 ⟨a11, k11, rfl, o11, c11⟩
              have S11 := Lib.hid (Sees.of_owns o11)
              have T11 := Lib.hid (T10.out.chg c11)
              have D11 := Lib.hid (D10.out.trans c11 (fun _ _ h => h))
              clear o11 c11 T10 D10
              go_wp2_with fail
              refine (T6.all_any p F gs w11 T11.out.s T11.out.l).mono ?_
              rintro e w12 ⟨a12, k12, rfl, o12, c12⟩
              have S12 := Lib.hid (Sees.of_owns o12)
              have S11' := Lib.hid (S11.out.chg c12)
              have D12 := Lib.hid (D11.out.trans c12 (fun _ _ h => h))
              clear o12 c12 T11 D11
              go_wp2_with fail
              refine (exact_true a12 a11 k12 k11 gs w12 S12.out S11'.out (by omega)).mono ?_
              rintro e w13 ⟨rfl, m13, rfl⟩
              go_wp2_with fail
              go_ret
              exact ⟨rfl, D12.out.drewN _⟩

end Go.Proofs.Ytpigcmedkljonab
