/- BufferFresh: the walk. -/
import Derived.Test.YtpigcmedkljonacLaw7C
namespace Go.Proofs.Ytpigcmedkljonac
open Go Go.RowKit
set_option linter.unusedVariables false
set_option linter.unusedSimpArgs false

/-- A row of touches that the call itself has made. -/
def Own2 (w wr : World) (a : Option Addr) (n c : Nat) : Prop := ∃ xs, wr.ownsRow w.heap.size 39 2 (.slice a n c) n xs ∧ Chg w wr Nothing

theorem Own2.store {w wr : World} {g n c j : Nat} (h : Own2 w wr (some ⟨g, 0, none⟩) n c) (hj : j < n) (u v : Value) :
    (∃ u, wr.cell? ⟨g, j * 2, none⟩ = some u) ∧ (∃ u, wr.cell? ⟨g, j * 2 + 1, none⟩ = some u) ∧ wr.frozen? ⟨g, j * 2, none⟩ = false ∧ wr.frozen? ⟨g, j * 2 + 1, none⟩ = false ∧ Own2 w ((wr.setCell ⟨g, j * 2, none⟩ u).setCell ⟨g, j * 2 + 1, none⟩ v) (some ⟨g, 0, none⟩) n c := by
  obtain ⟨xs, h1, h2⟩ := h
  have hl : xs.length = n * 2 := h1.1
  have s1 := h1.stored (j * 2) u
  have s2 := s1.1.stored (j * 2 + 1) v
  have hgw : w.heap.size ≤ g := (h1.lt g rfl).1
  exact ⟨⟨xs[j * 2]'(by omega), by rw [h1.cellAt _ (by omega)]; simp⟩, ⟨xs[j * 2 + 1]'(by omega), by rw [h1.cellAt _ (by omega)]; simp⟩, h1.frozenAt _, h1.frozenAt _, _, s2.1, (h2.grown s1.2 (fun k hk => by cases hk; exact .inl hgw)).grown s2.2 (fun k hk => by cases hk; exact .inl hgw)⟩

set_option maxHeartbeats 4000000 in
theorem fresh_walk (most : Int) (a : Option Addr) (c : Nat) (l : List (Int × Int × Int)) (w : World) (hs : Script w a l) (hl : l.length ≤ 9223372036854775807) :
    Calls Try.prog 5 #[.int .i64 most, .slice a l.length c] w fun e w' => e = .returned (.bool true) ∧ Chg w w' Nothing := by
  have HS := Lib.hid hs
  clear hs
  by_cases hb : most < 1 ∨ 32 < most
  · have HB := Lib.hid hb
    clear hb
    go_enter Try.func5, Try.ntmps5
    go_wp2_with fail
    refine (live_any _).mono ?_
    rintro e w1 ⟨rfl, c1⟩
    go_wp2_with fail
    refine (new_bad most w1 HB.out).mono ?_
    rintro e w2 ⟨rfl, rfl⟩
    go_wp2_with fail
    refine (R7.new_bad most w1 HB.out).mono ?_
    rintro e w2 ⟨rfl, rfl⟩
    go_wp2_with fail
    go_ret
    exact ⟨rfl, c1⟩
  have g1 := Lib.hid (show 1 ≤ most by omega)
  have g2 := Lib.hid (show most ≤ 32 by omega)
  clear hb
  go_enter Try.func5, Try.ntmps5
  go_wp2_with fail
  refine (live_any _).mono ?_
  rintro e w1 ⟨rfl, c1⟩
  go_wp2_with fail
  refine (new_good most _ g1.out g2.out).mono ?_
  rintro e w2 ⟨p, rfl, hp, s2, c2⟩
  go_wp2_with fail
  refine (R7.new_good most _ g1.out g2.out).mono ?_
  rintro e w3 ⟨r, rfl, hr, s3, c3⟩
  have HI := Lib.hid (show Inv w w3 p r most from by
    have := c1.size; have := c2.size
    refine ⟨Grow Nothing w1 w2, Grow Nothing w2 w3, [], ⟨s2.chg c3 (fun _ _ h => h), s3, fun k h h' => by rcases h with h | h <;> rcases h' with h' | h' <;> first | exact h | exact h' | omega⟩, fun k h => by rcases h with h | h; exact h.elim; omega, fun k h => by rcases h with h | h; exact h.elim; omega, (c1.trans c2 (fun _ _ h => h)).trans c3 (fun _ _ h => h)⟩)
  clear s2 s3 c1 c2 c3 hp hr
  go_wp2_with fail
  go_loopg [41] l.length (fun k i wr => ∃ n : Nat, n + k = l.length ∧ i = .int .i64 (n : Nat) ∧ Inv w wr p r most)
  case atStart => exact ⟨0, by simp, rfl, HI.out⟩
  case round =>
    clear HI
    obtain ⟨n, hn, rfl, F, G, zs, ht, hF, hG, hc⟩ := hrel
    have HT := Lib.hid ht
    have HF := Lib.hid hF
    have HG := Lib.hid hG
    have HC := Lib.hid hc
    clear ht hF hG hc
    by_cases hlt : n < l.length
    · have hd : decide (n < l.length) = true := by simpa using hlt
      obtain ⟨kd, m, s, hx⟩ : ∃ kd m s, l[n] = (kd, m, s) := ⟨_, _, _, rfl⟩
      obtain ⟨b, o, rfl, k0, k1, k2⟩ := HS.out n _ (List.getElem?_eq_getElem hlt)
      rw [hx] at k0 k1 k2
      have k0 := HC.out.cell k0 id
      have k1 := HC.out.cell k1 id
      have k2 := HC.out.cell k2 id
      clear hx
      go_upto_region 9 with fail
      go_cut [] (fun wx => Bf wx p (Grow F (wr.alloc (.cells #[.int .i64 kd, .int .i64 m, .int .u64 s] 31)) wx) (putL zs most m (fixB s.toNat)) most ∧ Chg (wr.alloc (.cells #[.int .i64 kd, .int .i64 m, .int .u64 s] 31)) wx F)
      case first =>
        go_region_law (first | (go_simp; go_at_call 12; refine (raw_any _ _).mono ?_; rintro e w' ⟨rfl, rfl⟩) | (go_simp; go_at_call 11; refine (put_any p F zs most m s.toNat _ ((HT.out.boxed _).s.drewN 1)).mono ?_; rintro e w1 ⟨rfl, s1, c1⟩))
        all_goals
          go_wp2_with fail
          go_meet
          exact ⟨s1, c1.os, c1.tape, c1.output, c1.size, c1.block⟩
      case rest =>
        clear k0 k1 k2
        have C1 := Lib.hid hcut.2
        have S1 := Lib.hid hcut.1
        clear hcut
        have d0 := box_cell 0 C1.out HT.out.s.lt rfl
        have d1 := box_cell 1 C1.out HT.out.s.lt rfl
        have d2 := box_cell 2 C1.out HT.out.s.lt rfl
        go_upto_region 10 with fail
        go_cut [] (fun wx => Rf wx r (Grow G wc wx) (putL zs most m (fixB s.toNat)) most ∧ Chg wc wx G)
        case first =>
          go_region_law (first | (go_simp; go_at_call 12; refine (raw_any _ _).mono ?_; rintro e w' ⟨rfl, rfl⟩) | (go_simp; go_at_call 16; refine (R7.put_any r G zs most m s.toNat _ (((HT.out.boxed _).push C1.out).drewN 1) HT.out.len.2.1 HT.out.len.2.2).mono ?_; rintro e w1 ⟨rfl, s1, c1⟩))
          all_goals
            go_wp2_with fail
            go_meet
            exact ⟨s1, c1.os, c1.tape, c1.output, c1.size, c1.block⟩
        case rest =>
          have A := Lib.hid (Inv.after HF.out HG.out HC.out ((HT.out.boxed _).after S1.out C1.out hcut.1 hcut.2).boxed)
          clear hcut d0 d1 d2 S1 C1
          obtain ⟨F', G', zs', ht, hF, hG, hc⟩ := A.out
          have HT2 := Lib.hid ht
          have HF2 := Lib.hid hF
          have HG2 := Lib.hid hG
          have HC2 := Lib.hid hc
          clear ht hF hG hc A
          generalize wc = wd at HT2 HC2
          go_wp2_with fail
          refine (all_any p F' zs' most wd HT2.out.s).mono ?_
          rintro e w5 ⟨a5, k5, rfl, o5, c5⟩
          have N5 := Lib.hid (show Own2 wd w5 a5 zs'.length k5 from ⟨_, o5, c5⟩)
          clear o5 c5
          have hz32 := HT2.out.len.1
          go_wp2_with fail
          go_loopg [13] zs'.length (fun k i wq => ∃ j : Nat, j + k = zs'.length ∧ i = .int .i64 (j : Nat) ∧ Own2 wd wq a5 zs'.length k5)
          case atStart => exact ⟨0, by simp, rfl, N5.out⟩
          case round =>
            clear N5
            obtain ⟨j, hj, rfl, ho⟩ := hrel
            by_cases hlt : j < zs'.length
            · have hd : decide (j < zs'.length) = true := by simpa using hlt
              have ho' := ho
              obtain ⟨xs, hown, hch⟩ := ho'
              obtain ⟨g, cc, hg⟩ := (ownsRow_shape hown).2 (by omega)
              injection hg with hg _ hk
              subst hg hk
              obtain ⟨⟨u1, x1⟩, ⟨u2, x2⟩, x3, x4, N1⟩ := ho.store hlt (.int .i64 (-9)) (fl 4621256167635550208)
              have N1 := Lib.hid N1
              clear hown hch ho
              go_wp2_with fail
              go_roundg (gk - 1)
              case measure => omega
              case rel => exact ⟨j + 1, by omega, by go_num, N1.out⟩
            · have hd : decide (j < zs'.length) = false := by simpa using hlt
              obtain ⟨xs, hown, hch⟩ := ho
              have HO := Lib.hid hown
              have HH := Lib.hid hch
              clear hown hch
              go_wp2_with (at_builtin; refine append_any rfl _ _ 32 39 rfl (.agg #[.int .i64 0, fl 0]) 2 16 Try.underlying32 (by kernel_rfl) rfl (by decide) _ zs'.length xs rfl (ownsRow_base (HO.out.alloc _) (Nat.zero_le _)) ⟨wr.heap.size, 0, none⟩ 2 2 rfl [.int .i64 (-8), fl 0, .int .i64 (-7), fl 0] rfl ?c1 ?c2 ?c3 ?c4 ?c5)
              case c1 => intro j u hj; match j, hj with | 0, hj => (simp at hj; subst hj; exact blk_cell (heap_alloc_new wr _) 0) | 1, hj => (simp at hj; subst hj; exact blk_cell (heap_alloc_new wr _) 1) | 2, hj => (simp at hj; subst hj; exact blk_cell (heap_alloc_new wr _) 2) | 3, hj => (simp at hj; subst hj; exact blk_cell (heap_alloc_new wr _) 3)
              case c2 => intro u hu; simp at hu; rcases hu with rfl | rfl | rfl | rfl <;> rfl
              case c3 => unfold maxLen; omega
              case c4 => omega
              case c5 =>
                intro v w6 hown2 hg2 hgg
                obtain ⟨⟨a6, k6, rfl⟩, _⟩ := ownsRow_shape hown2
                have C6 := Lib.hid (show Chg wd w6 Nothing from (HH.out.alloc _).grown hg2 (fun k hk => .inl (HO.out.lt k hk).1))
                clear hown2 hg2 hgg
                have T6 := Lib.hid (HT2.out.chg C6.out)
                have D6 := Lib.hid (HC2.out.trans C6.out (fun _ _ h => h))
                have hq : decide ((zs'.length : Int) + 2 < 2) = false := decide_eq_false (by omega)
                go_wp2_with fail
                go_roundg (l.length - (n + 1))
                case measure => omega
                case rel => exact ⟨n + 1, by omega, by go_num, F', G', zs', T6.out, HF2.out, HG2.out, D6.out⟩
    · have hd : decide (n < l.length) = false := by simpa using hlt
      go_wp2_with fail
      refine (R7.all_any r G zs most _ HT.out.r HT.out.len.1).mono ?_
      rintro e w1 ⟨a1, k1, rfl, o1, c1⟩
      have T1 := Lib.hid (HT.out.chg c1)
      have S1 := Lib.hid (Sees.of_owns o1)
      have C1 := Lib.hid (HC.out.trans c1 (fun _ _ h => h))
      clear o1 c1
      go_wp2_with fail
      refine (all_any p F zs most w1 T1.out.s).mono ?_
      rintro e w2 ⟨a2, k2, rfl, o2, c2⟩
      have S2 := Lib.hid (Sees.of_owns o2)
      have S3 := Lib.hid (S1.out.chg c2)
      have C2 := Lib.hid (C1.out.trans c2 (fun _ _ h => h))
      clear o2 c2
      go_wp2_with fail
      refine (exact_true a2 a1 k2 k1 zs w2 S2.out S3.out (by have := HT.out.len; omega)).mono ?_
      rintro e w3 ⟨rfl, m, rfl⟩
      go_wp2_with fail
      go_ret
      exact ⟨rfl, C2.out.drewN m⟩

end Go.Proofs.Ytpigcmedkljonac
