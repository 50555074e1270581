/- The contracts of the document's state's methods. -/
import Derived.Test.YtpigcmedkljonabSt
namespace Go.Proofs.Ytpigcmedkljonab.R6
open Go Go.RowKit
set_option linter.unusedVariables false
set_option linter.unusedSimpArgs false

theorem new_bad (n : Int) (w : World) (h : n < 1 ∨ 256 < n) : Calls Try.prog 22 #[.int .i64 n] w fun e w' => e = .returned (.tuple #[.pointer none, .int .i64 1]) ∧ w = w' := by
  by_cases h1 : n < 1
  · have b1 : decide (n < 1) = true := by simpa using h1
    clear h
    go_enter Try.func22, Try.ntmps22
    go_wp2
    go_ret2
    exact ⟨rfl, rfl⟩
  · have b1 : decide (n < 1) = false := by simpa using h1
    have b2 : decide (256 < n) = true := by simp; omega
    clear h h1
    go_enter Try.func22, Try.ntmps22
    go_wp2
    go_ret2
    exact ⟨rfl, rfl⟩

theorem new_good (n : Nat) (w : World) (h1 : 1 ≤ n) (h2 : n ≤ 256) : Calls Try.prog 22 #[.int .i64 n] w fun e w' => ∃ p, e = .returned (.tuple #[.pointer (some ⟨p, 0, none⟩), .int .i64 0]) ∧ w.heap.size ≤ p ∧
    St 56 36 w' p (Grow Nothing w w') ((List.replicate n 0).map fl) ∧ Chg w w' Nothing := by
  have b1 : decide ((n : Int) < 1) = false := by simp; omega
  have b2 : decide ((256 : Int) < n) = false := by simp; omega
  go_enter Try.func22, Try.ntmps22
  go_wp2_with (at_make; refine make_row rfl _ _ 29 36 rfl (fl 0) 8 Try.underlying29 (by kernel_rfl) rfl .i64 .i64 _ _ n rfl rfl rfl rfl (by omega) (by unfold maxLen; omega) ?c1)
  case c1 =>
    intro w1 hown hg
    have R := Lib.hid (St.made (T := 56) (w := w) (w' := w1) (xs := List.replicate n (fl 0)) (by rw [List.length_replicate]; exact hown) ((Chg.refl w Nothing).grown hg (by simp)))
    clear hown hg
    simp only [List.length_replicate] at R
    go_wp2
    go_ret2
    exact ⟨_, rfl, R.out.1, by rw [List.map_replicate]; exact R.out.2.1, R.out.2.2⟩

theorem get_bad (p : Nat) (F : Nat → Prop) (xs : List Value) (cell : Int) (w : World) (h : St 56 36 w p F xs) (hl : xs.length ≤ 256) (hb : hasB cell xs.length = false) :
    Calls Try.prog 34 #[.pointer (some ⟨p, 0, none⟩), .int .i64 cell] w fun e w' => e = .returned (.tuple #[fl 0, .int .i64 60]) ∧ w = w' := by
  obtain ⟨a, c, c0, _⟩ := h.cells
  have hb' : ¬ (0 ≤ cell ∧ cell < xs.length) := fun h => by have := hasB_iff.2 h; rw [hb] at this; cases this
  clear h hb
  by_cases h1 : cell < 0
  · have b1 : decide (cell < 0) = true := by simpa using h1
    clear hb'
    go_enter Try.func34, Try.ntmps34
    go_wp2
    go_ret2
    exact ⟨rfl, rfl⟩
  · have b1 : decide (cell < 0) = false := by simpa using h1
    have b2 : decide ((xs.length : Int) ≤ cell) = true := by simp; omega
    clear hb'
    go_enter Try.func34, Try.ntmps34
    go_wp2
    go_ret2
    exact ⟨rfl, rfl⟩

theorem get_good (p : Nat) (F : Nat → Prop) (xs : List Value) (j : Nat) (x : Value) (w : World) (h : St 56 36 w p F xs) (hl : xs.length ≤ 256) (hx : xs[j]? = some x) :
    Calls Try.prog 34 #[.pointer (some ⟨p, 0, none⟩), .int .i64 j] w fun e w' => e = .returned (.tuple #[x, .int .i64 0]) ∧ w = w' := by
  have hlt := (List.getElem?_eq_some_iff.1 hx).1
  obtain ⟨g, c, c0, cx, fx, _, _⟩ := h.at hx
  have b1 : decide ((j : Int) < 0) = false := by simp
  have b2 : decide ((xs.length : Int) ≤ (j : Int)) = false := by simp; omega
  clear h hx
  go_enter Try.func34, Try.ntmps34
  go_wp2
  go_ret2
  exact ⟨rfl, rfl⟩

theorem set_bad (p : Nat) (F : Nat → Prop) (xs : List Value) (cell : Int) (x : Nat) (w : World) (h : St 56 36 w p F xs) (hl : xs.length ≤ 256) (hb : hasB cell xs.length = false) :
    Calls Try.prog 35 #[.pointer (some ⟨p, 0, none⟩), .int .i64 cell, fl x] w fun e w' => e = .returned (.int .i64 60) ∧ w = w' := by
  obtain ⟨a, c, c0, _⟩ := h.cells
  have hb' : ¬ (0 ≤ cell ∧ cell < xs.length) := fun h => by have := hasB_iff.2 h; rw [hb] at this; cases this
  clear h hb
  by_cases h1 : cell < 0
  · have b1 : decide (cell < 0) = true := by simpa using h1
    clear hb'
    go_enter Try.func35, Try.ntmps35
    go_wp2
    go_ret
    exact ⟨rfl, rfl⟩
  · have b1 : decide (cell < 0) = false := by simpa using h1
    have b2 : decide ((xs.length : Int) ≤ cell) = true := by simp; omega
    clear hb'
    go_enter Try.func35, Try.ntmps35
    go_wp2
    go_ret
    exact ⟨rfl, rfl⟩

theorem set_good (p : Nat) (F : Nat → Prop) (xs : List Value) (j : Nat) (x : Nat) (w : World) (h : St 56 36 w p F xs) (hl : xs.length ≤ 256) (hj : j < xs.length) :
    Calls Try.prog 35 #[.pointer (some ⟨p, 0, none⟩), .int .i64 j, fl x] w fun e w' => e = .returned (.int .i64 0) ∧ St 56 36 w' p F (xs.set j (fl (fixB x))) ∧ Chg w w' F := by
  obtain ⟨u, hu⟩ : ∃ u, xs[j]? = some u := ⟨_, List.getElem?_eq_getElem hj⟩
  obtain ⟨g, c, c0, cx, fx, _, _⟩ := h.at hu
  have b1 : decide ((j : Int) < 0) = false := by simp
  have b2 : decide ((xs.length : Int) ≤ (j : Int)) = false := by simp; omega
  have H := Lib.hid h
  have C0 := Lib.hid c0
  have R := fun (m : Nat) => Lib.hid (St.set (h.drewN m) (show (w.drewN m).cell? ⟨p, 0, none⟩ = _ from C0.out) hj (fl (fixB x)))
  have RR := Lib.hid R
  clear h R
  go_enter Try.func35, Try.ntmps35
  go_wp2_with fail
  go_region_with (go_at_call 25; refine (rfix_any _ _).mono ?_; rintro e w' ⟨rfl, rfl⟩)
  all_goals
    go_wp2
    go_ret
    exact ⟨rfl, (RR.out 1).out.1, ((Chg.refl w F).drewN 1).trans (RR.out 1).out.2 (fun _ _ h => h)⟩

theorem get_any (p : Nat) (F : Nat → Prop) (fs : List Nat) (cell : Int) (w : World) (h : St 56 36 w p F (fs.map fl)) (hl : fs.length ≤ 256) :
    Calls Try.prog 34 #[.pointer (some ⟨p, 0, none⟩), .int .i64 cell] w fun e w' => e = .returned (.tuple #[fl (getV fs cell), .int .i64 (setE fs cell)]) ∧ w = w' := by
  by_cases hb : hasB cell fs.length = true
  · obtain ⟨h0, h1⟩ := hasB_iff.1 hb
    obtain ⟨j, rfl⟩ : ∃ j : Nat, cell = j := ⟨cell.toNat, by omega⟩
    have hj : j < fs.length := by omega
    refine (get_good p F _ j (fl fs[j]) w h (by simpa using hl) (by simp [hj])).mono fun e w' ⟨he, hw⟩ => ⟨?_, hw⟩
    rw [he, getV, setE, if_pos hb, if_pos hb]
    simp [hj]
  · have hb' : hasB cell fs.length = false := by simpa using hb
    refine (get_bad p F _ cell w h (by simpa using hl) (by simpa using hb')).mono fun e w' ⟨he, hw⟩ => ⟨?_, hw⟩
    rw [he, getV, setE, if_neg hb, if_neg hb]

theorem set_any (p : Nat) (F : Nat → Prop) (fs : List Nat) (cell : Int) (x : Nat) (w : World) (h : St 56 36 w p F (fs.map fl)) (hl : fs.length ≤ 256) :
    Calls Try.prog 35 #[.pointer (some ⟨p, 0, none⟩), .int .i64 cell, fl x] w fun e w' => e = .returned (.int .i64 (setE fs cell)) ∧ St 56 36 w' p F ((setL fs cell x).map fl) ∧ Chg w w' F := by
  by_cases hb : hasB cell fs.length = true
  · obtain ⟨h0, h1⟩ := hasB_iff.1 hb
    obtain ⟨j, rfl⟩ : ∃ j : Nat, cell = j := ⟨cell.toNat, by omega⟩
    refine (set_good p F _ j x w h (by simpa using hl) (by simp; omega)).mono fun e w' ⟨he, hs, hc⟩ => ⟨?_, ?_, hc⟩
    · rw [he, setE, if_pos hb]
    · rw [setL, if_pos hb, List.map_set]; exact hs
  · have hb' : hasB cell fs.length = false := by simpa using hb
    refine (set_bad p F _ cell x w h (by simpa using hl) (by simpa using hb')).mono fun e w' ⟨he, hw⟩ => ?_
    subst hw
    refine ⟨by rw [he, setE, if_neg hb], by rw [setL, if_neg hb]; exact h, Chg.refl _ _⟩

theorem len_any (p : Nat) (F : Nat → Prop) (xs : List Value) (w : World) (h : St 56 36 w p F xs) :
    Calls Try.prog 32 #[.pointer (some ⟨p, 0, none⟩)] w fun e w' => e = .returned (.int .i64 xs.length) ∧ w = w' := by
  obtain ⟨a, c, c0, _⟩ := h.cells
  clear h
  go_enter Try.func32, Try.ntmps32
  go_wp2
  go_ret
  exact ⟨rfl, rfl⟩


theorem of_bad (a : Option Addr) (n c : Nat) (w : World) (h : n < 1 ∨ 256 < n) : Calls Try.prog 13 #[.slice a n c] w fun e w' => e = .returned (.tuple #[.pointer none, .int .i64 1]) ∧ w = w' := by
  by_cases h1 : n < 1
  · obtain rfl : n = 0 := by omega
    clear h
    go_enter Try.func13, Try.ntmps13
    go_wp2
    go_ret2
    exact ⟨rfl, rfl⟩
  · have b1 : decide (n < 1) = false := by simpa using h1
    have b1' : decide ((n : Int) < 1) = false := by simp; omega
    have b2 : decide (256 < n) = true := by simp; omega
    have b2' : decide ((256 : Int) < n) = true := by simp; omega
    clear h h1
    go_enter Try.func13, Try.ntmps13
    go_wp2
    go_ret2
    exact ⟨rfl, rfl⟩

theorem of_good (a : Option Addr) (c : Nat) (fs : List Nat) (w : World) (hs : Sees w a (fs.map fl)) (h1 : 1 ≤ fs.length) (h2 : fs.length ≤ 256) : Calls Try.prog 13 #[.slice a fs.length c] w fun e w' =>
    ∃ p, e = .returned (.tuple #[.pointer (some ⟨p, 0, none⟩), .int .i64 0]) ∧ w.heap.size ≤ p ∧ St 56 36 w' p (Grow Nothing w w') ((fs.map fixB).map fl) ∧ Chg w w' Nothing := by
  have HS := Lib.hid hs
  have b1' : decide ((fs.length : Int) < 1) = false := by simp; omega
  have b2' : decide ((256 : Int) < fs.length) = false := by simp; omega
  have I0 := Lib.hid (show St 56 36 (w.alloc (.cells #[.slice none 0 0] 56)) w.heap.size (Grow Nothing w (w.alloc (.cells #[.slice none 0 0] 56))) (((fs.take 0).map fixB).map fl) ∧ Chg w (w.alloc (.cells #[.slice none 0 0] 56)) Nothing from by
    have := St.made (T := 56) (w := w) (w' := w) (E := 36) (xs := []) (a := none) (c := 0) (World.ownsRow_nil _ _ _ _) (Chg.refl _ _)
    exact this.2)
  clear hs
  go_enter Try.func13, Try.ntmps13
  go_wp2_with fail
  go_loopg [5] fs.length (fun k i wr => ∃ n : Nat, n + k = fs.length ∧ i = .int .i64 (n : Nat) ∧ St 56 36 wr w.heap.size (Grow Nothing w wr) (((fs.take n).map fixB).map fl) ∧ Chg w wr Nothing)
  case atStart => exact ⟨0, by simp, rfl, I0.out⟩
  case round =>
    clear I0
    obtain ⟨n, hn, rfl, st, hc⟩ := hrel
    have ST := Lib.hid st
    have HC := Lib.hid hc
    clear st hc
    by_cases hlt : n < fs.length
    · have hd : decide (n < fs.length) = true := by simpa using hlt
      rcases HS.out with h | ⟨b, o, rfl, g⟩
      · simp at h; subst h; simp at hlt
      have cx := HC.out.cell (g n (fl fs[n]) (by simp [hlt])) id
      have TK := Lib.hid (show ((fs.take n).map fixB).map fl ++ [fl (fixB fs[n])] = ((fs.take (n + 1)).map fixB).map fl by rw [List.take_succ_eq_append_getElem hlt, List.map_append, List.map_append]; rfl)
      clear g
      have hl : (((fs.take n).map fixB).map fl).length = n := by simp; omega
      obtain ⟨a1, c1, c0, hown⟩ := ST.out.cells
      rw [hl] at c0 hown
      have HO := Lib.hid hown
      have HL := Lib.hid hl
      have C0 := Lib.hid c0
      clear hown hl
      generalize fs[n] = x at cx TK
      generalize ((fs.take n).map fixB).map fl = zs at ST HO HL TK
      go_wp2_with fail
      refine (rfix_any _ _).mono ?_
      rintro e w' ⟨rfl, rfl⟩
      go_wp2_with (at_builtin; refine append_one rfl _ _ 29 36 rfl (fl 0) 1 8 Try.underlying29 (by kernel_rfl) rfl (by decide) _ n _ rfl (HO.out.alloc _) wr.heap.size 1 rfl [fl (fixB x)] rfl ?c1 ?c2 ?c3 ?c4 ?c5)
      case c1 => intro j u hj; match j, hj with | 0, hj => simp at hj; subst hj; exact blk_cell (heap_alloc_new wr _) 0
      case c2 => first | rfl | (intro u hu; simp at hu; subst hu; rfl)
      case c3 => unfold maxLen; omega
      case c4 => omega
      case c5 =>
        intro g' cap w2 hown2 hg2 hgg
        have R := Lib.hid (St.pushed (cap := cap) (x := fl (fixB x)) ST.out (w1 := wr.alloc (.cells #[fl (fixB x)] 36)) C0.out ((Chg.refl _ _).alloc _) hg2 (by rw [HL.out]; exact hown2) (by rcases hgg with h | h; exact .inl h; exact .inr (by simp; omega)))
        rw [HL.out, TK.out] at R
        obtain ⟨d0, e0⟩ := R.out.2.2
        have R1 := Lib.hid R.out.1
        have R2 := Lib.hid R.out.2.1
        clear R hown2 hg2 hgg cx c0
        go_wp2
        go_roundg (gk - 1)
        case measure => omega
        case rel =>
          refine ⟨n + 1, by omega, by go_num, ?_, HC.out.trans R2.out (fun k hk h => by rcases h with h | h; exact h; omega)⟩
          have hsz := R2.out.size
          have hz := HC.out.size
          exact R1.out.wider (fun k h => by have := R1.out.lt k h; rcases h with (h | h) | h; exact .inl h; exact .inr ⟨h.1, this⟩; exact .inr ⟨by omega, this⟩) (fun k h => by rcases h with h | h; exact h.elim; exact h.2)
    · have hd : decide (n < fs.length) = false := by simpa using hlt
      obtain rfl : n = fs.length := by omega
      have R := Lib.hid ST.out
      rw [List.take_length] at R
      clear ST
      go_wp2_with fail
      go_ret2
      exact ⟨_, rfl, Nat.le_refl _, R.out, HC.out⟩

theorem all_any (p : Nat) (F : Nat → Prop) (fs : List Nat) (w : World) (h : St 56 36 w p F (fs.map fl)) (hl : fs.length ≤ 256) :
    Calls Try.prog 16 #[.pointer (some ⟨p, 0, none⟩)] w fun e w' => ∃ a c, e = .returned (.slice a fs.length c) ∧ w'.ownsRow w.heap.size 36 1 (.slice a fs.length c) fs.length (fs.map fl) ∧ Chg w w' Nothing := by
  have H := Lib.hid h
  obtain ⟨a, c, c0, hown⟩ := h.cells
  rw [List.length_map] at c0 hown
  have HS := Lib.hid (Sees.of_owns hown)
  clear h hown
  go_enter Try.func16, Try.ntmps16
  go_wp2
  go_loopg [3, 4] fs.length (fun k v i wr => ∃ n : Nat, n + k = fs.length ∧ i = .int .i64 n ∧ wr.ownsRow w.heap.size 36 1 v n ((fs.map fl).take n) ∧ Chg w wr Nothing)
  case atStart => exact ⟨0, by simp, rfl, World.ownsRow_nil _ _ _ _, Chg.refl _ _⟩
  case round =>
    obtain ⟨n, hn, rfl, hown, hchg⟩ := hrel
    have d0 := hchg.cell c0 id
    by_cases hlt : n < fs.length
    · have hd : decide (n < fs.length) = true := by simpa using hlt
      rcases HS.out with h | ⟨b, o, rfl, g⟩
      · simp at h; subst h; simp at hlt
      have cx := hchg.cell (g n (fl fs[n]) (by simp [hlt])) id
      have TK := Lib.hid (show (fs.map fl).take n ++ [fl fs[n]] = (fs.map fl).take (n + 1) by rw [List.take_succ_eq_append_getElem (by simpa using hlt), List.getElem_map])
      clear g
      have HCHG := Lib.hid hchg
      have HO := Lib.hid hown
      clear hchg hown
      generalize fs[n] = x at cx TK
      go_wp2_with (at_builtin; refine append_one rfl _ _ 29 36 rfl (fl 0) 1 8 Try.underlying29 (by kernel_rfl) rfl (by decide) _ n _ rfl (ownsRow_base (HO.out.alloc _) (Nat.zero_le _)) wr.heap.size 1 rfl [fl x] rfl ?c1 ?c2 ?c3 ?c4 ?c5)
      case c1 => intro j u hj; match j, hj with | 0, hj => simp at hj; subst hj; exact blk_cell (heap_alloc_new wr _) 0
      case c2 => first | rfl | (intro u hu; simp at hu; subst hu; rfl)
      case c3 => unfold maxLen; omega
      case c4 => omega
      case c5 =>
        intro g' cap w2 hown2 hg2 hgg
        have R := Lib.hid (own_more (n := n) (xs := fs.map fl) (w := w) hown2 TK.out HO.out HCHG.out hg2 (fun k hk => by simp [Value.ownBlock] at hk; subst hk; exact hgg))
        clear hown2 hg2 hgg cx d0
        go_wp2
        go_roundg (gk - 1)
        case measure => omega
        case rel => exact ⟨n + 1, by omega, by go_num, R.out⟩
    · have hd : decide (n < fs.length) = false := by simpa using hlt
      obtain rfl : n = fs.length := by omega
      obtain ⟨⟨a', c', rfl⟩, _⟩ := ownsRow_shape hown
      have HO := Lib.hid (show wr.ownsRow w.heap.size 36 1 (.slice a' fs.length c') fs.length (fs.map fl) from by rwa [List.take_of_length_le (by simp)] at hown)
      clear hown
      go_wp2
      go_ret
      exact ⟨_, _, rfl, HO.out, hchg⟩

theorem same_list (a1 a2 : Option Addr) (c1 c2 : Nat) (fs gs : List Nat) (w : World) (h1 : Sees w a1 (fs.map fl)) (h2 : Sees w a2 (gs.map fl)) (hl : fs.length ≤ 256) :
    Calls Try.prog 41 #[.slice a1 fs.length c1, .slice a2 gs.length c2] w fun e w' => e = .returned (.bool (sameL fs gs)) ∧ ∃ m, w' = w.drewN m := by
  have S1 := Lib.hid h1
  have S2 := Lib.hid h2
  clear h1 h2
  by_cases hne : fs.length = gs.length
  · have b0 : ((fs.length : Int) != (gs.length : Int)) = false := by simp [hne]
    have HE := Lib.hid hne
    clear hne
    go_enter Try.func41, Try.ntmps41
    go_wp2
    go_loopg [5] fs.length (fun k i wr => ∃ n : Nat, n + k = fs.length ∧ i = .int .i64 (n : Nat) ∧ AgreeTo fs gs n ∧ ∃ m, wr = w.drewN m)
    case atStart => exact ⟨0, by simp, rfl, fun i hi => absurd hi (Nat.not_lt_zero i), 0, rfl⟩
    case round =>
      obtain ⟨n, hn, rfl, hag, m, rfl⟩ := hrel
      have HA := Lib.hid hag
      clear hag
      by_cases hlt : n < fs.length
      · have hd : decide (n < fs.length) = true := by simpa using hlt
        have hlt2 : n < gs.length := by have := HE.out; omega
        rcases S1.out with h | ⟨b1, o1, rfl, g1⟩
        · simp at h; subst h; simp at hlt
        rcases S2.out with h | ⟨b2, o2, rfl, g2⟩
        · simp at h; subst h; simp at hlt2
        have k1 := g1 n (fl fs[n]) (by simp [hlt])
        have k2 := g2 n (fl gs[n]) (by simp [hlt2])
        have N1 := Lib.hid (fun he : fixB fs[n] = fixB gs[n] => HA.out.succ hlt hlt2 he)
        have N2 := Lib.hid (fun he : fixB fs[n] ≠ fixB gs[n] => sameL_ne hlt hlt2 he)
        clear g1 g2
        generalize fs[n] = x at k1 N1 N2
        generalize gs[n] = y at k2 N1 N2
        by_cases he : fixB x = fixB y
        · have hq : ((fixB x : Int) == (fixB y : Int)) = true := by simp [he]
          have N3 := Lib.hid (N1.out he)
          clear he N1 N2
          go_wp2_with fail
          go_region_with (go_at_call 42; refine (rsame_any _ _ _).mono ?_; rintro e w' ⟨rfl, rfl⟩)
          all_goals
            go_wp2_with fail
            go_roundg (gk - 1)
            case measure => omega
            case rel => exact ⟨n + 1, by omega, by go_num, N3.out, _, rfl⟩
        · have hq : ((fixB x : Int) == (fixB y : Int)) = false := by simp; omega
          have N3 := Lib.hid (N2.out he)
          clear he N1 N2
          go_wp2_with fail
          go_region_with (go_at_call 42; refine (rsame_any _ _ _).mono ?_; rintro e w' ⟨rfl, rfl⟩)
          all_goals
            go_wp2_with fail
            go_ret
            rw [N3.out]
            exact ⟨rfl, _, rfl⟩
      · have hd : decide (n < fs.length) = false := by simpa using hlt
        obtain rfl : n = fs.length := by omega
        have N3 := Lib.hid (HA.out.all HE.out)
        go_wp2_with fail
        go_ret
        rw [N3.out]
        exact ⟨rfl, _, rfl⟩
  · have b0 : ((fs.length : Int) != (gs.length : Int)) = true := by simp; omega
    have HE := Lib.hid (sameL_len hne)
    clear hne
    go_enter Try.func41, Try.ntmps41
    go_wp2
    go_ret
    rw [HE.out]
    exact ⟨rfl, 0, rfl⟩

theorem same_true (p q : Nat) (F G : Nat → Prop) (fs gs : List Nat) (w : World) (h : St 56 36 w p F (fs.map fl)) (h' : St 56 36 w q G (gs.map fl)) (hl : fs.length ≤ 256) :
    Calls Try.prog 40 #[.pointer (some ⟨p, 0, none⟩), .pointer (some ⟨q, 0, none⟩)] w fun e w' => e = .returned (.bool (sameL fs gs)) ∧ ∃ m, w' = w.drewN m := by
  obtain ⟨a1, c1, d1, o1⟩ := h.cells
  obtain ⟨a2, c2, d2, o2⟩ := h'.cells
  rw [List.length_map] at d1 o1 d2 o2
  have S1 := Lib.hid (Sees.of_owns o1)
  have S2 := Lib.hid (Sees.of_owns o2)
  clear h h' o1 o2
  go_enter Try.func40, Try.ntmps40
  go_wp2_with fail
  go_region_with (go_at_call 41; refine (same_list a1 a2 c1 c2 fs gs _ (S1.out.drewN _) (S2.out.drewN _) hl).mono ?_; rintro e w' ⟨rfl, m, rfl⟩)
  all_goals
    go_wp2_with fail
    go_ret
    exact ⟨rfl, _, rfl⟩

theorem apply_any (p : Nat) (F : Nat → Prop) (fs : List Nat) (a : Option Addr) (c : Nat) (ts : List (Int × Nat)) (w : World) (h : St 56 36 w p F (fs.map fl)) (hl : fs.length ≤ 256) (ht : Tch w a ts) (hF : ∀ b o, a = some ⟨b, o, none⟩ → ¬ F b) (htl : ts.length ≤ 140737488355328) :
    Calls Try.prog 38 #[.pointer (some ⟨p, 0, none⟩), .slice a ts.length c] w fun e w' => e = .returned (.int .i64 (applyE fs ts)) ∧ St 56 36 w' p F ((applyL fs ts).map fl) ∧ Chg w w' F := by
  have H := Lib.hid h
  have HT := Lib.hid ht
  have HF := Lib.hid hF
  have HL := Lib.hid hl
  clear h ht hF hl
  go_enter Try.func38, Try.ntmps38
  go_wp2_with fail
  go_loopg [5] ts.length (fun k i wr => ∃ n : Nat, n + k = ts.length ∧ i = .int .i64 (n : Nat) ∧ (∀ j t, j < n → ts[j]? = some t → hasB t.1 fs.length = true) ∧ Chg w wr Nothing)
  case atStart => exact ⟨0, by simp, rfl, fun j _ hj => absurd hj (Nat.not_lt_zero j), Chg.refl _ _⟩
  case round =>
    obtain ⟨n, hn, rfl, hok, hc⟩ := hrel
    have HO := Lib.hid hok
    have HC := Lib.hid hc
    clear hok hc
    by_cases hlt : n < ts.length
    · have hd : decide (n < ts.length) = true := by simpa using hlt
      obtain ⟨ci, x, hx⟩ : ∃ ci x, ts[n] = (ci, x) := ⟨_, _, rfl⟩
      obtain ⟨b, o, rfl, k1, k2⟩ := HT.out n _ (List.getElem?_eq_getElem hlt)
      rw [hx] at k1 k2
      have k1 := HC.out.cell k1 id
      have k2 := HC.out.cell k2 id
      have HX := Lib.hid (show ts[n]? = some (ci, x) by rw [List.getElem?_eq_getElem hlt, hx])
      clear hx
      obtain ⟨a1, c1, c0, _⟩ := ((H.out.chg HC.out (fun _ _ h => h))).cells
      rw [List.length_map] at c0
      by_cases hb : hasB ci fs.length = true
      · have NO := Lib.hid (show ∀ j t, j < n + 1 → ts[j]? = some t → hasB t.1 fs.length = true from fun j t hj hjt => by
          by_cases e : j = n
          · subst e; rw [HX.out] at hjt; cases hjt; exact hb
          · exact HO.out j t (by omega) hjt)
        obtain ⟨g0, g1⟩ := hasB_iff.1 hb
        have t1 : decide (ci < 0) = false := by simpa using g0
        have t2 : decide ((fs.length : Int) ≤ ci) = false := by simp; omega
        clear hb g0 g1
        go_wp2_with fail
        go_quiet (fail)
        go_wp2_with fail
        go_roundg (gk - 1)
        case measure => omega
        case rel => exact ⟨n + 1, by omega, by go_num, NO.out, HC.out.drewN _⟩
      · have hb' : hasB ci fs.length = false := by simpa using hb
        have NE := Lib.hid (show okL fs.length ts = false by
          unfold okL
          rw [List.all_eq_false]
          exact ⟨(ci, x), List.mem_of_getElem? HX.out, by simpa using hb'⟩)
        have hb2 : ¬ (0 ≤ ci ∧ ci < fs.length) := fun h => hb (hasB_iff.2 h)
        clear hb hb'
        by_cases h0 : ci < 0
        · have t1 : decide (ci < 0) = true := by simpa using h0
          clear hb2
          go_wp2_with fail
          go_quiet (fail)
          go_wp2_with fail
          go_ret
          refine ⟨?_, ?_, (HC.out.drewN _).mono (fun _ _ h => h.elim)⟩
          · rw [applyE, NE.out]; rfl
          · rw [applyL, NE.out]; exact H.out.chg (HC.out.drewN _) (fun _ _ h => h)
        · have t1 : decide (ci < 0) = false := by simpa using h0
          have t2 : decide ((fs.length : Int) ≤ ci) = true := by simp; omega
          clear hb2
          go_wp2_with fail
          go_quiet (fail)
          go_wp2_with fail
          go_ret
          refine ⟨?_, ?_, (HC.out.drewN _).mono (fun _ _ h => h.elim)⟩
          · rw [applyE, NE.out]; rfl
          · rw [applyL, NE.out]; exact H.out.chg (HC.out.drewN _) (fun _ _ h => h)
    · have hd : decide (n < ts.length) = false := by simpa using hlt
      obtain rfl : n = ts.length := by omega
      have OK := Lib.hid (show okL fs.length ts = true by
        unfold okL
        rw [List.all_eq_true]
        intro t ht
        obtain ⟨j, hj, hjt⟩ := List.mem_iff_getElem.1 ht
        exact HO.out j t hj (by rw [List.getElem?_eq_getElem hj, hjt]))
      have K := Lib.hid (show St 56 36 wr p F ((putL fs (ts.take 0)).map fl) ∧ Chg w wr F from ⟨H.out.chg HC.out (fun _ _ h => h), HC.out.mono (fun _ _ h => h.elim)⟩)
      clear HO HC
      go_wp2_with fail
      go_loopg [6] ts.length (fun k i wq => ∃ n : Nat, n + k = ts.length ∧ i = .int .i64 (n : Nat) ∧ St 56 36 wq p F ((putL fs (ts.take n)).map fl) ∧ Chg w wq F)
      case atStart => exact ⟨0, by simp, rfl, K.out⟩
      case round =>
        clear K
        obtain ⟨n, hn, rfl, st, hc⟩ := hrel
        have ST := Lib.hid st
        have HC := Lib.hid hc
        clear st hc
        by_cases hlt : n < ts.length
        · have hd : decide (n < ts.length) = true := by simpa using hlt
          obtain ⟨ci, x, hx⟩ : ∃ ci x, ts[n] = (ci, x) := ⟨_, _, rfl⟩
          obtain ⟨b, o, rfl, k1, k2⟩ := HT.out n _ (List.getElem?_eq_getElem hlt)
          rw [hx] at k1 k2
          have k1 := HC.out.cell k1 (HF.out b o rfl)
          have k2 := HC.out.cell k2 (HF.out b o rfl)
          have TK := Lib.hid (show setL (putL fs (ts.take n)) ci x = putL fs (ts.take (n + 1)) by rw [List.take_succ_eq_append_getElem hlt, putL_snoc, hx])
          clear hx
          go_wp2_with fail
          go_region_with (go_at_call 35; refine (set_any p F _ ci x _ (ST.out.drewN _) (by rw [putL_len]; exact HL.out)).mono ?_; rintro e w' ⟨rfl, hs, hc⟩)
          all_goals
            have NS := Lib.hid (show St 56 36 w' p F ((putL fs (ts.take (n + 1))).map fl) from by rwa [TK.out] at hs)
            have NC := Lib.hid ((HC.out.drewN 1).trans hc (fun _ _ h => h))
            clear hs hc k1 k2
            go_wp2_with fail
            go_roundg (gk - 1)
            case measure => omega
            case rel => exact ⟨n + 1, by omega, by go_num, NS.out, NC.out⟩
        · have hd : decide (n < ts.length) = false := by simpa using hlt
          obtain rfl : n = ts.length := by omega
          go_wp2_with fail
          go_ret
          refine ⟨?_, ?_, HC.out⟩
          · rw [applyE, OK.out]; rfl
          · have := ST.out
            rw [List.take_length] at this
            rw [applyL, OK.out]; exact this


end Go.Proofs.Ytpigcmedkljonab.R6
