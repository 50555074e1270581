/- The contracts of a state's methods. -/
import Derived.Test.YtpigcmedkljonabSt
namespace Go.Proofs.Ytpigcmedkljonab.T6
open Go Go.RowKit
set_option linter.unusedVariables false
set_option linter.unusedSimpArgs false

theorem has_any (p : Nat) (F : Nat → Prop) (xs : List Value) (cell : Int) (w : World) (h : St 53 36 w p F xs) (hl : xs.length ≤ 256) :
    Calls Try.prog 27 #[.pointer (some ⟨p, 0, none⟩), .int .i64 cell] w fun e w' => e = .returned (.bool (hasB cell xs.length)) ∧ w = w' := by
  obtain ⟨a, c, c0, _⟩ := h.cells
  clear h
  have HB := Lib.hid (show hasB cell xs.length = decide (0 ≤ cell ∧ cell < xs.length) from rfl)
  by_cases h1 : 0 ≤ cell
  · have b1 : decide (0 ≤ cell) = true := by simpa using h1
    by_cases h2 : cell < xs.length
    · have b2 : decide (cell < xs.length) = true := by simpa using h2
      have B := Lib.hid (show hasB cell xs.length = true by rw [HB.out]; simp; omega)
      clear HB h1 h2
      go_enter Try.func27, Try.ntmps27
      go_wp2
      go_ret
      rw [B.out]
      exact ⟨rfl, rfl⟩
    · have b2 : decide (cell < xs.length) = false := by simpa using h2
      have B := Lib.hid (show hasB cell xs.length = false by rw [HB.out]; simp; omega)
      clear HB h1 h2
      go_enter Try.func27, Try.ntmps27
      go_wp2
      go_ret
      rw [B.out]
      exact ⟨rfl, rfl⟩
  · have b1 : decide (0 ≤ cell) = false := by simpa using h1
    have B := Lib.hid (show hasB cell xs.length = false by rw [HB.out]; simp; omega)
    clear HB h1
    go_enter Try.func27, Try.ntmps27
    go_wp2
    go_ret
    rw [B.out]
    exact ⟨rfl, rfl⟩

theorem get_bad (p : Nat) (F : Nat → Prop) (xs : List Value) (cell : Int) (w : World) (h : St 53 36 w p F xs) (hl : xs.length ≤ 256) (hb : hasB cell xs.length = false) :
    Calls Try.prog 20 #[.pointer (some ⟨p, 0, none⟩), .int .i64 cell] w fun e w' => e = .returned (.tuple #[fl 0, .int .i64 60]) ∧ w = w' := by
  have H := Lib.hid h
  clear h
  go_enter Try.func20, Try.ntmps20
  go_wp2_with fail
  refine (has_any _ _ _ _ _ H.out hl).mono ?_
  rintro e w' ⟨rfl, rfl⟩
  go_wp2_with fail
  go_ret2
  exact ⟨rfl, rfl⟩

theorem get_good (p : Nat) (F : Nat → Prop) (xs : List Value) (j : Nat) (x : Value) (w : World) (h : St 53 36 w p F xs) (hl : xs.length ≤ 256) (hx : xs[j]? = some x) :
    Calls Try.prog 20 #[.pointer (some ⟨p, 0, none⟩), .int .i64 j] w fun e w' => e = .returned (.tuple #[x, .int .i64 0]) ∧ w = w' := by
  have hlt := (List.getElem?_eq_some_iff.1 hx).1
  obtain ⟨g, c, c0, cx, fx, _, _⟩ := h.at hx
  have hb : hasB j xs.length = true := by unfold hasB; simp; omega
  have H := Lib.hid h
  clear h hx
  go_enter Try.func20, Try.ntmps20
  go_wp2_with fail
  refine (has_any _ _ _ _ _ H.out hl).mono ?_
  rintro e w' ⟨rfl, rfl⟩
  go_wp2_with fail
  go_ret2
  exact ⟨rfl, rfl⟩

theorem set_bad (p : Nat) (F : Nat → Prop) (xs : List Value) (cell : Int) (x : Nat) (w : World) (h : St 53 36 w p F xs) (hl : xs.length ≤ 256) (hb : hasB cell xs.length = false) :
    Calls Try.prog 18 #[.pointer (some ⟨p, 0, none⟩), .int .i64 cell, fl x] w fun e w' => e = .returned (.int .i64 60) ∧ w = w' := by
  have H := Lib.hid h
  clear h
  go_enter Try.func18, Try.ntmps18
  go_wp2_with fail
  refine (has_any _ _ _ _ _ H.out hl).mono ?_
  rintro e w' ⟨rfl, rfl⟩
  go_wp2_with fail
  go_ret
  exact ⟨rfl, rfl⟩

theorem set_good (p : Nat) (F : Nat → Prop) (xs : List Value) (j : Nat) (x : Nat) (w : World) (h : St 53 36 w p F xs) (hl : xs.length ≤ 256) (hj : j < xs.length) :
    Calls Try.prog 18 #[.pointer (some ⟨p, 0, none⟩), .int .i64 j, fl x] w fun e w' => e = .returned (.int .i64 0) ∧ St 53 36 w' p F (xs.set j (fl (fixB x))) ∧ Chg w w' F := by
  obtain ⟨u, hu⟩ : ∃ u, xs[j]? = some u := ⟨_, List.getElem?_eq_getElem hj⟩
  obtain ⟨g, c, c0, cx, fx, _, _⟩ := h.at hu
  have hb : hasB j xs.length = true := by unfold hasB; simp; omega
  have H := Lib.hid h
  have C0 := Lib.hid c0
  have R := fun (m : Nat) => Lib.hid (St.set (h.drewN m) (show (w.drewN m).cell? ⟨p, 0, none⟩ = _ from C0.out) hj (fl (fixB x)))
  have RR := Lib.hid R
  clear h R
  go_enter Try.func18, Try.ntmps18
  go_wp2_with fail
  refine (has_any _ _ _ _ _ H.out hl).mono ?_
  rintro e w' ⟨rfl, rfl⟩
  go_wp2_with fail
  go_region_with (go_at_call 24; refine (fix_any _ _).mono ?_; rintro e w' ⟨rfl, rfl⟩)
  all_goals
    go_wp2
    go_ret
    exact ⟨rfl, (RR.out 1).out.1, ((Chg.refl w F).drewN 1).trans (RR.out 1).out.2 (fun _ _ h => h)⟩

theorem get_any (p : Nat) (F : Nat → Prop) (fs : List Nat) (cell : Int) (w : World) (h : St 53 36 w p F (fs.map fl)) (hl : fs.length ≤ 256) :
    Calls Try.prog 20 #[.pointer (some ⟨p, 0, none⟩), .int .i64 cell] w fun e w' => e = .returned (.tuple #[fl (getV fs cell), .int .i64 (setE fs cell)]) ∧ w = w' := by
  by_cases hb : hasB cell fs.length = true
  · obtain ⟨h0, h1⟩ := hasB_iff.1 hb
    obtain ⟨j, rfl⟩ : ∃ j : Nat, cell = j := ⟨cell.toNat, by omega⟩
    have hj : j < fs.length := by omega
    refine (get_good p F _ j (fl fs[j]) w h (by simpa using hl) (by simp [hj])).mono fun e w' ⟨he, hw⟩ => ⟨?_, hw⟩
    rw [he, getV, setE, if_pos hb, if_pos hb]
    simp [hj]
  · have hb' : hasB cell fs.length = false := by simpa using hb
    refine (get_bad p F _ cell w h (by simpa using hl) (by simpa using hb')).mono fun e w' ⟨he, hw⟩ => ⟨?_, hw⟩
    rw [he, getV, setE, if_neg hb, if_neg hb]

theorem set_any (p : Nat) (F : Nat → Prop) (fs : List Nat) (cell : Int) (x : Nat) (w : World) (h : St 53 36 w p F (fs.map fl)) (hl : fs.length ≤ 256) :
    Calls Try.prog 18 #[.pointer (some ⟨p, 0, none⟩), .int .i64 cell, fl x] w fun e w' => e = .returned (.int .i64 (setE fs cell)) ∧ St 53 36 w' p F ((setL fs cell x).map fl) ∧ Chg w w' F := by
  by_cases hb : hasB cell fs.length = true
  · obtain ⟨h0, h1⟩ := hasB_iff.1 hb
    obtain ⟨j, rfl⟩ : ∃ j : Nat, cell = j := ⟨cell.toNat, by omega⟩
    refine (set_good p F _ j x w h (by simpa using hl) (by simp; omega)).mono fun e w' ⟨he, hs, hc⟩ => ⟨?_, ?_, hc⟩
    · rw [he, setE, if_pos hb]
    · rw [setL, if_pos hb, List.map_set]; exact hs
  · have hb' : hasB cell fs.length = false := by simpa using hb
    refine (set_bad p F _ cell x w h (by simpa using hl) (by simpa using hb')).mono fun e w' ⟨he, hw⟩ => ?_
    subst hw
    refine ⟨by rw [he, setE, if_neg hb], by rw [setL, if_neg hb]; exact h, Chg.refl _ _⟩

theorem len_any (p : Nat) (F : Nat → Prop) (xs : List Value) (w : World) (h : St 53 36 w p F xs) :
    Calls Try.prog 9 #[.pointer (some ⟨p, 0, none⟩)] w fun e w' => e = .returned (.int .i64 xs.length) ∧ w = w' := by
  obtain ⟨a, c, c0, _⟩ := h.cells
  clear h
  go_enter Try.func9, Try.ntmps9
  go_wp2
  go_ret
  exact ⟨rfl, rfl⟩

theorem all_any (p : Nat) (F : Nat → Prop) (fs : List Nat) (w : World) (h : St 53 36 w p F (fs.map fl)) (hl : fs.length ≤ 256) :
    Calls Try.prog 15 #[.pointer (some ⟨p, 0, none⟩)] w fun e w' => ∃ a c, e = .returned (.slice a fs.length c) ∧ w'.ownsRow w.heap.size 36 1 (.slice a fs.length c) fs.length (fs.map fl) ∧ Chg w w' Nothing := by
  obtain ⟨a, c, c0, hown⟩ := h.cells
  rw [List.length_map] at c0 hown
  have HS := Lib.hid (Sees.of_owns hown)
  have HF := Lib.hid (fls_one fs)
  clear h hown
  go_enter Try.func15, Try.ntmps15
  go_wp2_with (at_make; refine make_row rfl _ _ 29 36 rfl (fl 0) 8 Try.underlying29 (by kernel_rfl) rfl .i64 .i64 _ _ fs.length rfl rfl rfl rfl (by omega) (by unfold maxLen; omega) ?c1)
  case c1 =>
    intro w1 hown hg
    have hg' := Lib.hid ((Chg.refl w Nothing).grown hg (by simp))
    have c1 := hg'.out.cell c0 id
    have S1 := Lib.hid (HS.out.chg hg'.out)
    have O1 := Lib.hid hown
    clear hown hg c0
    go_wp2_with ((with_reducible refine copy_row rfl _ _ 29 29 rfl 36 Try.underlying29 (by kernel_rfl) w.heap.size _ fs.length _ ?d1 O1.out a c ?d2 (fs.map fl) ?d3 S1.out HF.out ?d4))
    case d1 => rfl
    case d2 => rfl
    case d3 => simp
    case d4 =>
      intro w2 hown2 hg2
      have R := Lib.hid (show Chg w w2 Nothing from hg'.out.grown hg2 (fun k hk => by simp [Value.ownBlock] at hk; left; omega))
      have O2 := Lib.hid hown2
      clear hown2 hg2
      go_wp2
      go_ret
      exact ⟨_, _, rfl, O2.out, R.out⟩

theorem same_true (p q : Nat) (F G : Nat → Prop) (fs gs : List Nat) (w : World) (h : St 53 36 w p F (fs.map fl)) (h' : St 53 36 w q G (gs.map fl)) (hl : fs.length ≤ 256) :
    Calls Try.prog 17 #[.pointer (some ⟨p, 0, none⟩), .pointer (some ⟨q, 0, none⟩)] w fun e w' => e = .returned (.bool (sameL fs gs)) ∧ ∃ m, w' = w.drewN m := by
  have H := Lib.hid h
  have H' := Lib.hid h'
  obtain ⟨a1, c1, d1, o1⟩ := h.cells
  obtain ⟨a2, c2, d2, o2⟩ := h'.cells
  rw [List.length_map] at d1 o1 d2 o2
  have S1 := Lib.hid (Sees.of_owns o1)
  have S2 := Lib.hid (Sees.of_owns o2)
  clear h h' o1 o2
  by_cases hne : fs.length = gs.length
  · have b0 : ((fs.length : Int) != (gs.length : Int)) = false := by simp [hne]
    have HE := Lib.hid hne
    clear hne
    go_enter Try.func17, Try.ntmps17
    go_wp2
    go_quiet (fail)
    go_wp2_with fail
    go_loopg [23] fs.length (fun k i wr => ∃ n : Nat, n + k = fs.length ∧ i = .int .i64 (n : Nat) ∧ AgreeTo fs gs n ∧ ∃ m, wr = w.drewN m)
    case atStart => exact ⟨0, by simp, rfl, fun i hi => absurd hi (Nat.not_lt_zero i), _, rfl⟩
    case round =>
      obtain ⟨n, hn, rfl, hag, m, rfl⟩ := hrel
      have HA := Lib.hid hag
      clear hag
      by_cases hlt : n < fs.length
      · have hd : decide (n < fs.length) = true := by simpa using hlt
        have hlt2 : n < gs.length := by have := HE.out; omega
        rcases S1.out with h | ⟨b1, o1, rfl, g1⟩
        · simp at h; subst h; simp at hlt
        rcases S2.out with h | ⟨b2, o2, rfl, g2⟩
        · simp at h; subst h; simp at hlt2
        have k1 := g1 n (fl fs[n]) (by simp [hlt])
        have k2 := g2 n (fl gs[n]) (by simp [hlt2])
        have N1 := Lib.hid (fun he : fixB fs[n] = fixB gs[n] => HA.out.succ hlt hlt2 he)
        have N2 := Lib.hid (fun he : fixB fs[n] ≠ fixB gs[n] => sameL_ne hlt hlt2 he)
        clear g1 g2
        generalize fs[n] = x at k1 N1 N2
        generalize gs[n] = y at k2 N1 N2
        by_cases he : fixB x = fixB y
        · have hq : ((fixB x : Int) == (fixB y : Int)) = true := by simp [he]
          have N3 := Lib.hid (N1.out he)
          clear he N1 N2
          go_wp2_with fail
          refine (Go.Proofs.Ytpigcmedkljonab.same_any _ _ _).mono ?_
          rintro e w' ⟨rfl, rfl⟩
          go_wp2_with fail
          go_roundg (gk - 1)
          case measure => omega
          case rel => exact ⟨n + 1, by omega, by go_num, N3.out, _, rfl⟩
        · have hq : ((fixB x : Int) == (fixB y : Int)) = false := by simp; omega
          have N3 := Lib.hid (N2.out he)
          clear he N1 N2
          go_wp2_with fail
          refine (Go.Proofs.Ytpigcmedkljonab.same_any _ _ _).mono ?_
          rintro e w' ⟨rfl, rfl⟩
          go_wp2_with fail
          go_ret
          rw [N3.out]
          exact ⟨rfl, _, rfl⟩
      · have hd : decide (n < fs.length) = false := by simpa using hlt
        obtain rfl : n = fs.length := by omega
        have N3 := Lib.hid (HA.out.all HE.out)
        go_wp2_with fail
        go_ret
        rw [N3.out]
        exact ⟨rfl, _, rfl⟩
  · have b0 : ((fs.length : Int) != (gs.length : Int)) = true := by simp; omega
    have HE := Lib.hid (sameL_len hne)
    clear hne
    go_enter Try.func17, Try.ntmps17
    go_wp2
    go_quiet (fail)
    go_wp2_with fail
    go_ret
    rw [HE.out]
    exact ⟨rfl, _, rfl⟩

theorem apply_any (p : Nat) (F : Nat → Prop) (fs : List Nat) (a : Option Addr) (c : Nat) (ts : List (Int × Nat)) (w : World) (h : St 53 36 w p F (fs.map fl)) (hl : fs.length ≤ 256) (ht : Tch w a ts) (hF : ∀ b o, a = some ⟨b, o, none⟩ → ¬ F b) (htl : ts.length ≤ 140737488355328) :
    Calls Try.prog 36 #[.pointer (some ⟨p, 0, none⟩), .slice a ts.length c] w fun e w' => e = .returned (.int .i64 (applyE fs ts)) ∧ St 53 36 w' p F ((applyL fs ts).map fl) ∧ Chg w w' F := by
  have H := Lib.hid h
  have HT := Lib.hid ht
  have HF := Lib.hid hF
  have HL := Lib.hid hl
  clear h ht hF hl
  go_enter Try.func36, Try.ntmps36
  go_wp2_with fail
  go_loopg [11] ts.length (fun k i wr => ∃ n : Nat, n + k = ts.length ∧ i = .int .i64 (n : Nat) ∧ (∀ j t, j < n → ts[j]? = some t → hasB t.1 fs.length = true) ∧ Chg w wr Nothing)
  case atStart => exact ⟨0, by simp, rfl, fun j _ hj => absurd hj (Nat.not_lt_zero j), Chg.refl _ _⟩
  case round =>
    obtain ⟨n, hn, rfl, hok, hc⟩ := hrel
    have HO := Lib.hid hok
    have HC := Lib.hid hc
    clear hok hc
    by_cases hlt : n < ts.length
    · have hd : decide (n < ts.length) = true := by simpa using hlt
      obtain ⟨ci, x, hx⟩ : ∃ ci x, ts[n] = (ci, x) := ⟨_, _, rfl⟩
      obtain ⟨b, o, rfl, k1, k2⟩ := HT.out n _ (List.getElem?_eq_getElem hlt)
      rw [hx] at k1 k2
      have k1 := HC.out.cell k1 id
      have k2 := HC.out.cell k2 id
      have HX := Lib.hid (show ts[n]? = some (ci, x) by rw [List.getElem?_eq_getElem hlt, hx])
      clear hx
      by_cases hb : hasB ci fs.length = true
      · have NO := Lib.hid (show ∀ j t, j < n + 1 → ts[j]? = some t → hasB t.1 fs.length = true from fun j t hj hjt => by
          by_cases e : j = n
          · subst e; rw [HX.out] at hjt; cases hjt; exact hb
          · exact HO.out j t (by omega) hjt)
        go_wp2_with fail
        refine (has_any p F _ ci _ ((H.out.chg HC.out (fun _ _ h => h)).chg (S := Nothing) ((Chg.refl _ _).alloc _) (fun _ _ h => h)) (by simpa using HL.out)).mono ?_
        rintro e w' ⟨rfl, rfl⟩
        rw [List.length_map]
        have NC := Lib.hid HC.out.alloc
        go_wp2_with fail
        go_roundg (gk - 1)
        case measure => omega
        case rel => exact ⟨n + 1, by omega, by go_num, NO.out, NC.out _⟩
      · have hb' : hasB ci fs.length = false := by simpa using hb
        have NE := Lib.hid (show okL fs.length ts = false by
          unfold okL
          rw [List.all_eq_false]
          exact ⟨(ci, x), List.mem_of_getElem? HX.out, by simpa using hb'⟩)
        clear hb
        go_wp2_with fail
        refine (has_any p F _ ci _ ((H.out.chg HC.out (fun _ _ h => h)).chg (S := Nothing) ((Chg.refl _ _).alloc _) (fun _ _ h => h)) (by simpa using HL.out)).mono ?_
        rintro e w' ⟨rfl, rfl⟩
        rw [List.length_map]
        have NC := Lib.hid HC.out.alloc
        go_wp2_with fail
        go_ret
        refine ⟨?_, ?_, (NC.out _).mono (fun _ _ h => h.elim)⟩
        · rw [applyE, NE.out]; rfl
        · rw [applyL, NE.out]; exact H.out.chg (NC.out _) (fun _ _ h => h)
    · have hd : decide (n < ts.length) = false := by simpa using hlt
      obtain rfl : n = ts.length := by omega
      have OK := Lib.hid (show okL fs.length ts = true by
        unfold okL
        rw [List.all_eq_true]
        intro t ht
        obtain ⟨j, hj, hjt⟩ := List.mem_iff_getElem.1 ht
        exact HO.out j t hj (by rw [List.getElem?_eq_getElem hj, hjt]))
      have K := Lib.hid (show St 53 36 wr p F ((putL fs (ts.take 0)).map fl) ∧ Chg w wr F from ⟨H.out.chg HC.out (fun _ _ h => h), HC.out.mono (fun _ _ h => h.elim)⟩)
      clear HO HC
      go_wp2_with fail
      go_loopg [23] ts.length (fun k i wq => ∃ n : Nat, n + k = ts.length ∧ i = .int .i64 (n : Nat) ∧ St 53 36 wq p F ((putL fs (ts.take n)).map fl) ∧ Chg w wq F)
      case atStart => exact ⟨0, by simp, rfl, K.out⟩
      case round =>
        clear K
        obtain ⟨n, hn, rfl, st, hc⟩ := hrel
        have ST := Lib.hid st
        have HC := Lib.hid hc
        clear st hc
        by_cases hlt : n < ts.length
        · have hd : decide (n < ts.length) = true := by simpa using hlt
          obtain ⟨ci, x, hx⟩ : ∃ ci x, ts[n] = (ci, x) := ⟨_, _, rfl⟩
          obtain ⟨b, o, rfl, k1, k2⟩ := HT.out n _ (List.getElem?_eq_getElem hlt)
          rw [hx] at k1 k2
          have k1 := HC.out.cell k1 (HF.out b o rfl)
          have k2 := HC.out.cell k2 (HF.out b o rfl)
          have TK := Lib.hid (show setL (putL fs (ts.take n)) ci x = putL fs (ts.take (n + 1)) by rw [List.take_succ_eq_append_getElem hlt, putL_snoc, hx])
          clear hx
          go_wp2_with fail
          refine (set_any p F _ ci x _ (ST.out.chg (S := Nothing) ((Chg.refl _ _).alloc _) (fun _ _ h => h)) (by rw [putL_len]; exact HL.out)).mono ?_
          rintro e w' ⟨rfl, hs, hc⟩
          have NS := Lib.hid (show St 53 36 w' p F ((putL fs (ts.take (n + 1))).map fl) from by rwa [TK.out] at hs)
          have NC := Lib.hid ((HC.out.alloc _).trans hc (fun _ _ h => h))
          clear hs hc k1 k2
          go_wp2_with fail
          go_roundg (gk - 1)
          case measure => omega
          case rel => exact ⟨n + 1, by omega, by go_num, NS.out, NC.out⟩
        · have hd : decide (n < ts.length) = false := by simpa using hlt
          obtain rfl : n = ts.length := by omega
          go_wp2_with fail
          go_ret
          refine ⟨?_, ?_, HC.out⟩
          · rw [applyE, OK.out]; rfl
          · have := ST.out
            rw [List.take_length] at this
            rw [applyL, OK.out]; exact this

theorem clone_any (p : Nat) (F : Nat → Prop) (fs : List Nat) (w : World) (h : St 53 36 w p F (fs.map fl)) (hl : fs.length ≤ 256) :
    Calls Try.prog 29 #[.pointer (some ⟨p, 0, none⟩)] w fun e w' => ∃ q, e = .returned (.pointer (some ⟨q, 0, none⟩)) ∧ w.heap.size ≤ q ∧ St 53 36 w' q (Grow Nothing w w') (fs.map fl) ∧ Chg w w' Nothing := by
  have H := Lib.hid h
  clear h
  go_enter Try.func29, Try.ntmps29
  go_wp2_with fail
  refine (all_any p F fs w H.out hl).mono ?_
  rintro e w1 ⟨a, c, rfl, hown, hc⟩
  have R := Lib.hid (St.made (T := 53) (w := w) (w' := w1) (xs := fs.map fl) (by rw [List.length_map]; exact hown) hc)
  simp only [List.length_map] at R
  clear hown hc
  go_wp2_with fail
  go_ret
  exact ⟨_, rfl, R.out⟩

theorem of_bad (a : Option Addr) (n c : Nat) (w : World) (h : n < 1 ∨ 256 < n) : Calls Try.prog 12 #[.slice a n c] w fun e w' => e = .returned (.tuple #[.pointer none, .int .i64 1]) ∧ w = w' := by
  have hx := Lib.hid h
  clear h
  go_enter Try.func12, Try.ntmps12
  go_wp2_with fail
  refine (snew_bad _ _ (by have := hx.out; omega)).mono ?_
  rintro e w1 ⟨rfl, rfl⟩
  go_wp2_with fail
  go_ret2
  exact ⟨rfl, rfl⟩

theorem of_good (a : Option Addr) (c : Nat) (fs : List Nat) (w : World) (hs : Sees w a (fs.map fl)) (h1 : 1 ≤ fs.length) (h2 : fs.length ≤ 256) : Calls Try.prog 12 #[.slice a fs.length c] w fun e w' =>
    ∃ p, e = .returned (.tuple #[.pointer (some ⟨p, 0, none⟩), .int .i64 0]) ∧ w.heap.size ≤ p ∧ St 53 36 w' p (Grow Nothing w w') ((fs.map fixB).map fl) ∧ Chg w w' Nothing := by
  have HS := Lib.hid hs
  have HF := Lib.hid (fls_one fs)
  clear hs
  go_enter Try.func12, Try.ntmps12
  go_wp2_with fail
  refine (snew_good _ _ h1 h2).mono ?_
  rintro e w1 ⟨p, rfl, hp, st, hc⟩
  have HP := Lib.hid hp
  clear hp
  obtain ⟨a1, c1, c0, hown⟩ := st.cells
  rw [List.length_replicate] at c0 hown
  have ST := Lib.hid st
  have HC := Lib.hid hc
  have HO := Lib.hid hown
  have S1 := Lib.hid (HS.out.chg hc)
  clear st hc hown
  go_wp2_with ((with_reducible refine copy_row rfl _ _ 29 29 rfl 36 Try.underlying29 (by kernel_rfl) 0 _ fs.length _ ?d1 HO.out a c ?d2 (fs.map fl) ?d3 S1.out HF.out ?d4))
  case d1 => rfl
  case d2 => rfl
  case d3 => simp
  case d4 =>
    intro w2 hown2 hg2
    have R := Lib.hid (ST.out.rowed c0 (by simp) hown2 hg2)
    have E0 := Lib.hid (show ∀ k, Grow Nothing w w1 k → w.heap.size ≤ k from fun k h => by rcases h with h | h; exact h.elim; exact h.1)
    have D2 := Lib.hid (show Chg w w2 Nothing from HC.out.trans R.out.2 (fun k hk h => by have := E0.out k h; omega))
    have F2 := Lib.hid (show St 53 36 w2 p (Grow Nothing w w2) ((mix 0 fs).map fl) from by
      rw [mix_zero]
      exact R.out.1.wider (fun k h => by have := R.out.1.lt k h; rcases h with h | h; exact .inl h; exact .inr ⟨h.1, this⟩) (fun k h => by rcases h with h | h; exact h.elim; exact h.2))
    obtain ⟨a2, k2, e0, _⟩ := F2.out.cells
    rw [List.length_map, mix_len] at e0
    clear hown2 hg2 c0
    generalize Grow Nothing w w1 = G at ST E0 R
    clear ST E0 R HO S1
    go_wp2_with fail
    go_loopg [28] fs.length (fun k i wr => ∃ n : Nat, n + k = fs.length ∧ i = .int .i64 (n : Nat) ∧ St 53 36 wr p (Grow Nothing w w2) ((mix n fs).map fl) ∧ wr.cell? ⟨p, 0, none⟩ = some (.slice a2 fs.length k2) ∧ Chg w wr Nothing)
    case atStart => exact ⟨0, by simp, rfl, F2.out, e0, D2.out⟩
    case round =>
      clear e0 D2 F2
      obtain ⟨n, hn, rfl, st, d0, hc⟩ := hrel
      have ST := Lib.hid st
      have HC' := Lib.hid hc
      clear st hc
      by_cases hlt : n < fs.length
      · have hd : decide (n < fs.length) = true := by simpa using hlt
        have hx : ((mix n fs).map fl)[n]? = some (fl fs[n]) := by rw [List.getElem?_map, mix_at hlt]; rfl
        obtain ⟨g, c3, c0', cx, fx, hgp, _⟩ := ST.out.at hx
        have HGP := Lib.hid hgp
        clear hgp
        rw [List.length_map, mix_len] at c0'
        have := d0.symm.trans c0'
        simp at this
        obtain ⟨rfl, rfl⟩ := this
        have RR := Lib.hid (fun (m : Nat) => St.set (ST.out.drewN m) (show (wr.drewN m).cell? ⟨p, 0, none⟩ = some (.slice (some ⟨g, 0, none⟩) ((mix n fs).map fl).length k2) by rw [List.length_map, mix_len]; exact d0) (by rw [List.length_map, mix_len]; exact hlt) (fl (fixB fs[n])))
        have ME := Lib.hid (mix_set hlt)
        clear hx c0'
        go_wp2_with fail
        go_region_with (go_at_call 24; refine (fix_any _ _).mono ?_; rintro e w' ⟨rfl, rfl⟩)
        all_goals
          have R1 := Lib.hid (show St 53 36 ((wr.drewN 1).setCell ⟨g, n, none⟩ (fl (fixB fs[n]))) p (Grow Nothing w w2) ((mix (n + 1) fs).map fl) ∧ ((wr.drewN 1).setCell ⟨g, n, none⟩ (fl (fixB fs[n]))).cell? ⟨p, 0, none⟩ = some (.slice (some ⟨g, 0, none⟩) fs.length k2) ∧
            Chg w ((wr.drewN 1).setCell ⟨g, n, none⟩ (fl (fixB fs[n]))) Nothing from
            ⟨by have := (RR.out 1).1; rwa [← List.map_set, ME.out] at this, (World.cell?_of_block (w := wr.drewN 1) (Below.heap_setCell _ _ _ _ (Ne.symm HGP.out))).trans d0, (HC'.out.drewN 1).trans (RR.out 1).2 (fun k hk h => by rcases h with h | h; exact h; omega)⟩)
          clear RR ME d0 cx fx
          go_wp2_with fail
          go_roundg (gk - 1)
          case measure => omega
          case rel => exact ⟨n + 1, by omega, by go_num, R1.out⟩
      · have hd : decide (n < fs.length) = false := by simpa using hlt
        obtain rfl : n = fs.length := by omega
        have R := Lib.hid (show St 53 36 wr p (Grow Nothing w wr) ((fs.map fixB).map fl) from by
          have := ST.out
          rw [mix_all] at this
          exact this.wider (fun k h => by have := ST.out.lt k h; rcases h with h | h; exact h.elim; exact .inr ⟨h.1, this⟩) (fun k h => by rcases h with h | h; exact h.elim; exact h.2))
        clear ST d0
        go_wp2_with fail
        go_ret2
        exact ⟨p, rfl, HP.out, R.out, HC'.out⟩

end Go.Proofs.Ytpigcmedkljonab.T6
