/- The contracts of a stack's methods over []int. -/
import Derived.Test.YtpigcmedkljonaaStk
namespace Go.Proofs.Ytpigcmedkljonaa.SR
open Go Go.RowKit
set_option linter.unusedVariables false
set_option linter.unusedSimpArgs false

theorem len_any (p : Nat) (F : Nat → Prop) (xs : List Value) (room : Int) (w : World) (h : Stk 60 3 w p F xs room) :
    Calls Try.prog 24 #[.pointer (some ⟨p, 0, none⟩)] w fun e w' => e = .returned (.int .i64 xs.length) ∧ w = w' := by
  obtain ⟨a, c, c0, c1, hr⟩ := h.cells
  clear h
  go_enter Try.func24, Try.ntmps24
  go_wp2
  go_ret
  exact ⟨rfl, rfl⟩

theorem room_any (p : Nat) (F : Nat → Prop) (xs : List Value) (room : Int) (w : World) (h : Stk 60 3 w p F xs room) :
    Calls Try.prog 25 #[.pointer (some ⟨p, 0, none⟩)] w fun e w' => e = .returned (.int .i64 room) ∧ w = w' := by
  obtain ⟨a, c, c0, c1, hr⟩ := h.cells
  clear h
  go_enter Try.func25, Try.ntmps25
  go_wp2
  go_ret
  exact ⟨rfl, rfl⟩

theorem pick_bad (p : Nat) (F : Nat → Prop) (xs : List Value) (room n : Int) (w : World) (h : Stk 60 3 w p F xs room) (hn : n < 0 ∨ (xs.length : Int) ≤ n) :
    Calls Try.prog 36 #[.pointer (some ⟨p, 0, none⟩), .int .i64 n] w fun e w' => e = .returned (.tuple #[.int .i64 0, .int .i64 41]) ∧ ∃ m, w' = w.drewN m := by
  obtain ⟨v, h1, h2, h3, h4, h5, h6, h7, a, c, rfl⟩ := h
  have c0 := blk_cell h1 0
  clear h1 h2 h3 h4 h5
  simp at c0
  by_cases h0 : n < 0
  · clear hn
    have hb : decide (n < 0) = true := by simpa using h0
    go_enter Try.func36, Try.ntmps36
    go_wp2
    go_ret2
    exact ⟨rfl, 0, rfl⟩
  · have hb : decide (n < 0) = false := by simpa using h0
    have hd : decide ((xs.length : Int) ≤ n) = true := by simp; omega
    go_enter Try.func36, Try.ntmps36
    go_wp2
    go_ret2
    exact ⟨rfl, 0, rfl⟩

theorem pick_good (p : Nat) (F : Nat → Prop) (xs : List Value) (room : Int) (k : Nat) (w : World) (h : Stk 60 3 w p F xs room) (x : Value) (hk : k < xs.length) (hx : xs[xs.length - 1 - k]? = some x) :
    Calls Try.prog 36 #[.pointer (some ⟨p, 0, none⟩), .int .i64 k] w fun e w' => e = .returned (.tuple #[x, .int .i64 0]) ∧ ∃ m, w' = w.drewN m := by
  obtain ⟨v, h1, h2, h3, h4, h5, h6, h7, a, c, rfl⟩ := h
  have c0 := blk_cell h1 0
  obtain ⟨g, cap, cur, he, _⟩ : ∃ g cap cur, Value.slice a xs.length c = .slice (some ⟨g, 0, none⟩) xs.length cap ∧ w.heap[g]? = some (.cells cur 3 (0, 0)) := by
    rcases h2.2 with ⟨_, h⟩ | ⟨g, cap, cur, he, _, hh, _⟩
    · omega
    · exact ⟨g, cap, cur, he, hh⟩
  injection he with he1 he2 he3
  subst he1 he3
  have cx := ownsRow_at h2 _ _ hx
  clear h1 h2 h3 h4 h5
  simp at c0
  have h0 : decide ((k : Int) < 0) = false := by simp
  have hd : decide ((xs.length : Int) ≤ k) = false := by simp; omega
  clear hx
  go_enter Try.func36, Try.ntmps36
  go_wp2
  go_quiet (fail)
  go_wp2
  go_ret2
  exact ⟨rfl, _, rfl⟩

theorem clear_any (p : Nat) (F : Nat → Prop) (xs : List Value) (room : Int) (w : World) (h : Stk 60 3 w p F xs room) :
    Calls Try.prog 38 #[.pointer (some ⟨p, 0, none⟩)] w fun e w' => e = .returned (.tuple #[]) ∧ Stk 60 3 w' p F [] room ∧ Chg w w' F := by
  have H := Lib.hid h
  obtain ⟨v, h1, h2, h3, h4, h5, h6, h7, a, c, rfl⟩ := h
  have c0 := blk_cell h1 0
  have f0 := blk_free h1 0
  clear h1 h2 h3 h4 h5
  simp at c0
  go_enter Try.func38, Try.ntmps38
  go_wp2
  go_end0
  exact ⟨rfl, H.out.cleared, H.out.chg0 _⟩

theorem pop_bad (p : Nat) (F : Nat → Prop) (room : Int) (w : World) (h : Stk 60 3 w p F [] room) :
    Calls Try.prog 35 #[.pointer (some ⟨p, 0, none⟩)] w fun e w' => e = .returned (.tuple #[.int .i64 0, .int .i64 41]) ∧ ∃ m, w' = w.drewN m := by
  go_enter Try.func35, Try.ntmps35
  go_wp2_with (go_at_call 36; refine (pick_bad _ _ _ _ _ _ h (.inr (by simp))).mono ?_; rintro e w' ⟨rfl, m, rfl⟩)
  go_ret2
  exact ⟨rfl, m, rfl⟩

theorem pop_good (p : Nat) (F : Nat → Prop) (xs : List Value) (x : Value) (room : Int) (w : World) (h : Stk 60 3 w p F (xs ++ [x]) room) :
    Calls Try.prog 35 #[.pointer (some ⟨p, 0, none⟩)] w fun e w' => e = .returned (.tuple #[x, .int .i64 0]) ∧ Stk 60 3 w' p F xs room ∧ Chg w w' F := by
  have hp := pick_good p F (xs ++ [x]) room 0 w h x (by simp) (by simp)
  have H := Lib.hid h
  obtain ⟨g, c, c0, f0, hc, hl⟩ := h.top
  clear h
  have HP := Lib.hid hp
  clear hp
  have e1 : IntKind.i64.wrap (xs.length : Int) = xs.length := IntWalk.i64_in _ (by omega)
  have e2 : (xs.length : Int) ≤ c := by omega
  go_enter Try.func35, Try.ntmps35
  go_wp2_with (go_at_call 36; refine HP.out.mono ?_; rintro e w' ⟨rfl, m, rfl⟩)
  go_region
  go_wp2
  go_ret2
  exact ⟨rfl, (H.out.drewN _).popped c0, H.out.chg0' _ _⟩

theorem push_full (p : Nat) (F : Nat → Prop) (xs : List Value) (x : Value) (w : World) (h : Stk 60 3 w p F xs xs.length) :
    Calls Try.prog 34 #[.pointer (some ⟨p, 0, none⟩), x] w fun e w' => e = .returned (.int .i64 40) ∧ ∃ m, w' = w.drewN m := by
  obtain ⟨a, c, c0, c1, hr⟩ := h.cells
  clear h
  have hb : ((xs.length : Int) == (xs.length : Int)) = true := by simp
  have hb' : decide ((xs.length : Int) ≤ (xs.length : Int)) = true := by simp
  go_enter Try.func34, Try.ntmps34
  go_wp2
  go_quiet (fail)
  go_wp2
  go_ret
  exact ⟨rfl, _, rfl⟩

theorem push_good (p : Nat) (F : Nat → Prop) (xs : List Value) (room : Int) (x : Int) (w : World) (h : Stk 60 3 w p F xs room) (hl : (xs.length : Int) < room) :
    Calls Try.prog 34 #[.pointer (some ⟨p, 0, none⟩), .int .i64 x] w fun e w' => e = .returned (.int .i64 0) ∧
      Stk 60 3 w' p (Grow F w w') (xs ++ [.int .i64 x]) room ∧ Chg w w' F := by
  have H := Lib.hid h
  obtain ⟨a, c, c0, c1, hr⟩ := h.cells
  have f0 := h.free 0
  have hown := h.owns c0
  have hb : ((xs.length : Int) == room) = false := by simp; omega
  have hb' : decide (room ≤ (xs.length : Int)) = false := by simp; omega
  clear h
  go_enter Try.func34, Try.ntmps34
  go_wp2
  go_quiet (fail)
  go_wp2_with (at_builtin; refine append_one rfl _ _ 28 3 rfl (.int .i64 0) 1 8 Try.underlying28 (by kernel_rfl) rfl (by decide) _ xs.length xs rfl (World.ownsRow.alloc (w := w.drewN nq) hown _) w.heap.size 1 rfl [.int .i64 x] rfl ?c1 ?c2 ?c3 ?c4 ?c5)
  case c1 => intro j u hj; match j, hj with | 0, hj => simp at hj; subst hj; exact blk_cell (heap_alloc_new (w.drewN nq) _) 0
  case c2 => intro u hu; simp at hu; subst hu; rfl
  case c3 => unfold maxLen; omega
  case c4 => omega
  case c5 =>
    intro g cap w2 hown2 hg2 hgg
    have h1 : Chg w ((w.drewN nq).alloc (.cells #[.int .i64 x] 3)) Nothing := ((Chg.refl _ _).drewN nq).alloc _
    obtain ⟨d0, e0⟩ := H.out.blk c0 h1 hg2
    have R := Lib.hid (H.out.pushed hl c0 h1 hg2 hown2 (by simpa using hgg))
    clear h1 hown2 hg2 hgg hown c0 c1 f0
    go_wp2
    go_ret
    exact ⟨rfl, R.out⟩


theorem new_any (r : Int) (w : World) :
    Calls Try.prog 20 #[.int .i64 r] w fun e w' => ∃ p, e = .returned (.pointer (some ⟨p, 0, none⟩)) ∧ w.heap.size ≤ p ∧ Stk 60 3 w' p (Grow Nothing w w') [] (roomOf r) ∧ Chg w w' Nothing := by
  have R := Lib.hid (roomOf_le r)
  by_cases h0 : r < 0
  · have HQ := Lib.hid (show (0 : Int) = roomOf r by unfold roomOf; rw [if_pos h0]; simp)
    have hb : decide (r < 0) = true := by simpa using h0
    go_enter Try.func20, Try.ntmps20
    go_wp2
    go_ret
    exact ⟨_, rfl, Nat.le_refl _, HQ.out ▸ stk_new R.out.1 R.out.2 w 0 HQ.out, (Chg.refl _ _).alloc _⟩
  · have hb : decide (r < 0) = false := by simpa using h0
    by_cases h1 : 65536 < r
    · have HQ := Lib.hid (show (65536 : Int) = roomOf r by unfold roomOf; rw [if_neg h0, if_pos h1])
      have hb1 : decide (65536 < r) = true := by simpa using h1
      go_enter Try.func20, Try.ntmps20
      go_wp2
      go_ret
      exact ⟨_, rfl, Nat.le_refl _, HQ.out ▸ stk_new R.out.1 R.out.2 w 65536 HQ.out, (Chg.refl _ _).alloc _⟩
    · have HQ := Lib.hid (show r = roomOf r by unfold roomOf; rw [if_neg h0, if_neg h1])
      have hb1 : decide (65536 < r) = false := by simpa using h1
      go_enter Try.func20, Try.ntmps20
      go_wp2
      go_ret
      exact ⟨_, rfl, Nat.le_refl _, (show Stk _ _ _ _ _ _ (roomOf r) from HQ.out ▸ stk_new R.out.1 R.out.2 w r HQ.out), (Chg.refl _ _).alloc _⟩

theorem all_any (p : Nat) (F : Nat → Prop) (xs : List Value) (room : Int) (w : World) (h : Stk 60 3 w p F xs room) (h1 : ∀ u ∈ xs, ∃ z, u = .int .i64 z) :
    Calls Try.prog 23 #[.pointer (some ⟨p, 0, none⟩)] w fun e w' => ∃ a c, e = .returned (.slice a xs.length c) ∧ w'.ownsRow w.heap.size 3 1 (.slice a xs.length c) xs.length xs ∧ Chg w w' Nothing := by
  have H := Lib.hid h
  obtain ⟨a, c, c0, c1, hr⟩ := h.cells
  have H1 := Lib.hid h1
  clear h h1 c1
  go_enter Try.func23, Try.ntmps23
  go_wp2
  go_loopg [3, 4] xs.length (fun k v i wr => ∃ n : Nat, n + k = xs.length ∧ i = .int .i64 n ∧ wr.ownsRow w.heap.size 3 1 v n (xs.take n) ∧ Chg w wr Nothing)
  case atStart => exact ⟨0, by simp, rfl, World.ownsRow_nil _ _ _ _, Chg.refl _ _⟩
  case round =>
    obtain ⟨n, hn, rfl, hown, hchg⟩ := hrel
    have d0 := hchg.cell c0 id
    by_cases hlt : n < xs.length
    · have hb : decide (n < xs.length) = true := by simpa using hlt
      obtain ⟨g, rfl⟩ : ∃ g, a = some ⟨g, 0, none⟩ := by
        rcases (H.out.owns c0).2 with ⟨_, h⟩ | ⟨g, cap, cur, he, _⟩
        · omega
        · injection he with he; exact ⟨g, he⟩
      obtain ⟨z, hz⟩ := H1.out xs[n] (List.getElem_mem _)
      have hx : xs[n]? = some (.int .i64 z) := by rw [List.getElem?_eq_getElem hlt, hz]
      have cx := hchg.cell (ownsRow_at (H.out.owns c0) n _ hx) id
      have TK := Lib.hid (show xs.take n ++ [.int .i64 z] = xs.take (n + 1) by rw [List.take_succ_eq_append_getElem hlt, hz])
      clear hx hz
      have HCHG := Lib.hid hchg
      clear hchg
      go_wp2_with (at_builtin; refine append_one rfl _ _ 28 3 rfl (.int .i64 0) 1 8 Try.underlying28 (by kernel_rfl) rfl (by decide) _ n (xs.take n) rfl (ownsRow_base (hown.alloc _) (Nat.zero_le _)) wr.heap.size 1 rfl [.int .i64 z] rfl ?c1 ?c2 ?c3 ?c4 ?c5)
      case c1 => intro j u hj; match j, hj with | 0, hj => simp at hj; subst hj; exact blk_cell (heap_alloc_new wr _) 0
      case c2 => intro u hu; simp at hu; subst hu; rfl
      case c3 => unfold maxLen; omega
      case c4 => omega
      case c5 =>
        intro g' cap w2 hown2 hg2 hgg
        have R := Lib.hid (own_more (n := n) (xs := xs) (w := w) hown2 TK.out hown HCHG.out hg2 (fun k hk => by simp [Value.ownBlock] at hk; subst hk; exact hgg))
        clear hown2 hg2 hgg hown cx d0
        go_wp2
        go_roundg (gk - 1)
        case measure => omega
        case rel => exact ⟨n + 1, by omega, by go_num, R.out⟩
    · have hb : decide (n < xs.length) = false := by simpa using hlt
      obtain rfl : n = xs.length := by omega
      obtain ⟨⟨a', c', rfl⟩, _⟩ := ownsRow_shape hown
      rw [List.take_length] at hown
      have HO := Lib.hid hown
      clear hown
      go_wp2
      go_ret
      exact ⟨_, _, rfl, HO.out, hchg⟩

theorem push_any (p : Nat) (F : Nat → Prop) (zs : List Int) (room : Int) (x : Int) (w : World) (h : Stk 60 3 w p F (zs.map (Value.int .i64)) room) :
    Calls Try.prog 34 #[.pointer (some ⟨p, 0, none⟩), .int .i64 x] w fun e w' => e = .returned (.int .i64 (pushE zs room)) ∧
      Stk 60 3 w' p (Grow F w w') ((pushL zs room x).map (Value.int .i64)) room ∧ Chg w w' F := by
  by_cases hl : (zs.length : Int) < room
  · refine (push_good p F _ room x w h (by simpa using hl)).mono fun e w' ⟨he, hs, hc⟩ => ⟨?_, ?_, hc⟩
    · rw [he, pushE, if_pos hl]
    · rw [pushL, if_pos hl, List.map_append]; exact hs
  · have hr := h.fits
    obtain rfl : room = ((zs.map (Value.int .i64)).length : Nat) := by simp at hr ⊢; omega
    refine (push_full p F _ _ w h).mono fun e w' ⟨he, m, hw⟩ => ?_
    subst hw
    refine ⟨?_, ?_, Chg.drawn _ _ _⟩
    · rw [he, pushE, if_neg hl]
    · rw [pushL, if_neg hl]; exact (h.drewN m).grow

theorem pop_any (p : Nat) (F : Nat → Prop) (zs : List Int) (room : Int) (w : World) (h : Stk 60 3 w p F (zs.map (Value.int .i64)) room) :
    Calls Try.prog 35 #[.pointer (some ⟨p, 0, none⟩)] w fun e w' => e = .returned (.tuple #[(Value.int .i64) (popV 0 zs), .int .i64 (popE zs)]) ∧
      Stk 60 3 w' p F (zs.dropLast.map (Value.int .i64)) room ∧ Chg w w' F := by
  rcases List.eq_nil_or_concat zs with rfl | ⟨ys, y, rfl⟩
  · refine (pop_bad p F room w h).mono fun e w' ⟨he, m, hw⟩ => ?_
    subst hw
    exact ⟨he, h.drewN m, Chg.drawn _ _ _⟩
  · simp only [List.concat_eq_append] at h ⊢
    refine (pop_good p F (ys.map (Value.int .i64)) ((Value.int .i64) y) room w (by simpa using h)).mono fun e w' ⟨he, hs, hc⟩ => ⟨?_, ?_, hc⟩
    · rw [he]; simp [popE, popV]
    · simpa using hs

theorem pick_any (p : Nat) (F : Nat → Prop) (zs : List Int) (room n : Int) (w : World) (h : Stk 60 3 w p F (zs.map (Value.int .i64)) room) :
    Calls Try.prog 36 #[.pointer (some ⟨p, 0, none⟩), .int .i64 n] w fun e w' => e = .returned (.tuple #[(Value.int .i64) (pickV 0 zs n), .int .i64 (pickE zs n)]) ∧ ∃ m, w' = w.drewN m := by
  by_cases hn : 0 ≤ n ∧ n < zs.length
  · obtain ⟨k, rfl⟩ : ∃ k : Nat, n = k := ⟨n.toNat, by omega⟩
    have hk : k < zs.length := by omega
    refine (pick_good p F _ room k w h ((Value.int .i64) (zs.getD (zs.length - 1 - k) 0)) (by simpa using hk) ?_).mono fun e w' ⟨he, hw⟩ => ⟨?_, hw⟩
    · have : zs.length - 1 - k < zs.length := by omega
      simp [this]
    · rw [he, pickV, pickE, if_pos hn, if_pos hn, Int.toNat_natCast]
  · refine (pick_bad p F _ room n w h (by simp; omega)).mono fun e w' ⟨he, hw⟩ => ⟨?_, hw⟩
    rw [he, pickV, pickE, if_neg hn, if_neg hn]

end Go.Proofs.Ytpigcmedkljonaa.SR
