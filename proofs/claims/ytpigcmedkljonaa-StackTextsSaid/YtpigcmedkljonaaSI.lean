/- The contracts of a stack's methods over []int. -/
import Derived.Test.YtpigcmedkljonaaStk
namespace Go.Proofs.Ytpigcmedkljonaa.SI
open Go Go.RowKit
set_option linter.unusedVariables false
set_option linter.unusedSimpArgs false

theorem len_any (p : Nat) (F : Nat → Prop) (xs : List Value) (room : Int) (w : World) (h : Stk 57 3 w p F xs room) :
    Calls Try.prog 15 #[.pointer (some ⟨p, 0, none⟩)] w fun e w' => e = .returned (.int .i64 xs.length) ∧ w = w' := by
  obtain ⟨a, c, c0, c1, hr⟩ := h.cells
  clear h
  go_enter Try.func15, Try.ntmps15
  go_wp2
  go_ret
  exact ⟨rfl, rfl⟩

theorem room_any (p : Nat) (F : Nat → Prop) (xs : List Value) (room : Int) (w : World) (h : Stk 57 3 w p F xs room) :
    Calls Try.prog 11 #[.pointer (some ⟨p, 0, none⟩)] w fun e w' => e = .returned (.int .i64 room) ∧ w = w' := by
  obtain ⟨a, c, c0, c1, hr⟩ := h.cells
  clear h
  go_enter Try.func11, Try.ntmps11
  go_wp2
  go_ret
  exact ⟨rfl, rfl⟩

theorem pick_bad (p : Nat) (F : Nat → Prop) (xs : List Value) (room n : Int) (w : World) (h : Stk 57 3 w p F xs room) (hn : n < 0 ∨ (xs.length : Int) ≤ n) :
    Calls Try.prog 17 #[.pointer (some ⟨p, 0, none⟩), .int .i64 n] w fun e w' => e = .returned (.tuple #[.int .i64 0, .int .i64 41]) ∧ ∃ m, w' = w.drewN m := by
  obtain ⟨v, h1, h2, h3, h4, h5, h6, h7, a, c, rfl⟩ := h
  have c0 := blk_cell h1 0
  clear h1 h2 h3 h4 h5
  simp at c0
  by_cases h0 : n < 0
  · clear hn
    have hb : decide (n < 0) = true := by simpa using h0
    go_enter Try.func17, Try.ntmps17
    go_wp2
    go_ret2
    exact ⟨rfl, 0, rfl⟩
  · have hb : decide (n < 0) = false := by simpa using h0
    have hd : decide ((xs.length : Int) ≤ n) = true := by simp; omega
    go_enter Try.func17, Try.ntmps17
    go_wp2
    go_ret2
    exact ⟨rfl, 0, rfl⟩

theorem pick_good (p : Nat) (F : Nat → Prop) (xs : List Value) (room : Int) (k : Nat) (w : World) (h : Stk 57 3 w p F xs room) (x : Value) (hk : k < xs.length) (hx : xs[xs.length - 1 - k]? = some x) :
    Calls Try.prog 17 #[.pointer (some ⟨p, 0, none⟩), .int .i64 k] w fun e w' => e = .returned (.tuple #[x, .int .i64 0]) ∧ ∃ m, w' = w.drewN m := by
  obtain ⟨v, h1, h2, h3, h4, h5, h6, h7, a, c, rfl⟩ := h
  have c0 := blk_cell h1 0
  obtain ⟨g, cap, cur, he, _⟩ : ∃ g cap cur, Value.slice a xs.length c = .slice (some ⟨g, 0, none⟩) xs.length cap ∧ w.heap[g]? = some (.cells cur 3 (0, 0)) := by
    rcases h2.2 with ⟨_, h⟩ | ⟨g, cap, cur, he, _, hh, _⟩
    · omega
    · exact ⟨g, cap, cur, he, hh⟩
  injection he with he1 he2 he3
  subst he1 he3
  have cx := ownsRow_at h2 _ _ hx
  clear h1 h2 h3 h4 h5
  simp at c0
  have h0 : decide ((k : Int) < 0) = false := by simp
  have hd : decide ((xs.length : Int) ≤ k) = false := by simp; omega
  clear hx
  go_enter Try.func17, Try.ntmps17
  go_wp2
  go_quiet (fail)
  go_wp2
  go_ret2
  exact ⟨rfl, _, rfl⟩

theorem clear_any (p : Nat) (F : Nat → Prop) (xs : List Value) (room : Int) (w : World) (h : Stk 57 3 w p F xs room) :
    Calls Try.prog 37 #[.pointer (some ⟨p, 0, none⟩)] w fun e w' => e = .returned (.tuple #[]) ∧ Stk 57 3 w' p F [] room ∧ Chg w w' F := by
  have H := Lib.hid h
  obtain ⟨v, h1, h2, h3, h4, h5, h6, h7, a, c, rfl⟩ := h
  have c0 := blk_cell h1 0
  have f0 := blk_free h1 0
  clear h1 h2 h3 h4 h5
  simp at c0
  go_enter Try.func37, Try.ntmps37
  go_wp2
  go_end0
  exact ⟨rfl, H.out.cleared, H.out.chg0 _⟩

theorem pop_bad (p : Nat) (F : Nat → Prop) (room : Int) (w : World) (h : Stk 57 3 w p F [] room) :
    Calls Try.prog 18 #[.pointer (some ⟨p, 0, none⟩)] w fun e w' => e = .returned (.tuple #[.int .i64 0, .int .i64 41]) ∧ ∃ m, w' = w.drewN m := by
  go_enter Try.func18, Try.ntmps18
  go_wp2_with (go_at_call 17; refine (pick_bad _ _ _ _ _ _ h (.inr (by simp))).mono ?_; rintro e w' ⟨rfl, m, rfl⟩)
  go_ret2
  exact ⟨rfl, m, rfl⟩

theorem pop_good (p : Nat) (F : Nat → Prop) (xs : List Value) (x : Value) (room : Int) (w : World) (h : Stk 57 3 w p F (xs ++ [x]) room) :
    Calls Try.prog 18 #[.pointer (some ⟨p, 0, none⟩)] w fun e w' => e = .returned (.tuple #[x, .int .i64 0]) ∧ Stk 57 3 w' p F xs room ∧ Chg w w' F := by
  have hp := pick_good p F (xs ++ [x]) room 0 w h x (by simp) (by simp)
  have H := Lib.hid h
  obtain ⟨g, c, c0, f0, hc, hl⟩ := h.top
  clear h
  have HP := Lib.hid hp
  clear hp
  have e1 : IntKind.i64.wrap (xs.length : Int) = xs.length := IntWalk.i64_in _ (by omega)
  have e2 : (xs.length : Int) ≤ c := by omega
  go_enter Try.func18, Try.ntmps18
  go_wp2_with (go_at_call 17; refine HP.out.mono ?_; rintro e w' ⟨rfl, m, rfl⟩)
  go_region
  go_wp2
  go_ret2
  exact ⟨rfl, (H.out.drewN _).popped c0, H.out.chg0' _ _⟩

theorem push_full (p : Nat) (F : Nat → Prop) (xs : List Value) (x : Value) (w : World) (h : Stk 57 3 w p F xs xs.length) :
    Calls Try.prog 13 #[.pointer (some ⟨p, 0, none⟩), x] w fun e w' => e = .returned (.int .i64 40) ∧ ∃ m, w' = w.drewN m := by
  obtain ⟨a, c, c0, c1, hr⟩ := h.cells
  clear h
  have hb : ((xs.length : Int) == (xs.length : Int)) = true := by simp
  have hb' : decide ((xs.length : Int) ≤ (xs.length : Int)) = true := by simp
  go_enter Try.func13, Try.ntmps13
  go_wp2
  go_quiet (fail)
  go_wp2
  go_ret
  exact ⟨rfl, _, rfl⟩

theorem push_good (p : Nat) (F : Nat → Prop) (xs : List Value) (room : Int) (x : Int) (w : World) (h : Stk 57 3 w p F xs room) (hl : (xs.length : Int) < room) :
    Calls Try.prog 13 #[.pointer (some ⟨p, 0, none⟩), .int .i64 x] w fun e w' => e = .returned (.int .i64 0) ∧
      Stk 57 3 w' p (Grow F w w') (xs ++ [.int .i64 x]) room ∧ Chg w w' F := by
  have H := Lib.hid h
  obtain ⟨a, c, c0, c1, hr⟩ := h.cells
  have f0 := h.free 0
  have hown := h.owns c0
  have hb : ((xs.length : Int) == room) = false := by simp; omega
  have hb' : decide (room ≤ (xs.length : Int)) = false := by simp; omega
  clear h
  go_enter Try.func13, Try.ntmps13
  go_wp2
  go_quiet (fail)
  go_wp2_with (at_builtin; refine append_one rfl _ _ 28 3 rfl (.int .i64 0) 1 8 Try.underlying28 (by kernel_rfl) rfl (by decide) _ xs.length xs rfl (World.ownsRow.alloc (w := w.drewN nq) hown _) w.heap.size 1 rfl [.int .i64 x] rfl ?c1 ?c2 ?c3 ?c4 ?c5)
  case c1 => intro j u hj; match j, hj with | 0, hj => simp at hj; subst hj; exact blk_cell (heap_alloc_new (w.drewN nq) _) 0
  case c2 => intro u hu; simp at hu; subst hu; rfl
  case c3 => unfold maxLen; omega
  case c4 => omega
  case c5 =>
    intro g cap w2 hown2 hg2 hgg
    have h1 : Chg w ((w.drewN nq).alloc (.cells #[.int .i64 x] 3)) Nothing := ((Chg.refl _ _).drewN nq).alloc _
    obtain ⟨d0, e0⟩ := H.out.blk c0 h1 hg2
    have R := Lib.hid (H.out.pushed hl c0 h1 hg2 hown2 (by simpa using hgg))
    clear h1 hown2 hg2 hgg hown c0 c1 f0
    go_wp2
    go_ret
    exact ⟨rfl, R.out⟩


attribute [local go_sem] max2_int min2_int max_two min_two

theorem new_any (r : Int) (w : World) :
    Calls Try.prog 9 #[.int .i64 r] w fun e w' => ∃ p, e = .returned (.pointer (some ⟨p, 0, none⟩)) ∧ w.heap.size ≤ p ∧ Stk 57 3 w' p (Grow Nothing w w') [] (roomOf r) ∧ Chg w w' Nothing := by
  have R := Lib.hid (roomOf_le r)
  obtain ⟨q, hq⟩ : ∃ q, q = roomOf r := ⟨_, rfl⟩
  have hq' : (if 65536 < (if r < 0 then 0 else r) then 65536 else (if r < 0 then 0 else r)) = q := hq.symm
  have HQ := Lib.hid hq
  clear hq
  go_enter Try.func9, Try.ntmps9
  go_wp2
  all_goals
    go_ret
    exact ⟨_, rfl, Nat.le_refl _, HQ.out ▸ stk_new R.out.1 R.out.2 w q HQ.out, (Chg.refl _ _).alloc _⟩

/-- slices.Clone: a row of its own. -/
theorem clone_nil (n c : Nat) (w : World) : Calls Try.prog 33 #[.slice none n c] w fun e w' => e = .returned (.slice none 0 0) ∧ w = w' := by
  have es := fun w a n c => Lib.run_eql_slice_nil (P := Try.prog) w 28 3 a n c 0 0 Try.underlying28
  go_enter Try.func33, Try.ntmps33
  go_wp2
  go_ret
  exact ⟨rfl, rfl⟩

theorem clone_some (ad : Addr) (c : Nat) (xs : List Value) (w : World) (hc : ∀ j u, xs[j]? = some u → w.cell? (ad.add j) = some u) (h1 : ∀ u ∈ xs, u.oneCell' = true) (hl : xs.length * 8 ≤ 140737488355328) :
    Calls Try.prog 33 #[.slice (some ad) xs.length c] w fun e w' => ∃ a c, e = .returned (.slice a xs.length c) ∧ w'.ownsRow w.heap.size 3 1 (.slice a xs.length c) xs.length xs ∧ Chg w w' Nothing := by
  have es := fun w a n c => Lib.run_eql_slice_nil (P := Try.prog) w 28 3 a n c 0 0 Try.underlying28
  have HC := Lib.hid hc
  have HL := Lib.hid hl
  clear hc hl
  go_enter Try.func33, Try.ntmps33
  go_wp2_with (at_builtin; refine append_any rfl _ _ 28 3 rfl (.int .i64 0) 1 8 Try.underlying28 (by kernel_rfl) rfl (by decide) _ 0 [] rfl (World.ownsRow_made w #[] 0 (Nat.zero_le _) (Nat.zero_le _) rfl) ad xs.length c rfl xs (Nat.mul_one _).symm ?c1 h1 ?c3 ?c4 ?c5)
  case c1 => exact fun j u hu => cell_alloc (HC.out j u hu) _
  case c3 => have := HL.out; unfold maxLen; omega
  case c4 => have := HL.out; omega
  case c5 =>
    intro v w2 hown2 hg2 hgg
    obtain ⟨a', c', rfl⟩ := (ownsRow_shape hown2).1
    (try simp only [Nat.zero_add, List.nil_append] at hown2)
    have R := Lib.hid (show w2.ownsRow w.heap.size 3 1 (.slice a' xs.length c') xs.length xs ∧ Chg w w2 Nothing from
      ⟨ownsRow_rebase hown2 (fun g hg => by rcases hgg g hg with h | h; simp [Value.ownBlock] at h; omega; omega), ((Chg.refl w Nothing).alloc _).grown hg2 (by intro k hk; simp [Value.ownBlock] at hk; left; omega)⟩)
    clear hown2 hg2 hgg es
    go_wp2
    go_ret
    exact ⟨_, _, rfl, R.out⟩

theorem all_any (p : Nat) (F : Nat → Prop) (xs : List Value) (room : Int) (w : World) (h : Stk 57 3 w p F xs room) (h1 : ∀ u ∈ xs, u.oneCell' = true) :
    Calls Try.prog 14 #[.pointer (some ⟨p, 0, none⟩)] w fun e w' => ∃ a c, e = .returned (.slice a xs.length c) ∧ w'.ownsRow w.heap.size 3 1 (.slice a xs.length c) xs.length xs ∧ Chg w w' Nothing := by
  obtain ⟨a, c, c0, c1, hr⟩ := h.cells
  have HO := Lib.hid (h.owns c0)
  have H1 := Lib.hid h1
  clear h h1
  cases a with
  | none =>
    obtain rfl : xs = [] := by
      rcases HO.out.2 with ⟨hv, h0⟩ | ⟨g, cap, cur, hv, _⟩
      · exact List.eq_nil_of_length_eq_zero h0
      · simp at hv
    clear HO H1
    go_enter Try.func14, Try.ntmps14
    go_wp2_with (go_at_call 33; refine (clone_nil _ _ _).mono ?_; rintro e w' ⟨rfl, rfl⟩)
    go_ret
    exact ⟨_, _, rfl, World.ownsRow_nil _ _ _ _, Chg.refl _ _⟩
  | some ad =>
    have hc : ∀ j u, xs[j]? = some u → w.cell? (ad.add j) = some u := by
      rcases HO.out.2 with ⟨hv, h0⟩ | ⟨g, cap, cur, hv, _⟩
      · simp at hv
      · injection hv with hv; cases hv; exact HO.out.cells (g := g) rfl
    have K := Lib.hid (clone_some ad c xs w hc H1.out (by omega))
    clear hc HO H1
    go_enter Try.func14, Try.ntmps14
    go_wp2_with (go_at_call 33; refine K.out.mono ?_; rintro e w' ⟨a', c', rfl, hown, hchg⟩)
    go_ret
    exact ⟨_, _, rfl, hown, hchg⟩

theorem clone_any (p : Nat) (F : Nat → Prop) (xs : List Value) (room : Int) (w : World) (h : Stk 57 3 w p F xs room) (h1 : ∀ u ∈ xs, u.oneCell' = true) :
    Calls Try.prog 19 #[.pointer (some ⟨p, 0, none⟩)] w fun e w' => ∃ q, e = .returned (.pointer (some ⟨q, 0, none⟩)) ∧ w.heap.size ≤ q ∧
      Stk 57 3 w' q (Grow Nothing w w') xs room ∧ Chg w w' Nothing := by
  have H := Lib.hid h
  obtain ⟨a, c, c0, c1, hr⟩ := h.cells
  have H1 := Lib.hid h1
  have hrr := Lib.hid h.fits
  clear h h1 c0
  go_enter Try.func19, Try.ntmps19
  go_wp2_with fail
  go_region_with (go_at_call 14; refine (all_any _ _ _ _ _ (H.out.drewN _) H1.out).mono ?_; rintro e w' ⟨a', c', rfl, hown, hchg⟩; have c1' := hchg.cell c1 id)
  all_goals
    have R := Lib.hid (stk_box (T := 57) (w := w) (b := 1) hown hchg hrr)
    clear hown hchg c1 c1'
    go_wp2
    go_ret
    exact ⟨_, rfl, R.out⟩

theorem push_any (p : Nat) (F : Nat → Prop) (zs : List Int) (room : Int) (x : Int) (w : World) (h : Stk 57 3 w p F (zs.map (Value.int .i64)) room) :
    Calls Try.prog 13 #[.pointer (some ⟨p, 0, none⟩), .int .i64 x] w fun e w' => e = .returned (.int .i64 (pushE zs room)) ∧
      Stk 57 3 w' p (Grow F w w') ((pushL zs room x).map (Value.int .i64)) room ∧ Chg w w' F := by
  by_cases hl : (zs.length : Int) < room
  · refine (push_good p F _ room x w h (by simpa using hl)).mono fun e w' ⟨he, hs, hc⟩ => ⟨?_, ?_, hc⟩
    · rw [he, pushE, if_pos hl]
    · rw [pushL, if_pos hl, List.map_append]; exact hs
  · have hr := h.fits
    obtain rfl : room = ((zs.map (Value.int .i64)).length : Nat) := by simp at hr ⊢; omega
    refine (push_full p F _ _ w h).mono fun e w' ⟨he, m, hw⟩ => ?_
    subst hw
    refine ⟨?_, ?_, Chg.drawn _ _ _⟩
    · rw [he, pushE, if_neg hl]
    · rw [pushL, if_neg hl]; exact (h.drewN m).grow

theorem pop_any (p : Nat) (F : Nat → Prop) (zs : List Int) (room : Int) (w : World) (h : Stk 57 3 w p F (zs.map (Value.int .i64)) room) :
    Calls Try.prog 18 #[.pointer (some ⟨p, 0, none⟩)] w fun e w' => e = .returned (.tuple #[(Value.int .i64) (popV 0 zs), .int .i64 (popE zs)]) ∧
      Stk 57 3 w' p F (zs.dropLast.map (Value.int .i64)) room ∧ Chg w w' F := by
  rcases List.eq_nil_or_concat zs with rfl | ⟨ys, y, rfl⟩
  · refine (pop_bad p F room w h).mono fun e w' ⟨he, m, hw⟩ => ?_
    subst hw
    exact ⟨he, h.drewN m, Chg.drawn _ _ _⟩
  · simp only [List.concat_eq_append] at h ⊢
    refine (pop_good p F (ys.map (Value.int .i64)) ((Value.int .i64) y) room w (by simpa using h)).mono fun e w' ⟨he, hs, hc⟩ => ⟨?_, ?_, hc⟩
    · rw [he]; simp [popE, popV]
    · simpa using hs

theorem pick_any (p : Nat) (F : Nat → Prop) (zs : List Int) (room n : Int) (w : World) (h : Stk 57 3 w p F (zs.map (Value.int .i64)) room) :
    Calls Try.prog 17 #[.pointer (some ⟨p, 0, none⟩), .int .i64 n] w fun e w' => e = .returned (.tuple #[(Value.int .i64) (pickV 0 zs n), .int .i64 (pickE zs n)]) ∧ ∃ m, w' = w.drewN m := by
  by_cases hn : 0 ≤ n ∧ n < zs.length
  · obtain ⟨k, rfl⟩ : ∃ k : Nat, n = k := ⟨n.toNat, by omega⟩
    have hk : k < zs.length := by omega
    refine (pick_good p F _ room k w h ((Value.int .i64) (zs.getD (zs.length - 1 - k) 0)) (by simpa using hk) ?_).mono fun e w' ⟨he, hw⟩ => ⟨?_, hw⟩
    · have : zs.length - 1 - k < zs.length := by omega
      simp [this]
    · rw [he, pickV, pickE, if_pos hn, if_pos hn, Int.toNat_natCast]
  · refine (pick_bad p F _ room n w h (by simp; omega)).mono fun e w' ⟨he, hw⟩ => ⟨?_, hw⟩
    rw [he, pickV, pickE, if_neg hn, if_neg hn]

end Go.Proofs.Ytpigcmedkljonaa.SI
