/- StackPlays: the walk. -/
import Derived.Test.YtpigcmedkljonaaLawB
namespace Go.Proofs.Ytpigcmedkljonaa
open Go Go.RowKit
set_option linter.unusedVariables false
set_option linter.unusedSimpArgs false

theorem step_any (p r : Nat) (F G : Nat → Prop) (zs : List Int) (room k n : Int) (s : ByteArray) (w : World) (h : Two w p r F G zs room) :
    Calls Try.prog 22 #[.pointer (some ⟨p, 0, none⟩), .pointer (some ⟨r, 0, none⟩), .agg #[.int .i64 k, .int .i64 n, .string s]] w fun e w' => e = .returned (.bool true) ∧ After w w' p r F G room := by
  by_cases h1 : k = 1
  · subst h1; exact step_push p r F G zs room n s w h
  by_cases h2 : k = 2
  · subst h2; exact step_pop p r F G zs room n s w h
  by_cases h3 : k = 3
  · subst h3; exact step_pick p r F G zs room n s w h
  by_cases h4 : k = 4
  · subst h4; exact step_all p r F G zs room n s w h
  by_cases h5 : k = 5
  · subst h5; exact step_clear p r F G zs room n s w h
  exact step_other p r F G zs room k n s w h h1 h2 h3 h4 h5

/-- A script that lies in memory. -/
def Script (w : World) (a : Option Addr) (l : List (Int × Int × ByteArray)) : Prop :=
  ∀ i x, l[i]? = some x → ∃ b o, a = some ⟨b, o, none⟩ ∧ w.cell? ⟨b, o + i * 3, none⟩ = some (.int .i64 x.1) ∧ w.cell? ⟨b, o + i * 3 + 1, none⟩ = some (.int .i64 x.2.1) ∧ w.cell? ⟨b, o + i * 3 + 2, none⟩ = some (.string x.2.2)

/-- What holds at the head of each round: both stacks lie in what the call has made. -/
def Inv (w wr : World) (p r : Nat) (room : Int) : Prop :=
  ∃ F G zs, Two wr p r F G zs room ∧ (∀ k, F k → w.heap.size ≤ k) ∧ (∀ k, G k → w.heap.size ≤ k) ∧ Chg w wr Nothing

theorem Inv.after {w wr w' : World} {p r : Nat} {F G : Nat → Prop} {zs : List Int} {room : Int} (hF : ∀ k, F k → w.heap.size ≤ k) (hG : ∀ k, G k → w.heap.size ≤ k) (hC : Chg w wr Nothing) (ha : After wr w' p r F G room) : Inv w w' p r room := by
  obtain ⟨F', G', zs', h1, h2, h3, h4⟩ := ha
  have := hC.size
  refine ⟨F', G', zs', h1, fun k hk => ?_, fun k hk => ?_, hC.trans h2 (fun k hk h => ?_)⟩
  · rcases h3 k hk with h | h; exact hF k h; omega
  · rcases h4 k hk with h | h; exact hG k h; omega
  · rcases h with h | h; have := hF k h; omega; have := hG k h; omega

/-- A clone goes on, the one that was left has been changed. -/
theorem Two.cloned {wr w5 w6 : World} {p r q : Nat} {F G : Nat → Prop} {zs : List Int} {room : Int} {o : Obj} (h : Two wr p r F G zs room) (h5 : Stk 57 3 w5 q (Grow Nothing (wr.alloc o) w5) (zs.map (Value.int .i64)) room)
    (c5 : Chg (wr.alloc o) w5 Nothing) (c6 : Chg w5 w6 F) : Two w6 q r (Grow Nothing (wr.alloc o) w5) G zs room := by
  have e1 := h.s.lt
  have e2 := h.r.lt
  have e3 : (wr.alloc o).heap.size = wr.heap.size + 1 := by simp
  refine ⟨h5.chg c6 ?_, ((h.boxed o).r.chg c5 (fun _ _ h => h)).chg c6 (fun k hk hf => h.d k hf hk), ?_⟩
  · intro k hk hf; rcases hk with hk | hk; exact hk; have := e1 k hf; omega
  · intro k hk hg; rcases hk with hk | hk; exact hk; have := e2 k hg; omega

/-- A clone was changed and left. -/
theorem Two.leave {wr w5 w6 : World} {p r : Nat} {F G : Nat → Prop} {zs : List Int} {room : Int} {o : Obj} (h : Two wr p r F G zs room)
    (c5 : Chg (wr.alloc o) w5 Nothing) (c6 : Chg w5 w6 (Grow Nothing (wr.alloc o) w5)) : Two w6 p r F G zs room ∧ Chg wr w6 Nothing := by
  have e3 : (wr.alloc o).heap.size = wr.heap.size + 1 := by simp
  have hc : Chg wr w6 Nothing := (((Chg.refl _ _).alloc o).trans c5 (fun _ _ h => h)).trans c6 (fun k hk h => by rcases h with h | h; exact h; omega)
  exact ⟨h.chg hc, hc⟩

theorem plays_walk (room : Int) (a : Option Addr) (c : Nat) (l : List (Int × Int × ByteArray)) (w : World) (hs : Script w a l) (hl : l.length ≤ 9223372036854775807) :
    Calls Try.prog 6 #[.int .i64 room, .slice a l.length c] w fun e w' => e = .returned (.bool true) ∧ Chg w w' Nothing := by
  have HS := Lib.hid hs
  clear hs
  go_enter Try.func6, Try.ntmps6
  go_wp2_with fail
  refine (live_any _).mono ?_
  rintro e w1 ⟨rfl, c1⟩
  go_wp2_with fail
  refine (SI.new_any room _).mono ?_
  rintro e w2 ⟨p, rfl, hp, s2, c2⟩
  go_wp2_with fail
  refine (SR.new_any room _).mono ?_
  rintro e w3 ⟨r, rfl, hr, s3, c3⟩
  have HT := Lib.hid (show Two w3 p r (Grow Nothing w1 w2) (Grow Nothing w2 w3) [] (roomOf room) from
    ⟨s2.chg c3 (fun _ _ h => h), s3, fun k h h' => by rcases h with h | h <;> rcases h' with h' | h' <;> first | exact h | exact h' | omega⟩)
  have HC := Lib.hid (show Chg w w3 Nothing from (c1.trans c2 (fun _ _ h => h)).trans c3 (fun _ _ h => h))
  have HI := Lib.hid (show Inv w w3 p r (roomOf room) from by
    have := c1.size; have := c2.size
    exact ⟨_, _, [], HT.out, fun k h => by rcases h with h | h; exact h.elim; omega, fun k h => by rcases h with h | h; exact h.elim; omega, HC.out⟩)
  clear s2 s3 c1 c2 c3 hp hr HT HC
  go_wp2_with fail
  go_loopg [6, 23] l.length (fun k s i wr => ∃ n p, n + k = l.length ∧ i = .int .i64 (n : Nat) ∧ s = .pointer (some ⟨p, 0, none⟩) ∧ Inv w wr p r (roomOf room))
  case atStart => exact ⟨0, p, by simp, rfl, rfl, HI.out⟩
  case round =>
    clear HI
    obtain ⟨n, p, hn, rfl, rfl, F, G, zs, ht, hF, hG, hc⟩ := hrel
    have HT := Lib.hid ht
    have HF := Lib.hid hF
    have HG := Lib.hid hG
    have HC := Lib.hid hc
    clear ht hF hG hc
    by_cases hlt : n < l.length
    · have hd : decide (n < l.length) = true := by simpa using hlt
      obtain ⟨kd, m, s, hx⟩ : ∃ kd m s, l[n] = (kd, m, s) := ⟨_, _, _, rfl⟩
      obtain ⟨b, o, rfl, k0, k1, k2⟩ := HS.out n _ (List.getElem?_eq_getElem hlt)
      rw [hx] at k0 k1 k2
      have k0 := HC.out.cell k0 id
      have k1 := HC.out.cell k1 id
      have k2 := HC.out.cell k2 id
      clear hx
      have hone := ints_one zs
      have HO := Lib.hid hone
      clear hone
      by_cases h6 : kd = 6
      · subst h6
        go_wp2_with fail
        refine (SI.clone_any p F _ (roomOf room) _ (HT.out.boxed _).s HO.out).mono ?_
        rintro e w5 ⟨q, rfl, hq, s5, c5⟩
        have p5 := (HT.out.boxed _).s.chg c5 (fun _ _ h => h)
        have P5 := Lib.hid p5
        clear p5
        go_wp2_with fail
        refine (stir_any p F zs (roomOf room) w5 P5.out).mono ?_
        rintro e w6 ⟨rfl, c6⟩
        have d0 := c6.cell (box_cell 0 c5 (F := Nothing) (fun _ h => h.elim) rfl) (fun h => Nat.lt_irrefl _ (HT.out.s.lt _ h))
        have d1 := c6.cell (box_cell 1 c5 (F := Nothing) (fun _ h => h.elim) rfl) (fun h => Nat.lt_irrefl _ (HT.out.s.lt _ h))
        have d2 := c6.cell (box_cell 2 c5 (F := Nothing) (fun _ h => h.elim) rfl) (fun h => Nat.lt_irrefl _ (HT.out.s.lt _ h))
        have T6 := Lib.hid (HT.out.cloned s5 c5 c6)
        have C6 := Lib.hid (show Chg w w6 Nothing from ((HC.out.alloc _).trans c5 (fun _ _ h => h)).trans c6 (fun k hk h => by have := HF.out k h; omega))
        have F6 := Lib.hid (show ∀ k, Grow Nothing (wr.alloc (.cells #[.int .i64 6, .int .i64 m, .string s] 42)) w5 k → w.heap.size ≤ k from fun k h => by
          have := HC.out.size
          rcases h with h | h
          · exact h.elim
          · simp at h; omega)
        clear s5 c5 c6 hq k0 k1 k2 P5
        go_wp2_with fail
        refine (step_any q r _ G zs (roomOf room) 6 m s w6 T6.out).mono ?_
        rintro e w7 ⟨rfl, a7⟩
        have I7 := Lib.hid (Inv.after (zs := zs) F6.out HG.out C6.out a7)
        clear a7 d0 d1 d2
        go_wp2_with fail
        go_roundg (gk - 1)
        case measure => omega
        case rel => exact ⟨n + 1, q, by omega, by go_num, rfl, I7.out⟩
      have b6 : (kd == 6) = false := by simpa using h6
      by_cases h7 : kd = 7
      · subst h7
        go_wp2_with fail
        refine (SI.clone_any p F _ (roomOf room) _ (HT.out.boxed _).s HO.out).mono ?_
        rintro e w5 ⟨q, rfl, hq, s5, c5⟩
        go_wp2_with fail
        refine (stir_any q _ zs (roomOf room) w5 s5).mono ?_
        rintro e w6 ⟨rfl, c6⟩
        have hg : ¬ Grow Nothing (wr.alloc (.cells #[.int .i64 7, .int .i64 m, .string s] 42)) w5 wr.heap.size := fun h => by
          rcases h with h | h
          · exact h.elim
          · simp at h; omega
        have d0 := c6.cell (box_cell 0 c5 (F := Nothing) (fun _ h => h.elim) rfl) hg
        have d1 := c6.cell (box_cell 1 c5 (F := Nothing) (fun _ h => h.elim) rfl) hg
        have d2 := c6.cell (box_cell 2 c5 (F := Nothing) (fun _ h => h.elim) rfl) hg
        have T6 := Lib.hid (HT.out.leave c5 c6)
        have C6 := Lib.hid (HC.out.trans T6.out.2 (fun _ _ h => h))
        clear s5 c5 c6 hq k0 k1 k2 hg
        go_wp2_with fail
        refine (step_any p r F G zs (roomOf room) 7 m s w6 T6.out.1).mono ?_
        rintro e w7 ⟨rfl, a7⟩
        have I7 := Lib.hid (Inv.after (zs := zs) HF.out HG.out C6.out a7)
        clear a7 d0 d1 d2
        go_wp2_with fail
        go_roundg (gk - 1)
        case measure => omega
        case rel => exact ⟨n + 1, p, by omega, by go_num, rfl, I7.out⟩
      have b7 : (kd == 7) = false := by simpa using h7
      clear h6 h7
      go_wp2_with fail
      refine (step_any p r F G zs (roomOf room) kd m s _ (HT.out.boxed _)).mono ?_
      rintro e w7 ⟨rfl, a7⟩
      have I7 := Lib.hid (Inv.after (zs := zs) HF.out HG.out HC.out a7.boxed)
      clear a7 k0 k1 k2
      go_wp2_with fail
      go_roundg (gk - 1)
      case measure => omega
      case rel => exact ⟨n + 1, p, by omega, by go_num, rfl, I7.out⟩
    · have hd : decide (n < l.length) = false := by simpa using hlt
      have hl := Lib.hid HT.out.s.fits
      go_wp2_with fail
      refine (SR.all_any r G _ _ _ HT.out.r (by intro u hu; obtain ⟨z, _, rfl⟩ := List.mem_map.1 hu; exact ⟨z, rfl⟩)).mono ?_
      rintro e w1 ⟨a1, k1, rfl, o1, c1⟩
      have T1 := Lib.hid (HT.out.chg c1)
      go_wp2_with fail
      refine (SI.len_any p F _ _ _ T1.out.s).mono ?_
      rintro e w2 ⟨rfl, rfl⟩
      go_wp2_with fail
      refine (SR.len_any r G _ _ _ T1.out.r).mono ?_
      rintro e w2 ⟨rfl, rfl⟩
      go_wp2_with fail
      refine (SI.room_any p F _ _ _ T1.out.s).mono ?_
      rintro e w2 ⟨rfl, rfl⟩
      go_wp2_with fail
      refine (SR.room_any r G _ _ _ T1.out.r).mono ?_
      rintro e w2 ⟨rfl, rfl⟩
      have hq : (roomOf room == roomOf room) = true := by simp
      go_wp2_with fail
      refine (SI.all_any p F _ _ _ T1.out.s (ints_one zs)).mono ?_
      rintro e w2 ⟨a2, k2, rfl, o2, c2⟩
      have S1 := Lib.hid ((Sees.of_owns o1).chg c2)
      have S2 := Lib.hid (Sees.of_owns o2)
      have R := Lib.hid (show Chg w w2 Nothing from (HC.out.trans c1 (fun _ _ h => h)).trans c2 (fun _ _ h => h))
      clear o1 o2 c1 c2
      go_wp2_with fail
      refine (same_true a2 a1 k2 k1 zs w2 S2.out S1.out (by have := hl.out; simp at this; omega)).mono ?_
      rintro e w3 ⟨rfl, m, rfl⟩
      go_wp2_with fail
      go_ret
      exact ⟨rfl, R.out.drewN m⟩

end Go.Proofs.Ytpigcmedkljonaa
