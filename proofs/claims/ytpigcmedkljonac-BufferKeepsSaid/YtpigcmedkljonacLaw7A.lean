/- Small functions of layer 7's statements. -/
import Derived.Test.YtpigcmedkljonacR7
namespace Go.Proofs.Ytpigcmedkljonac
open Go Go.RowKit
set_option linter.unusedVariables false
set_option linter.unusedSimpArgs false

/-- What Put and Get answer. -/
def putN (l : List (Int × Nat)) (most c : Int) : Bool := match pos l c with | some _ => false | none => decide ((l.length : Int) < most)
def putE (l : List (Int × Nat)) (most c : Int) : Int := match pos l c with | some _ => 0 | none => if (l.length : Int) < most then 0 else 70
def putL (l : List (Int × Nat)) (most c : Int) (x : Nat) : List (Int × Nat) := match pos l c with | some i => l.set i (c, x) | none => if (l.length : Int) < most then l ++ [(c, x)] else l
def getX (l : List (Int × Nat)) (c : Int) : Nat := match pos l c with | some i => (l.getD i (0, 0)).2 | none => 0
def getB (l : List (Int × Nat)) (c : Int) : Bool := (pos l c).isSome

theorem Bf.grow {w w' : World} {p : Nat} {F : Nat → Prop} {l : List (Int × Nat)} {most : Int} (h : Bf w' p F l most) : Bf w' p (Grow F w w') l most :=
  h.wider (fun k hk => .inl hk) (fun k hk => by rcases hk with hk | hk; exact h.lt k hk; exact hk.2)
theorem Rf.grow {w w' : World} {p : Nat} {F : Nat → Prop} {l : List (Int × Nat)} {most : Int} (h : Rf w' p F l most) : Rf w' p (Grow F w w') l most :=
  h.wider (fun k hk => .inl hk) (fun k hk => by rcases hk with hk | hk; exact h.lt k hk; exact hk.2)

theorem put_any (p : Nat) (F : Nat → Prop) (l : List (Int × Nat)) (most c : Int) (x : Nat) (w : World) (h : Bf w p F l most) :
    Calls Try.prog 11 #[.pointer (some ⟨p, 0, none⟩), .int .i64 c, fl x] w fun e w' => e = .returned (.tuple #[.bool (putN l most c), .int .i64 (putE l most c)]) ∧ Bf w' p (Grow F w w') (putL l most c (fixB x)) most ∧ Chg w w' F := by
  unfold putN putE putL
  cases hp : pos l c with
  | some i =>
    refine (put_known p F l most c x i w h (Kn.of_pos hp)).mono fun e w' ⟨he, hb, hc⟩ => ⟨he, hb.grow, hc⟩
  | none =>
    by_cases hf : (l.length : Int) < most
    · simp only [if_pos hf, decide_eq_true hf]
      exact put_new p F l most c x w h (Un.of_pos hp) hf
    · simp only [if_neg hf, decide_eq_false hf]
      refine (put_full p F l most c x w h (Un.of_pos hp) (by have := h.fits; omega)).mono fun e w' ⟨he, m, hw⟩ => ?_
      subst hw
      exact ⟨he, (h.drewN m).grow, (Chg.refl _ _).drewN m⟩
theorem get_any (p : Nat) (F : Nat → Prop) (l : List (Int × Nat)) (most c : Int) (w : World) (h : Bf w p F l most) :
    Calls Try.prog 13 #[.pointer (some ⟨p, 0, none⟩), .int .i64 c] w fun e w' => e = .returned (.tuple #[fl (getX l c), .bool (getB l c)]) ∧ w = w' := by
  unfold getX getB
  cases hp : pos l c with
  | some i =>
    obtain ⟨⟨y, hy⟩, _⟩ := Kn.of_pos hp
    refine (get_known p F l most c i y w h (Kn.of_pos hp) hy).mono fun e w' ⟨he, hw⟩ => ⟨?_, hw⟩
    rw [he]; simp [hy]
  | none => exact get_un p F l most c w h (Un.of_pos hp)

namespace R7
theorem put_any (p : Nat) (F : Nat → Prop) (l : List (Int × Nat)) (most c : Int) (x : Nat) (w : World) (h : Rf w p F l most) (hl : (l.length : Int) ≤ most) (hm : most ≤ 32) :
    Calls Try.prog 16 #[.pointer (some ⟨p, 0, none⟩), .int .i64 c, fl x] w fun e w' => e = .returned (.tuple #[.bool (putN l most c), .int .i64 (putE l most c)]) ∧ Rf w' p (Grow F w w') (putL l most c (fixB x)) most ∧ Chg w w' F := by
  unfold putN putE putL
  cases hp : pos l c with
  | some i =>
    refine (put_known p F l most c x i w h (by omega) (Kn.of_pos hp)).mono fun e w' ⟨he, hb, hc⟩ => ⟨he, hb.grow, hc⟩
  | none =>
    by_cases hf : (l.length : Int) < most
    · simp only [if_pos hf, decide_eq_true hf]
      exact put_new p F l most c x w h (by omega) (Un.of_pos hp) hf
    · simp only [if_neg hf, decide_eq_false hf]
      refine (put_full p F l most c x w h (by omega) (Un.of_pos hp) (by omega)).mono fun e w' ⟨he, m, hw⟩ => ?_
      subst hw
      exact ⟨he, (h.drewN m).grow, (Chg.refl _ _).drewN m⟩
theorem get_any (p : Nat) (F : Nat → Prop) (l : List (Int × Nat)) (most c : Int) (w : World) (h : Rf w p F l most) (hl : l.length ≤ 32) :
    Calls Try.prog 30 #[.pointer (some ⟨p, 0, none⟩), .int .i64 c] w fun e w' => e = .returned (.tuple #[fl (getX l c), .bool (getB l c)]) ∧ w = w' := by
  unfold getX getB
  cases hp : pos l c with
  | some i =>
    obtain ⟨⟨y, hy⟩, _⟩ := Kn.of_pos hp
    refine (get_known p F l most c i y w h hl (Kn.of_pos hp) hy).mono fun e w' ⟨he, hw⟩ => ⟨?_, hw⟩
    rw [he]; simp [hy]
  | none => exact get_un p F l most c w h hl (Un.of_pos hp)
end R7

theorem raw_any (b : Int) (w : World) : Calls Try.prog 12 #[.int .u64 b] w fun e w' => e = .returned (fl b.toNat) ∧ w' = w := by
  go_enter Try.func12, Try.ntmps12
  go_wp2
  go_ret
  exact ⟨rfl, rfl⟩

/-- Touches in memory. -/
theorem tch_cells {w : World} {a : Option Addr} {l : List (Int × Nat)} {i : Nat} {t : Int × Nat} (h : Sees w a (tchV l)) (hi : l[i]? = some t) : ∃ b o, a = some ⟨b, o, none⟩ ∧ w.cell? ⟨b, o + i * 2, none⟩ = some (.int .i64 t.1) ∧ w.cell? ⟨b, o + i * 2 + 1, none⟩ = some (fl t.2) := by
  obtain ⟨t1, t2⟩ := tchV_at l i t hi
  rcases h with h | ⟨b, o, rfl, g⟩
  · rw [h] at t1; simp at t1
  · exact ⟨b, o, rfl, g _ _ t1, g _ _ t2⟩

theorem exact_true (a1 a2 : Option Addr) (c1 c2 : Nat) (l : List (Int × Nat)) (w : World) (h1 : Sees w a1 (tchV l)) (h2 : Sees w a2 (tchV l)) (hl : l.length ≤ 140737488355328) :
    Calls Try.prog 18 #[.slice a1 l.length c1, .slice a2 l.length c2] w fun e w' => e = .returned (.bool true) ∧ ∃ m, w' = w.drewN m := by
  have H1 := Lib.hid h1
  have H2 := Lib.hid h2
  clear h1 h2
  have hb : ((l.length : Int) != (l.length : Int)) = false := by simp
  go_enter Try.func18, Try.ntmps18
  go_wp2
  go_loopg [5] l.length (fun k i wr => ∃ n : Nat, n + k = l.length ∧ i = .int .i64 n ∧ ∃ m, wr = w.drewN m)
  case atStart => exact ⟨0, by simp, rfl, 0, rfl⟩
  case round =>
    obtain ⟨n, hn, rfl, m, rfl⟩ := hrel
    by_cases hlt : n < l.length
    · have hd : decide (n < l.length) = true := by simpa using hlt
      obtain ⟨k, y, hy⟩ : ∃ k y, l[n]? = some (k, y) := ⟨_, _, List.getElem?_eq_getElem hlt⟩
      obtain ⟨b1, o1, rfl, x1, y1⟩ := tch_cells H1.out hy
      obtain ⟨b2, o2, rfl, x2, y2⟩ := tch_cells H2.out hy
      have hk : (k != k) = false := by simp
      have hq : ((y : Int) != (y : Int)) = false := by simp
      clear hy
      go_wp2
      go_quiet (fail)
      go_wp2
      go_roundg (gk - 1)
      case measure => omega
      case rel => exact ⟨n + 1, by omega, by go_num, _, rfl⟩
    · have hd : decide (n < l.length) = false := by simpa using hlt
      go_wp2
      go_ret
      exact ⟨rfl, _, rfl⟩

theorem five_eq : (FloatKind.f64.format.order 4617315517961601024 4617315517961601024 == some .eq) = true := by kernel_rfl
theorem live_list : fixB 4617315517961601024 = 4617315517961601024 ∧ putL [] 1 3 4617315517961601024 = [(3, 4617315517961601024)] ∧ putN [] 1 3 = true ∧ putE [] 1 3 = 0 ∧ getX [(3, 4617315517961601024)] 3 = 4617315517961601024 ∧ getB [(3, 4617315517961601024)] 3 = true ∧ putE [(3, 4617315517961601024)] 1 4 = 70 ∧ putL [(3, 4617315517961601024)] 1 4 4617315517961601024 = [(3, 4617315517961601024)] := by
  refine ⟨?_, ?_, ?_, ?_, ?_, ?_, ?_, ?_⟩ <;> decide

/-- live: true. -/
theorem live_any (w : World) : Calls Try.prog 9 #[] w fun e w' => e = .returned (.bool true) ∧ Chg w w' Nothing := by
  obtain ⟨l0, l1, l2, l3, l4, l5, l6, l7⟩ := live_list
  have L0 := Lib.hid l0
  have L1 := Lib.hid l1
  have L2 := Lib.hid l2
  have L3 := Lib.hid l3
  have L4 := Lib.hid l4
  have L5 := Lib.hid l5
  have L6 := Lib.hid l6
  have L7 := Lib.hid l7
  clear l0 l1 l2 l3 l4 l5 l6 l7
  go_enter Try.func9, Try.ntmps9
  go_wp2_with fail
  refine (new_good 1 w (by decide) (by decide)).mono ?_
  rintro e w1 ⟨p, rfl, hp, s1, c1⟩
  go_wp2_with fail
  refine (put_any p _ [] 1 3 _ w1 s1).mono ?_
  rintro e w2 ⟨rfl, s2, c2⟩
  rw [L0.out, L1.out] at s2
  rw [L2.out, L3.out]
  go_wp2_with fail
  refine (get_any p _ _ 1 3 w2 s2).mono ?_
  rintro e w3 ⟨rfl, rfl⟩
  rw [L4.out, L5.out]
  go_wp2_with fail
  refine (put_any p _ _ 1 4 _ w2 s2).mono ?_
  rintro e w3 ⟨rfl, s3, c3⟩
  rw [L0.out, L7.out] at s3
  rw [L6.out]
  have h5 := five_eq
  go_wp2_with fail
  refine (len_any p _ _ 1 w3 s3).mono ?_
  rintro e w4 ⟨rfl, rfl⟩
  go_wp2_with fail
  go_ret
  refine ⟨rfl, ?_⟩
  have h12 : Chg w w2 Nothing := c1.trans c2 (fun k hk h => by rcases h with h | h; exact h; omega)
  have := c1.size
  exact h12.trans c3 (fun k hk h => by rcases h with (h | h) | h; exact h; omega; omega)

end Go.Proofs.Ytpigcmedkljonac
