/- live and stir of layer 6's statements. -/
import Derived.Test.YtpigcmedkljonabLaw6B
import Derived.WalkLawsBesides
namespace Go.Proofs.Ytpigcmedkljonab
open Go Go.RowKit
set_option linter.unusedVariables false
set_option linter.unusedSimpArgs false

theorem five_eq : (FloatKind.f64.format.order 4617315517961601024 4617315517961601024 == some .eq) = true := by kernel_rfl
theorem live_list : (setL [0, 0] 1 4617315517961601024) = [0, 4617315517961601024] ∧ setE [0, 0] 1 = 0 ∧ getV [0, 4617315517961601024] 1 = 4617315517961601024 ∧ setE [0, 4617315517961601024] 1 = 0 ∧ setE [0, 4617315517961601024] 2 = 60 ∧ setL [0, 4617315517961601024] 2 4617315517961601024 = [0, 4617315517961601024] := by
  refine ⟨?_, ?_, ?_, ?_, ?_, ?_⟩ <;> decide

/-- live: true. -/
theorem live_any (w : World) : Calls Try.prog 10 #[] w fun e w' => e = .returned (.bool true) ∧ Chg w w' Nothing := by
  obtain ⟨l1, l2, l3, l4, l5, l6⟩ := live_list
  have L1 := Lib.hid l1
  have L2 := Lib.hid l2
  have L3 := Lib.hid l3
  have L4 := Lib.hid l4
  have L5 := Lib.hid l5
  have L6 := Lib.hid l6
  clear l1 l2 l3 l4 l5 l6
  go_enter Try.func10, Try.ntmps10
  go_wp2_with fail
  refine (snew_good 2 w (by decide) (by decide)).mono ?_
  rintro e w1 ⟨p, rfl, hp, s1, c1⟩
  have s1' : St 53 36 w1 p (Grow Nothing w w1) ([0, 0].map fl) := s1
  clear s1
  generalize hG : Grow Nothing w w1 = G at s1'
  go_wp2_with fail
  refine (T6.set_any p G [0, 0] 1 _ w1 s1' (by decide)).mono ?_
  rintro e w2 ⟨rfl, s2, c2⟩
  rw [L1.out] at s2
  rw [L2.out]
  go_wp2_with fail
  refine (T6.get_any p G _ 1 w2 s2 (by decide)).mono ?_
  rintro e w3 ⟨rfl, rfl⟩
  rw [L3.out, L4.out]
  go_wp2_with fail
  refine (T6.set_any p G _ 2 _ w2 s2 (by decide)).mono ?_
  rintro e w3 ⟨rfl, s3, c3⟩
  rw [L6.out] at s3
  rw [L5.out]
  have h5 := five_eq
  go_wp2_with fail
  refine (T6.len_any p G _ w3 s3).mono ?_
  rintro e w4 ⟨rfl, rfl⟩
  go_wp2_with fail
  go_ret
  refine ⟨rfl, ?_⟩
  subst hG
  have h12 : Chg w w2 Nothing := c1.trans c2 (fun k hk h => by rcases h with h | h; exact h; omega)
  exact h12.trans c3 (fun k hk h => by rcases h with h | h; exact h; omega)

/-- Some number comes of a whole number and 77. -/
theorem add77 (n : Nat) (h : n ≤ 256) : ∃ r, floatBits .add .f64 (floatOfInt .f64 n) 4635118810238550016 = some r := by
  have : (List.range 257).all (fun n => (floatBits .add .f64 (floatOfInt .f64 (n : Nat)) 4635118810238550016).isSome) = true := by kernel_rfl
  have := (List.all_eq_true.1 this) n (by simp; omega)
  exact Option.isSome_iff_exists.1 this

theorem stir_any (p : Nat) (F : Nat → Prop) (fs : List Nat) (w : World) (h : St 53 36 w p F (fs.map fl)) (hl : fs.length ≤ 256) :
    Calls Try.prog 30 #[.pointer (some ⟨p, 0, none⟩)] w fun e w' => e = .returned (.tuple #[]) ∧ Chg w w' F := by
  have H := Lib.hid h
  clear h
  go_enter Try.func30, Try.ntmps30
  go_wp2
  go_loopg [2] fs.length (fun k i wr => ∃ n : Nat, ∃ gs : List Nat, n + k = fs.length ∧ i = .int .i64 n ∧ gs.length = fs.length ∧ St 53 36 wr p F (gs.map fl) ∧ Chg w wr F)
  case atStart => exact ⟨0, fs, by simp, rfl, rfl, H.out, Chg.refl _ _⟩
  case round =>
    obtain ⟨n, gs, hn, rfl, hg, hst, hchg⟩ := hrel
    have HS := Lib.hid hst
    have HC := Lib.hid hchg
    clear hst hchg H
    go_wp2_with fail
    refine (T6.len_any p F _ wr HS.out).mono ?_
    rintro e w1 ⟨rfl, rfl⟩
    have hgm : (gs.map fl).length = fs.length := by simpa using hg
    rw [hgm]
    by_cases hlt : n < fs.length
    · have hd : decide (n < fs.length) = true := by simpa using hlt
      obtain ⟨r, hr⟩ := add77 n (by omega)
      have hE : ∀ w, (binOp .add 36 (.float .f64 (floatOfInt .f64 (n : Nat))) (.float .f64 4635118810238550016)).run Try.prog w = .ok (.float .f64 r) w := fun w => run_float_arith w _ _ _ _ _ _ hr
      clear hr
      go_wp2_with fail
      refine (T6.set_any p F gs n r wr HS.out (by omega)).mono ?_
      rintro e w2 ⟨rfl, s2, c2⟩
      have S2 := Lib.hid s2
      have C2 := Lib.hid c2
      clear s2 c2
      go_wp2_with fail
      go_roundg (gk - 1)
      case measure => omega
      case rel => exact ⟨n + 1, _, by omega, by go_num, by rw [setL_len]; exact hg, S2.out, HC.out.trans C2.out (fun _ _ h => h)⟩
    · have hd : decide (n < fs.length) = false := by simpa using hlt
      go_wp2_with fail
      go_end0
      exact ⟨rfl, HC.out⟩

end Go.Proofs.Ytpigcmedkljonab
