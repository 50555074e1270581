/- Small functions of layer 4's statements: live, same, stir. -/
import Derived.Test.YtpigcmedkljonaaSI
import Derived.Test.YtpigcmedkljonaaSR
namespace Go.Proofs.Ytpigcmedkljonaa
open Go Go.RowKit
set_option linter.unusedVariables false
set_option linter.unusedSimpArgs false

theorem int_one (z : Int) : ∀ u ∈ [Value.int .i64 z], u.oneCell' = true := by intro u hu; simp at hu; subst hu; rfl

theorem ints_one (zs : List Int) : ∀ u ∈ zs.map (Value.int .i64), u.oneCell' = true := by
  intro u hu; obtain ⟨z, _, rfl⟩ := List.mem_map.1 hu; rfl

/-- live: true. -/
theorem live_any (w : World) : Calls Try.prog 12 #[] w fun e w' => e = .returned (.bool true) ∧ Chg w w' Nothing := by
  go_enter Try.func12, Try.ntmps12
  go_wp2_with fail
  refine (SI.new_any 1 w).mono ?_
  rintro e w1 ⟨p, rfl, hp, hs1, hc1⟩
  rw [show roomOf 1 = 1 from by decide] at hs1
  go_wp2_with fail
  refine (SI.push_good _ _ _ _ _ _ hs1 (by simp)).mono ?_
  rintro e w2 ⟨rfl, hs2, hc2⟩
  rw [List.nil_append] at hs2
  go_wp2_with fail
  refine (SI.push_full _ _ [.int .i64 4] _ _ hs2).mono ?_
  rintro e w3 ⟨rfl, m, rfl⟩
  go_wp2_with fail
  refine (SI.pop_good _ _ [] _ _ _ (by simpa using hs2.drewN m)).mono ?_
  rintro e w4 ⟨rfl, hs4, hc4⟩
  go_wp2_with fail
  refine (SI.pop_bad _ _ _ _ hs4).mono ?_
  rintro e w5 ⟨rfl, m5, rfl⟩
  go_wp2_with fail
  refine (SI.room_any _ _ _ _ _ (hs4.drewN m5)).mono ?_
  rintro e w6 ⟨rfl, rfl⟩
  go_wp2_with fail
  go_ret
  refine ⟨rfl, ?_⟩
  have h12 : Chg w w2 Nothing := hc1.trans hc2 (fun k hk h => by rcases h with h | h; exact h; omega)
  exact ((h12.drewN m).trans hc4 (fun k hk h => by have := hc1.size; rcases h with (h | h) | h; exact h; omega; omega)).drewN m5

theorem same_true (a1 a2 : Option Addr) (c1 c2 : Nat) (zs : List Int) (w : World) (h1 : Sees w a1 (zs.map (Value.int .i64))) (h2 : Sees w a2 (zs.map (Value.int .i64))) (hl : zs.length ≤ 140737488355328) :
    Calls Try.prog 16 #[.slice a1 zs.length c1, .slice a2 zs.length c2] w fun e w' => e = .returned (.bool true) ∧ ∃ m, w' = w.drewN m := by
  have H1 := Lib.hid h1
  have H2 := Lib.hid h2
  clear h1 h2
  have hb : ((zs.length : Int) != (zs.length : Int)) = false := by simp
  go_enter Try.func16, Try.ntmps16
  go_wp2
  go_loopg [5] zs.length (fun k i wr => ∃ n : Nat, n + k = zs.length ∧ i = .int .i64 n ∧ ∃ m, wr = w.drewN m)
  case atStart => exact ⟨0, by simp, rfl, 0, rfl⟩
  case round =>
    obtain ⟨n, hn, rfl, m, rfl⟩ := hrel
    by_cases hlt : n < zs.length
    · have hd : decide (n < zs.length) = true := by simpa using hlt
      rcases H1.out with h | ⟨b1, o1, rfl, g1⟩
      · simp at h; subst h; simp at hlt
      rcases H2.out with h | ⟨b2, o2, rfl, g2⟩
      · simp at h; subst h; simp at hlt
      have k1 := g1 n (.int .i64 zs[n]) (by simp [hlt])
      have k2 := g2 n (.int .i64 zs[n]) (by simp [hlt])
      have hq : (zs[n] != zs[n]) = false := by simp
      clear g1 g2
      go_wp2
      go_quiet (fail)
      go_wp2
      go_roundg (gk - 1)
      case measure => omega
      case rel => exact ⟨n + 1, by omega, by go_num, _, rfl⟩
    · have hd : decide (n < zs.length) = false := by simpa using hlt
      go_wp2
      go_ret
      exact ⟨rfl, _, rfl⟩

end Go.Proofs.Ytpigcmedkljonaa
