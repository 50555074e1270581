/- exact and touches of layer 9's statements: equal lists. -/
import Derived.Test.YthgllaomafhdkaaGreatK9
namespace Go.Proofs.YthgllaomafhdkaaGreat
open Go Go.RowKit
set_option maxRecDepth 100000
set_option maxHeartbeats 1000000
set_option linter.unusedVariables false
set_option linter.unusedSimpArgs false

theorem tch_at09 {w : World} {a : Option Addr} {l : List (Int × Nat)} {i : Nat} {c : Int} {y : Nat} (h : Sees w a (tchV l)) (hi : l[i]? = some (c, y)) : ∃ b o, a = some ⟨b, o, none⟩ ∧ w.cell? ⟨b, o + i * 2, none⟩ = some (.int .i64 c) ∧ w.cell? ⟨b, o + i * 2 + 1, none⟩ = some (fl y) := by
  obtain ⟨h1, h2⟩ := tchV_at l i _ hi
  rcases h with h | ⟨b, o, rfl, h⟩
  · rw [h] at h1; simp at h1
  · exact ⟨b, o, rfl, h _ _ h1, by rw [Nat.add_assoc]; exact h _ _ h2⟩
theorem bits09_q (a b : Nat) (w : World) : Calls Tryz.prog 46 #[fl a, fl b] w fun e w' => e = .returned (.bool ((a : Int) == (b : Int))) ∧ w' = w := by
  go_enter Tryz.func46, Tryz.ntmps46
  go_wp2_with fail
  go_ret
  exact ⟨rfl, rfl⟩
theorem exact09_true (a1 a2 : Option Addr) (c1 c2 : Nat) (fs : List Nat) (w : World) (h1 : Sees w a1 (fs.map fl)) (h2 : Sees w a2 (fs.map fl)) (hl : fs.length ≤ 140737488355328) :
    Calls Tryz.prog 43 #[.slice a1 fs.length c1, .slice a2 fs.length c2] w fun e w' => e = .returned (.bool true) ∧ ∃ m, w' = w.drewN m := by
  have H1 := Lib.hid h1
  have H2 := Lib.hid h2
  clear h1 h2
  have hb : ((fs.length : Int) != (fs.length : Int)) = false := by simp
  go_enter Tryz.func43, Tryz.ntmps43
  go_wp2_with fail
  go_loopg [13] fs.length (fun k i wr => ∃ n : Nat, n + k = fs.length ∧ i = .int .i64 (n : Nat) ∧ ∃ m, wr = w.drewN m)
  case atStart => exact ⟨0, by simp, rfl, 0, rfl⟩
  case round =>
    obtain ⟨n, hn, rfl, hm⟩ := hrel
    have HM := Lib.hid hm
    have hcell : ∀ a, wr.cell? a = w.cell? a := fun a => by obtain ⟨m, rfl⟩ := hm; rfl
    clear hm
    by_cases hlt : n < fs.length
    · have hd : decide (n < fs.length) = true := by simpa using hlt
      rcases H1.out with h | ⟨b1, o1, rfl, g1⟩
      · simp at h; subst h; simp at hlt
      rcases H2.out with h | ⟨b2, o2, rfl, g2⟩
      · simp at h; subst h; simp at hlt
      have k1 := (hcell _).trans (g1 n (fl fs[n]) (by simp [hlt]))
      have k2 := (hcell _).trans (g2 n (fl fs[n]) (by simp [hlt]))
      clear g1 g2 hcell
      generalize fs[n] = x at k1 k2
      have hq : ((x : Int) == (x : Int)) = true := by simp
      go_wp2_with fail
      go_quiet ((go_at_call 46; exact Calls.quiet_of_same (bits09_q _ _ _)))
      go_wp2_with fail
      go_roundg (gk - 1)
      case measure => omega
      case rel => obtain ⟨m, e⟩ := HM.out; exact ⟨n + 1, by omega, by go_num, m + nq, by rw [e, World.drewN_drewN]⟩
    · have hd : decide (n < fs.length) = false := by simpa using hlt
      clear hcell
      go_wp2_with fail
      go_ret
      exact ⟨rfl, HM.out⟩
theorem touches09_true (a1 a2 : Option Addr) (c1 c2 : Nat) (l : List (Int × Nat)) (w : World) (h1 : Sees w a1 (tchV l)) (h2 : Sees w a2 (tchV l)) (hl : l.length ≤ 140737488355328) :
    Calls Tryz.prog 49 #[.slice a1 l.length c1, .slice a2 l.length c2] w fun e w' => e = .returned (.bool true) ∧ ∃ m, w' = w.drewN m := by
  have H1 := Lib.hid h1
  have H2 := Lib.hid h2
  clear h1 h2
  have hb : ((l.length : Int) != (l.length : Int)) = false := by simp
  go_enter Tryz.func49, Tryz.ntmps49
  go_wp2_with fail
  go_loopg [13] l.length (fun k i wr => ∃ n : Nat, n + k = l.length ∧ i = .int .i64 (n : Nat) ∧ ∃ m, wr = w.drewN m)
  case atStart => exact ⟨0, by simp, rfl, 0, rfl⟩
  case round =>
    obtain ⟨n, hn, rfl, hm⟩ := hrel
    have HM := Lib.hid hm
    have hcell : ∀ a, wr.cell? a = w.cell? a := fun a => by obtain ⟨m, rfl⟩ := hm; rfl
    clear hm
    by_cases hlt : n < l.length
    · have hd : decide (n < l.length) = true := by simpa using hlt
      obtain ⟨k, y, hy⟩ : ∃ k y, l[n]? = some (k, y) := ⟨_, _, List.getElem?_eq_getElem hlt⟩
      obtain ⟨b1, o1, rfl, x1, y1⟩ := tch_at09 H1.out hy
      obtain ⟨b2, o2, rfl, x2, y2⟩ := tch_at09 H2.out hy
      have hk : (k != k) = false := by simp
      have hq : ((y : Int) == (y : Int)) = true := by simp
      have x1 := (hcell _).trans x1
      have y1 := (hcell _).trans y1
      have x2 := (hcell _).trans x2
      have y2 := (hcell _).trans y2
      clear hy hcell
      go_wp2_with fail
      go_quiet ((go_at_call 46; exact Calls.quiet_of_same (bits09_q _ _ _)))
      go_wp2_with fail
      go_roundg (gk - 1)
      case measure => omega
      case rel => obtain ⟨m, e⟩ := HM.out; exact ⟨n + 1, by omega, by go_num, m + nq, by rw [e, World.drewN_drewN]⟩
    · have hd : decide (n < l.length) = false := by simpa using hlt
      clear hcell
      go_wp2_with fail
      go_ret
      exact ⟨rfl, HM.out⟩
end Go.Proofs.YthgllaomafhdkaaGreat
