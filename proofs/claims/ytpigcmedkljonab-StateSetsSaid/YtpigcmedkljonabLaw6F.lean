/- StateNumbers, StatePlays, StateMakes: the walks. -/
import Derived.Test.YtpigcmedkljonabLaw6E
namespace Go.Proofs.Ytpigcmedkljonab
open Go Go.RowKit
set_option linter.unusedVariables false
set_option linter.unusedSimpArgs false

theorem numbers_walk (w : World) : Calls Try.prog 3 #[] w fun e w' => e = .returned (.bool true) ∧ Chg w w' Nothing := by
  go_enter Try.func3, Try.ntmps3
  go_wp2_with fail
  refine (snew_good 256 w (by decide) (by decide)).mono ?_
  rintro e w1 ⟨p, rfl, hp, s1, c1⟩
  have S1 := Lib.hid s1
  have hl : (List.replicate 256 (fl 0)).length = 256 := List.length_replicate
  clear s1
  go_wp2_with fail
  refine (snew_bad 257 w1 (by decide)).mono ?_
  rintro e w2 ⟨rfl, rfl⟩
  go_wp2_with fail
  refine (T6.len_any p _ _ w1 S1.out).mono ?_
  rintro e w2 ⟨rfl, rfl⟩
  rw [hl]
  go_wp2_with fail
  go_ret
  exact ⟨rfl, c1⟩

theorem plays_walk (cells : Int) (a : Option Addr) (c : Nat) (l : List OpD) (w : World) (hs : Script w a l) (hl : l.length ≤ 9223372036854775807) :
    Calls Try.prog 6 #[.int .i64 cells, .slice a l.length c] w fun e w' => e = .returned (.bool true) ∧ Chg w w' Nothing := by
  have HS := Lib.hid hs
  clear hs
  by_cases hb : cells < 1 ∨ 256 < cells
  · have HB := Lib.hid hb
    clear hb
    go_enter Try.func6, Try.ntmps6
    go_wp2_with fail
    refine (live_any _).mono ?_
    rintro e w1 ⟨rfl, c1⟩
    go_wp2_with fail
    refine (snew_bad cells w1 HB.out).mono ?_
    rintro e w2 ⟨rfl, rfl⟩
    go_wp2_with fail
    refine (R6.new_bad cells w1 HB.out).mono ?_
    rintro e w2 ⟨rfl, rfl⟩
    go_wp2_with fail
    go_ret
    exact ⟨rfl, c1⟩
  · obtain ⟨n, rfl⟩ : ∃ n : Nat, cells = n := ⟨cells.toNat, by omega⟩
    have g1 := Lib.hid (show 1 ≤ n by omega)
    have g2 := Lib.hid (show n ≤ 256 by omega)
    clear hb
    go_enter Try.func6, Try.ntmps6
    go_wp2_with fail
    refine (live_any _).mono ?_
    rintro e w1 ⟨rfl, c1⟩
    go_wp2_with fail
    refine (snew_good n w1 g1.out g2.out).mono ?_
    rintro e w2 ⟨p, rfl, hp, s2, c2⟩
    go_wp2_with fail
    refine (R6.new_good n w2 g1.out g2.out).mono ?_
    rintro e w3 ⟨q, rfl, hq, s3, c3⟩
    have HI := Lib.hid (show Inv w w3 p q from by
      have := c1.size; have := c2.size
      refine ⟨Grow Nothing w1 w2, Grow Nothing w2 w3, List.replicate n 0, ⟨by rw [List.map_replicate]; exact s2.chg c3 (fun _ _ h => h), s3, ?_, by rw [List.length_replicate]; exact g2.out⟩, ?_, ?_, (c1.trans c2 (fun _ _ h => h)).trans c3 (fun _ _ h => h)⟩
      · intro k h h'; rcases h with h | h <;> rcases h' with h' | h' <;> first | exact h | exact h' | omega
      · intro k h; rcases h with h | h; exact h.elim; omega
      · intro k h; rcases h with h | h; exact h.elim; omega)
    clear s2 s3 c1 c2 c3 hp hq
    go_wp2_with fail
    refine (play_any w p q a c l w3 HI.out HS.out hl).mono ?_
    rintro e w4 ⟨rfl, c4⟩
    go_wp2_with fail
    go_ret
    exact ⟨rfl, c4⟩

theorem rawL_len (zs : List Int) : (rawL zs).length = zs.length := by simp [rawL]

theorem floats_fs (a : Option Addr) (c : Nat) (zs : List Int) (w : World) (hs : Sees w a (zs.map (Value.int .u64))) (hl : zs.length * 8 ≤ 140737488351232) :
    Calls Try.prog 11 #[.slice a zs.length c] w fun e w' => ∃ a' c', e = .returned (.slice a' (rawL zs).length c') ∧ w'.ownsRow w.heap.size 36 1 (.slice a' (rawL zs).length c') (rawL zs).length ((rawL zs).map fl) ∧ Chg w w' Nothing := by
  refine (floats_any a c zs w hs hl).mono ?_
  rintro e w' ⟨a', c', rfl, h1, h2⟩
  exact ⟨a', c', by rw [rawL_len], by rw [rawL_len]; exact h1, h2⟩

theorem makes_walk (a : Option Addr) (c : Nat) (zs : List Int) (b : Option Addr) (d : Nat) (l : List OpD) (w : World) (hz : Sees w a (zs.map (Value.int .u64))) (hzl : zs.length * 8 ≤ 140737488351232) (hs : Script w b l) (hl : l.length ≤ 9223372036854775807) :
    Calls Try.prog 7 #[.slice a zs.length c, .slice b l.length d] w fun e w' => e = .returned (.bool true) ∧ Chg w w' Nothing := by
  have HS := Lib.hid hs
  have HZ := Lib.hid hz
  have FL := Lib.hid (fun w hs => floats_fs a c zs w hs hzl)
  clear hs hz
  generalize rawL zs = fs at FL
  go_enter Try.func7, Try.ntmps7
  go_wp2_with fail
  refine (live_any _).mono ?_
  rintro e w1 ⟨rfl, c1⟩
  have C1 := Lib.hid c1
  clear c1
  go_wp2_with fail
  refine (FL.out _ (HZ.out.chg C1.out)).mono ?_
  rintro e w2 ⟨a2, k2, rfl, o2, c2⟩
  have S2 := Lib.hid (Sees.of_owns o2)
  have C2 := Lib.hid (C1.out.trans c2 (fun _ _ h => h))
  clear o2 c2
  by_cases hb : fs.length < 1 ∨ 256 < fs.length
  · have HB := Lib.hid hb
    clear hb
    go_wp2_with fail
    refine (T6.of_bad a2 fs.length k2 w2 HB.out).mono ?_
    rintro e w3 ⟨rfl, rfl⟩
    go_wp2_with fail
    refine (FL.out _ (HZ.out.chg C2.out)).mono ?_
    rintro e w3 ⟨a3, k3, rfl, o3, c3⟩
    have C3 := Lib.hid (C2.out.trans c3 (fun _ _ h => h))
    clear o3 c3
    go_wp2_with fail
    refine (R6.of_bad a3 fs.length k3 w3 HB.out).mono ?_
    rintro e w4 ⟨rfl, rfl⟩
    go_wp2_with fail
    go_ret
    exact ⟨rfl, C3.out⟩
  · have g1 := Lib.hid (show 1 ≤ fs.length by omega)
    have g2 := Lib.hid (show fs.length ≤ 256 by omega)
    clear hb
    go_wp2_with fail
    refine (T6.of_good a2 k2 fs w2 S2.out g1.out g2.out).mono ?_
    rintro e w3 ⟨p, rfl, hp, s3, c3⟩
    have T3 := Lib.hid s3
    have C3 := Lib.hid (C2.out.trans c3 (fun _ _ h => h))
    clear s3 c3
    go_wp2_with fail
    refine (FL.out _ (HZ.out.chg C3.out)).mono ?_
    rintro e w4 ⟨a4, k4, rfl, o4, c4⟩
    have S4 := Lib.hid (Sees.of_owns o4)
    have T4 := Lib.hid (T3.out.chg c4 (fun _ _ h => h))
    have C4 := Lib.hid (C3.out.trans c4 (fun _ _ h => h))
    have Z4 := Lib.hid c4.size
    clear o4 c4
    go_wp2_with fail
    refine (R6.of_good a4 k4 fs w4 S4.out g1.out g2.out).mono ?_
    rintro e w5 ⟨q, rfl, hq, s5, c5⟩
    have HI := Lib.hid (show Inv w w5 p q from by
      have := C2.out.size; have := Z4.out; have := C4.out.size
      refine ⟨Grow Nothing w2 w3, Grow Nothing w4 w5, fs.map fixB, ⟨T4.out.chg c5 (fun _ _ h => h), s5, ?_, by rw [List.length_map]; exact g2.out⟩, ?_, ?_, C4.out.trans c5 (fun _ _ h => h)⟩
      · intro k h h'; rcases h with h | h <;> rcases h' with h' | h' <;> first | exact h | exact h' | omega
      · intro k h; rcases h with h | h; exact h.elim; omega
      · intro k h; rcases h with h | h; exact h.elim; omega)
    clear s5 c5 hp hq
    go_wp2_with fail
    refine (play_any w p q b d l w5 HI.out HS.out hl).mono ?_
    rintro e w6 ⟨rfl, c6⟩
    go_wp2_with fail
    go_ret
    exact ⟨rfl, c6⟩

end Go.Proofs.Ytpigcmedkljonab
