/- How the laws of layer 9 begin: given; result. -/
import Derived.Test.YthgllaomafhdkaaGreatM44
import Derived.Test.YthgllaomafhdkaaGreatM46
namespace Go.Proofs.YthgllaomafhdkaaGreat
open Go Go.RowKit
set_option maxRecDepth 100000
set_option maxHeartbeats 1000000
set_option linter.unusedVariables false
set_option linter.unusedSimpArgs false

theorem given09_bad (a : Option Addr) (n c : Nat) (w : World) (h : n < 1 ∨ 256 < n) (hn : n ≤ 9223372036854775807) : Calls Tryz.prog 38 #[.slice a n c] w fun e w' => e = .returned (.tuple #[.pointer none, .bool true]) ∧ w = w' := by
  by_cases h1 : n < 1
  · have b1 : decide ((1 : Int) ≤ (n : Int)) = false := decide_eq_false (by omega)
    have HH := Lib.hid h
    clear h h1
    go_enter Tryz.func38, Tryz.ntmps38
    go_wp2_with fail
    refine (T6.of_bad a n c _ HH.out).mono ?_
    rintro e w1 ⟨rfl, rfl⟩
    go_wp2_with fail
    go_ret2
    exact ⟨rfl, rfl⟩
  · have b1 : decide ((1 : Int) ≤ (n : Int)) = true := decide_eq_true (by omega)
    have b2 : decide ((n : Int) ≤ 256) = false := decide_eq_false (by omega)
    have HH := Lib.hid h
    clear h h1
    go_enter Tryz.func38, Tryz.ntmps38
    go_wp2_with fail
    refine (T6.of_bad a n c _ HH.out).mono ?_
    rintro e w1 ⟨rfl, rfl⟩
    go_wp2_with fail
    go_ret2
    exact ⟨rfl, rfl⟩
theorem given09_good (a : Option Addr) (c : Nat) (fs : List Nat) (w : World) (hs : Sees w a (fs.map fl)) (h1 : 1 ≤ fs.length) (h2 : fs.length ≤ 256) :
    Calls Tryz.prog 38 #[.slice a fs.length c] w fun e w' => ∃ p F, e = .returned (.tuple #[.pointer (some ⟨p, 0, none⟩), .bool true]) ∧ LW w w' p F (fs.map fixB) := by
  have b1 : decide ((1 : Int) ≤ (fs.length : Int)) = true := decide_eq_true (by omega)
  have b2 : decide ((fs.length : Int) ≤ 256) = true := decide_eq_true (by omega)
  have HS := Lib.hid hs
  have H1 := Lib.hid h1
  have H2 := Lib.hid h2
  clear hs h1 h2
  go_enter Tryz.func38, Tryz.ntmps38
  go_wp2_with fail
  refine (T6.of_good a c fs _ HS.out H1.out H2.out).mono ?_
  rintro e w1 ⟨p, rfl, hp, hst, hc⟩
  have R := Lib.hid (show LW w w1 p _ (fs.map fixB) from ⟨hst, hc, fun k hk => by rcases hk with hk | hk; exact hk.elim; exact hk.1⟩)
  clear hp hst hc
  go_wp2_with fail
  go_ret2
  exact ⟨p, _, rfl, R.out⟩
/-- Two results of the same. -/
theorem result09_true (h : Int × Int × Int) (u : Int) (os : List Nat) (rs ws : List (Int × Nat)) (a1 a2 a3 a4 a5 a6 : Option Addr) (c1 c2 c3 c4 c5 c6 : Nat) (w : World)
    (s1 : Sees w a1 (os.map fl)) (s2 : Sees w a2 (tchV rs)) (s3 : Sees w a3 (tchV ws)) (s4 : Sees w a4 (os.map fl)) (s5 : Sees w a5 (tchV rs)) (s6 : Sees w a6 (tchV ws)) (l1 : os.length ≤ 4096) (l2 : rs.length ≤ 4096) (l3 : ws.length ≤ 4096) :
    Calls Tryz.prog 42 #[.agg (resA h (a1, os.length, c1) (a2, rs.length, c2) (a3, ws.length, c3) u), .agg (resA h (a4, os.length, c4) (a5, rs.length, c5) (a6, ws.length, c6) u)] w fun e w' => e = .returned (.bool true) ∧ Chg w w' Nothing := by
  obtain ⟨x1, x2, x3⟩ := h
  show Calls _ _ #[.agg #[.int .i64 x1, .int .i64 x2, .int .i64 x3, .slice a1 os.length c1, .slice a2 rs.length c2, .slice a3 ws.length c3, .int .i64 u], .agg #[.int .i64 x1, .int .i64 x2, .int .i64 x3, .slice a4 os.length c4, .slice a5 rs.length c5, .slice a6 ws.length c6, .int .i64 u]] _ _
  have q1 : (x1 == x1) = true := by simp
  have q2 : (x2 == x2) = true := by simp
  have q3 : (x3 == x3) = true := by simp
  have q4 : (u == u) = true := by simp
  have S1 := Lib.hid s1
  have S2 := Lib.hid s2
  have S3 := Lib.hid s3
  have S4 := Lib.hid s4
  have S5 := Lib.hid s5
  have S6 := Lib.hid s6
  have L1 := Lib.hid l1
  have L2 := Lib.hid l2
  have L3 := Lib.hid l3
  clear s1 s2 s3 s4 s5 s6 l1 l2 l3
  go_enter Tryz.func42, Tryz.ntmps42
  go_wp2_with fail
  have C0 := Lib.hid (((Chg.refl w Nothing).alloc (.cells #[.int .i64 x1, .int .i64 x2, .int .i64 x3, .slice a1 os.length c1, .slice a2 rs.length c2, .slice a3 ws.length c3, .int .i64 u] 69)).alloc (.cells #[.int .i64 x1, .int .i64 x2, .int .i64 x3, .slice a4 os.length c4, .slice a5 rs.length c5, .slice a6 ws.length c6, .int .i64 u] 69))
  go_wp2_with fail
  with_reducible refine (exact09_true a1 a4 c1 c4 os _ (S1.out.chg C0.out) (S4.out.chg C0.out) (by have := L1.out; omega)).mono ?_
  rintro e w1 ⟨rfl, m1, rfl⟩
  go_wp2_with fail
  with_reducible refine (touches09_true a2 a5 c2 c5 rs _ ((S2.out.chg C0.out).drewN _) ((S5.out.chg C0.out).drewN _) (by have := L2.out; omega)).mono ?_
  rintro e w2 ⟨rfl, m2, rfl⟩
  go_wp2_with fail
  with_reducible refine (touches09_true a3 a6 c3 c6 ws _ ((S3.out.chg C0.out).drewN _) ((S6.out.chg C0.out).drewN _) (by have := L3.out; omega)).mono ?_
  rintro e w3 ⟨rfl, m3, rfl⟩
  go_wp2_with fail
  go_ret
  exact ⟨rfl, C0.out.drewN _⟩
end Go.Proofs.YthgllaomafhdkaaGreat
