/- A program's error: the document's May. -/
import Derived.Test.YthgcmafeahlmpaaC5C
namespace Go.Proofs.Ythgcmafeahlmpaa
open Go Go.RowKit
set_option linter.unusedVariables false
set_option linter.unusedSimpArgs false

theorem rows_at {k : Nat} (h1 : 1 ≤ k) (h2 : k ≤ 20) : ∃ ws, rowsR[k * 5]? = some (.string ws) ∧ rowsR[k * 5 + 1]? = some (.int .i64 (loOf k)) ∧ rowsR[k * 5 + 2]? = some (.int .i64 (hiOf k)) ∧ rowsR[k * 5 + 3]? = some (.int .i64 (takesOf k)) ∧ rowsR[k * 5 + 4]? = some (.int .i64 (laysOf k)) := by
  have : ∀ (j : Nat), k = j → (j = 1 ∨ j = 2 ∨ j = 3 ∨ j = 4 ∨ j = 5) ∨ (j = 6 ∨ j = 7 ∨ j = 8 ∨ j = 9 ∨ j = 10) ∨ (j = 11 ∨ j = 12 ∨ j = 13 ∨ j = 14 ∨ j = 15) ∨ (j = 16 ∨ j = 17 ∨ j = 18 ∨ j = 19 ∨ j = 20) := by
    rintro j rfl
    have := twenty (op := (k : Int)) (by omega) (by omega)
    rcases this with (h | h | h | h | h) | (h | h | h | h | h) | (h | h | h | h | h) | (h | h | h | h | h)
    · exact .inl (by omega)
    · exact .inl (by omega)
    · exact .inl (by omega)
    · exact .inl (by omega)
    · exact .inl (by omega)
    · exact .inr (.inl (by omega))
    · exact .inr (.inl (by omega))
    · exact .inr (.inl (by omega))
    · exact .inr (.inl (by omega))
    · exact .inr (.inl (by omega))
    · exact .inr (.inr (.inl (by omega)))
    · exact .inr (.inr (.inl (by omega)))
    · exact .inr (.inr (.inl (by omega)))
    · exact .inr (.inr (.inl (by omega)))
    · exact .inr (.inr (.inl (by omega)))
    · exact .inr (.inr (.inr (by omega)))
    · exact .inr (.inr (.inr (by omega)))
    · exact .inr (.inr (.inr (by omega)))
    · exact .inr (.inr (.inr (by omega)))
    · exact .inr (.inr (.inr (by omega)))
  rcases this k rfl with (rfl | rfl | rfl | rfl | rfl) | (rfl | rfl | rfl | rfl | rfl) | (rfl | rfl | rfl | rfl | rfl) | (rfl | rfl | rfl | rfl | rfl)
  · exact ⟨_, rfl, rfl, rfl, rfl, rfl⟩
  · exact ⟨_, rfl, rfl, rfl, rfl, rfl⟩
  · exact ⟨_, rfl, rfl, rfl, rfl, rfl⟩
  · exact ⟨_, rfl, rfl, rfl, rfl, rfl⟩
  · exact ⟨_, rfl, rfl, rfl, rfl, rfl⟩
  · exact ⟨_, rfl, rfl, rfl, rfl, rfl⟩
  · exact ⟨_, rfl, rfl, rfl, rfl, rfl⟩
  · exact ⟨_, rfl, rfl, rfl, rfl, rfl⟩
  · exact ⟨_, rfl, rfl, rfl, rfl, rfl⟩
  · exact ⟨_, rfl, rfl, rfl, rfl, rfl⟩
  · exact ⟨_, rfl, rfl, rfl, rfl, rfl⟩
  · exact ⟨_, rfl, rfl, rfl, rfl, rfl⟩
  · exact ⟨_, rfl, rfl, rfl, rfl, rfl⟩
  · exact ⟨_, rfl, rfl, rfl, rfl, rfl⟩
  · exact ⟨_, rfl, rfl, rfl, rfl, rfl⟩
  · exact ⟨_, rfl, rfl, rfl, rfl, rfl⟩
  · exact ⟨_, rfl, rfl, rfl, rfl, rfl⟩
  · exact ⟨_, rfl, rfl, rfl, rfl, rfl⟩
  · exact ⟨_, rfl, rfl, rfl, rfl, rfl⟩
  · exact ⟨_, rfl, rfl, rfl, rfl, rfl⟩
theorem lo_kinds {op : Int} (h1 : 1 ≤ op) (h2 : op ≤ 20) : (mostOf op = -2 ∧ loOf op = 0 ∧ hiOf op = 0) ∨ (mostOf op = -1 ∧ loOf op = -1) ∨ (0 ≤ mostOf op ∧ (op = 9 ∨ op = 10) ∧ loOf op = 1 ∧ hiOf op = mostOf op) ∨ (0 ≤ mostOf op ∧ op ≠ 9 ∧ op ≠ 10 ∧ loOf op = 0 ∧ hiOf op = mostOf op) := by
  rcases twenty h1 h2 with (rfl | rfl | rfl | rfl | rfl) | (rfl | rfl | rfl | rfl | rfl) | (rfl | rfl | rfl | rfl | rfl) | (rfl | rfl | rfl | rfl | rfl) <;> decide
/-- What the document asks of an instruction's number. -/
def numB (op n len : Int) : Bool := if loOf op < 0 then decide (0 ≤ n) && decide (n < len) else decide (loOf op ≤ n) && decide (n ≤ hiOf op)
theorem mayB_num {op n : Int} {x : Nat} {len : Int} (h1 : 1 ≤ op) (h2 : op ≤ 20) (h3 : (op == 1 || ((fixB x : Int) == 0)) = true) : mayB op n x len = numB op n len := by
  unfold mayB numB
  rw [decide_eq_true h1, decide_eq_true h2, h3, Bool.true_and, Bool.true_and, Bool.true_and]
  rcases lo_kinds h1 h2 with ⟨a, b, c⟩ | ⟨a, b⟩ | ⟨a, b, c, d⟩ | ⟨a, b, c, d, e⟩
  · rw [if_pos (by simpa using a), b, c, if_neg (by decide)]
    by_cases h : n = 0
    · subst h; rfl
    · rw [show (n == 0) = false by simpa using h]
      by_cases h' : 0 ≤ n
      · rw [decide_eq_false (show ¬ n ≤ 0 by omega)]; simp
      · rw [decide_eq_false h']; simp
  · rw [if_neg (by simp; omega), if_pos (by simpa using a), b, if_pos (by decide)]
  · rw [if_neg (by simp; omega), if_neg (by simp; omega), if_pos (by simpa using b), c, d, if_neg (by decide)]
  · rw [if_neg (by simp; omega), if_neg (by simp; omega), if_neg (by simp; exact ⟨b, c⟩), d, e, if_neg (by decide)]

theorem rmay_low (op n : Int) (x : Nat) (len : Int) (w : World) (h : op < 1) : Calls Try.prog 26 #[.agg #[.int .i64 op, .int .i64 n, .float .f64 x], .int .i64 len] w fun e w' => e = .returned (.bool false) ∧ Chg w w' Nothing := by
  have b1 : decide (op < 1) = true := decide_eq_true h
  clear h
  go_enter Try.func26, Try.ntmps26
  go_wp2_with fail
  go_ret
  exact ⟨rfl, (Chg.refl _ _).alloc _⟩
theorem rmay_high (op n : Int) (x : Nat) (len : Int) (w : World) (h : 20 < op) : Calls Try.prog 26 #[.agg #[.int .i64 op, .int .i64 n, .float .f64 x], .int .i64 len] w fun e w' => e = .returned (.bool false) ∧ Chg w w' Nothing := by
  have b1 : decide (op < 1) = false := decide_eq_false (by omega)
  have b2 : decide (20 < op) = true := decide_eq_true h
  clear h
  go_enter Try.func26, Try.ntmps26
  go_wp2_with fail
  go_ret
  exact ⟨rfl, (Chg.refl _ _).alloc _⟩
theorem rmay_not (op n : Int) (x : Nat) (len : Int) (w : World) (h1 : 1 ≤ op) (h2 : op ≤ 20) (h3 : op ≠ 1) (h4 : ((fixB x : Int) == 0) = false) : Calls Try.prog 26 #[.agg #[.int .i64 op, .int .i64 n, .float .f64 x], .int .i64 len] w fun e w' => e = .returned (.bool false) ∧ Chg w w' Nothing := by
  have b1 : decide (op < 1) = false := decide_eq_false (by omega)
  have b2 : decide (20 < op) = false := decide_eq_false (by omega)
  have b3 : (op != 1) = true := by simpa using h3
  have H4 := Lib.hid h4
  clear h1 h2 h3 h4
  go_enter Try.func26, Try.ntmps26
  go_wp2_with fail
  refine (rbits_any _ _).mono ?_
  rintro e w1 ⟨rfl, rfl⟩
  have h5 : ((fixB x : Int) != 0) = true := by rw [bne, H4.out]; rfl
  go_wp2_with fail
  go_ret
  exact ⟨rfl, (Chg.refl _ _).alloc _⟩


/-- A row of the table in a block of its own. -/
def RowBox (w : World) (n LO HI : Int) (v : Value) (wx : World) : Prop := ∃ r, v = .pointer (some ⟨r, 0, none⟩) ∧ wx.cell? ⟨r, 1, none⟩ = some (.int .i64 LO) ∧ wx.cell? ⟨r, 2, none⟩ = some (.int .i64 HI) ∧ wx.cell? ⟨w.heap.size, 1, none⟩ = some (.int .i64 n) ∧ Chg w wx Nothing


set_option maxHeartbeats 2000000 in
theorem rmay_one (k : Nat) (n : Int) (x : Nat) (len : Int) (w : World) (h1 : 1 ≤ k) (h2 : k ≤ 20) (h3 : k = 1) : Calls Try.prog 26 #[.agg #[.int .i64 (k : Nat), .int .i64 n, .float .f64 x], .int .i64 len] w fun e w' => e = .returned (.bool (numB k n len)) ∧ Chg w w' Nothing := by
  obtain ⟨ws, f0, f1, f2, f3, f4⟩ := rows_at h1 h2
  have b1 : decide ((k : Int) < 1) = false := decide_eq_false (by omega)
  have b2 : decide (20 < (k : Int)) = false := decide_eq_false (by omega)
  have b21 : (k : Int) < 21 := by omega
  have HN := Lib.hid (show numB k n len = if loOf k < 0 then decide (0 ≤ n) && decide (n < len) else decide (loOf k ≤ n) && decide (n ≤ hiOf k) from rfl)
  have b3 : ((k : Int) != 1) = false := by simp; omega
  clear h1 h2 h3
  generalize loOf k = LO at *
  generalize hiOf k = HI at *
  generalize takesOf k = TK at *
  generalize laysOf k = LY at *
  go_enter Try.func26, Try.ntmps26
  go_wp2_with fail
  go_upto_region 3 with fail
  go_cut [5] (fun v wx => RowBox w n LO HI v wx)
  case first => as_aux_lemma =>
    go_region_law (first | (go_simp; go_at_call 31; refine (rrows_run _).mono ?_; rintro e w1 ⟨rfl, rfl⟩))
    all_goals
      go_wp2_with fail
      go_meet
      exact ⟨_, rfl, by simp [go_sem], by simp [go_sem], by simp [go_sem], by repeat (first | exact Chg.refl _ _ | refine Chg.drew ?_ | refine Chg.drewN ?_ _ | refine Chg.alloc ?_ _)⟩
  case rest =>
    obtain ⟨r, rfl, e1, e2, e3, hc⟩ := hcut
    have HC := Lib.hid hc
    clear hc
    by_cases hlo : LO < 0
    · have c1 : decide (LO < 0) = true := decide_eq_true hlo
      rw [if_pos hlo] at HN
      clear hlo
      go_wp2_with fail
      all_goals
        go_ret
        first
          | exact ⟨by rw [HN.out]; rfl, HC.out⟩
          | exact ⟨by rw [HN.out, decide_eq_true (show (0 : Int) ≤ n by omega)]; rfl, HC.out⟩
          | exact ⟨by rw [HN.out, decide_eq_false (show ¬ (0 : Int) ≤ n by omega)]; rfl, HC.out⟩
    · have c1 : decide (LO < 0) = false := decide_eq_false hlo
      rw [if_neg hlo] at HN
      clear hlo
      go_wp2_with fail
      all_goals
        go_ret
        first
          | exact ⟨by rw [HN.out]; rfl, HC.out⟩
          | exact ⟨by rw [HN.out, decide_eq_true (show LO ≤ n by omega)]; rfl, HC.out⟩
          | exact ⟨by rw [HN.out, decide_eq_false (show ¬ LO ≤ n by omega)]; rfl, HC.out⟩


set_option maxHeartbeats 2000000 in
theorem rmay_other (k : Nat) (n : Int) (x : Nat) (len : Int) (w : World) (h1 : 1 ≤ k) (h2 : k ≤ 20) (h3 : k ≠ 1) (h4 : ((fixB x : Int) == 0) = true) : Calls Try.prog 26 #[.agg #[.int .i64 (k : Nat), .int .i64 n, .float .f64 x], .int .i64 len] w fun e w' => e = .returned (.bool (numB k n len)) ∧ Chg w w' Nothing := by
  obtain ⟨ws, f0, f1, f2, f3, f4⟩ := rows_at h1 h2
  have b1 : decide ((k : Int) < 1) = false := decide_eq_false (by omega)
  have b2 : decide (20 < (k : Int)) = false := decide_eq_false (by omega)
  have b21 : (k : Int) < 21 := by omega
  have HN := Lib.hid (show numB k n len = if loOf k < 0 then decide (0 ≤ n) && decide (n < len) else decide (loOf k ≤ n) && decide (n ≤ hiOf k) from rfl)
  have b3 : ((k : Int) != 1) = true := by simp; omega
  have H4 := Lib.hid h4
  clear h1 h2 h3 h4
  generalize loOf k = LO at *
  generalize hiOf k = HI at *
  generalize takesOf k = TK at *
  generalize laysOf k = LY at *
  go_enter Try.func26, Try.ntmps26
  go_wp2_with fail
  refine (rbits_any _ _).mono ?_
  rintro e w9 ⟨rfl, rfl⟩
  have h5 : ((fixB x : Int) != 0) = false := by rw [bne, H4.out]; rfl
  go_wp2_with fail
  go_upto_region 3 with fail
  go_cut [5] (fun v wx => RowBox w n LO HI v wx)
  case first => as_aux_lemma =>
    go_region_law (first | (go_simp; go_at_call 31; refine (rrows_run _).mono ?_; rintro e w1 ⟨rfl, rfl⟩))
    all_goals
      go_wp2_with fail
      go_meet
      exact ⟨_, rfl, by simp [go_sem], by simp [go_sem], by simp [go_sem], by repeat (first | exact Chg.refl _ _ | refine Chg.drew ?_ | refine Chg.drewN ?_ _ | refine Chg.alloc ?_ _)⟩
  case rest =>
    obtain ⟨r, rfl, e1, e2, e3, hc⟩ := hcut
    have HC := Lib.hid hc
    clear hc
    by_cases hlo : LO < 0
    · have c1 : decide (LO < 0) = true := decide_eq_true hlo
      rw [if_pos hlo] at HN
      clear hlo
      go_wp2_with fail
      all_goals
        go_ret
        first
          | exact ⟨by rw [HN.out]; rfl, HC.out⟩
          | exact ⟨by rw [HN.out, decide_eq_true (show (0 : Int) ≤ n by omega)]; rfl, HC.out⟩
          | exact ⟨by rw [HN.out, decide_eq_false (show ¬ (0 : Int) ≤ n by omega)]; rfl, HC.out⟩
    · have c1 : decide (LO < 0) = false := decide_eq_false hlo
      rw [if_neg hlo] at HN
      clear hlo
      go_wp2_with fail
      all_goals
        go_ret
        first
          | exact ⟨by rw [HN.out]; rfl, HC.out⟩
          | exact ⟨by rw [HN.out, decide_eq_true (show LO ≤ n by omega)]; rfl, HC.out⟩
          | exact ⟨by rw [HN.out, decide_eq_false (show ¬ LO ≤ n by omega)]; rfl, HC.out⟩


theorem rmay_any (op n : Int) (x : Nat) (len : Int) (w : World) : Calls Try.prog 26 #[.agg #[.int .i64 op, .int .i64 n, .float .f64 x], .int .i64 len] w fun e w' => e = .returned (.bool (mayB op n x len)) ∧ Chg w w' Nothing := by
  by_cases h1 : 1 ≤ op
  · by_cases h2 : op ≤ 20
    · obtain ⟨k, rfl⟩ : ∃ k : Nat, op = k := ⟨op.toNat, by omega⟩
      by_cases h3 : k = 1
      · rw [mayB_num h1 h2 (by subst h3; simp)]
        exact rmay_one k n x len w (by omega) (by omega) h3
      · cases h4 : ((fixB x : Int) == 0) with
        | false =>
          have : mayB k n x len = false := by
            unfold mayB
            rw [h4, show ((k : Int) == 1) = false by rw [beq_eq_false_iff_ne]; omega]
            simp
          rw [this]
          exact rmay_not k n x len w h1 h2 (by omega) h4
        | true =>
          rw [mayB_num h1 h2 (by rw [h4]; simp)]
          exact rmay_other k n x len w (by omega) (by omega) h3 h4
    · have : mayB op n x len = false := by unfold mayB; rw [decide_eq_false h2, Bool.false_and, Bool.and_false]
      rw [this]
      exact rmay_high op n x len w (by omega)
  · have : mayB op n x len = false := by unfold mayB; rw [decide_eq_false h1, Bool.false_and]
    rw [this]
    exact rmay_low op n x len w (by omega)
end Go.Proofs.Ythgcmafeahlmpaa
