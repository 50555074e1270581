/- What the operations of two numbers compute. -/
import Derived.Test.YtenebkiiemlecaaN6
namespace Go.Proofs.Ytenebkiiemlecaa
open Go Go.RowKit
set_option linter.unusedVariables false
set_option linter.unusedSimpArgs false

/-- Reckoning: what comes of it, each NaN the one. -/
def arV (op : BinOp) (a b : Nat) : Nat := match floatBits op .f64 a b with | some r => fixB r | none => qn
theorem ar_run (op : BinOp) (hop : op = .add ∨ op = .sub ∨ op = .mul ∨ op = .quo) (T : TypeId) (a b : Nat) (w : World) : ∃ r m, (binOp op T (fl a) (fl b)).run Try.prog w = .ok (fl r) (w.drewN m) ∧ fixB r = arV op a b := by
  unfold arV
  cases h : floatBits op .f64 a b with
  | some r => exact ⟨r, 0, run_float_arith w op T .f64 a b r h, rfl⟩
  | none =>
    refine ⟨(Question.nanBits .f64 a b).cut (w.tape w.drawn (Question.nanBits .f64 a b)), 1, ?_, fixB_isNaN (cut_nan a b _)⟩
    have hc : (choose (.nanBits .f64 a b)).run Try.prog w = .ok ((Question.nanBits .f64 a b).cut (w.tape w.drawn (Question.nanBits .f64 a b))) w.drew := by rw [run_choose_drew]; rfl
    have e : binOp op T (fl a) (fl b) = (choose (.nanBits .f64 a b) >>= fun r => pure (.float .f64 r)) := by
      rcases hop with rfl | rfl | rfl | rfl
      all_goals
        simp only [floatBits] at h
        simp [binOp, Op.floatArith, h]
    rw [e, Sem.run_bind, hc]
    rfl
theorem nanf_any (w : World) : Calls Try.prog 36 #[] w fun e w' => e = .returned (fl 9221120237041090561) ∧ w = w' := by
  go_enter Try.func36, Try.ntmps36
  go_wp2
  go_ret
  exact ⟨rfl, rfl⟩

theorem fadd_any (a b : Nat) (w : World) : Calls Try.prog 60 #[fl a, fl b] w fun e w' => ∃ r, e = .returned (fl r) ∧ fixB r = arV .add a b ∧ ∃ m, w' = w.drewN m := by
  obtain ⟨r, m, h1, h2⟩ := ar_run .add (by simp) 23 a b w
  have H2 := Lib.hid h2
  clear h2
  go_enter Try.func60, Try.ntmps60
  go_wp2
  go_ret
  exact ⟨r, rfl, H2.out, m, rfl⟩

theorem fsub_any (a b : Nat) (w : World) : Calls Try.prog 61 #[fl a, fl b] w fun e w' => ∃ r, e = .returned (fl r) ∧ fixB r = arV .sub a b ∧ ∃ m, w' = w.drewN m := by
  obtain ⟨r, m, h1, h2⟩ := ar_run .sub (by simp) 23 a b w
  have H2 := Lib.hid h2
  clear h2
  go_enter Try.func61, Try.ntmps61
  go_wp2
  go_ret
  exact ⟨r, rfl, H2.out, m, rfl⟩

theorem fmul_any (a b : Nat) (w : World) : Calls Try.prog 62 #[fl a, fl b] w fun e w' => ∃ r, e = .returned (fl r) ∧ fixB r = arV .mul a b ∧ ∃ m, w' = w.drewN m := by
  obtain ⟨r, m, h1, h2⟩ := ar_run .mul (by simp) 23 a b w
  have H2 := Lib.hid h2
  clear h2
  go_enter Try.func62, Try.ntmps62
  go_wp2
  go_ret
  exact ⟨r, rfl, H2.out, m, rfl⟩

theorem fquo_any (a b : Nat) (w : World) : Calls Try.prog 63 #[fl a, fl b] w fun e w' => ∃ r, e = .returned (fl r) ∧ fixB r = arV .quo a b ∧ ∃ m, w' = w.drewN m := by
  obtain ⟨r, m, h1, h2⟩ := ar_run .quo (by simp) 23 a b w
  have H2 := Lib.hid h2
  clear h2
  go_enter Try.func63, Try.ntmps63
  go_wp2
  go_ret
  exact ⟨r, rfl, H2.out, m, rfl⟩


end Go.Proofs.Ytenebkiiemlecaa
