/- What the operations of one number compute. -/
import Derived.Test.YtenebkiiemlecaaN2
namespace Go.Proofs.Ytenebkiiemlecaa
open Go Go.RowKit
set_option linter.unusedVariables false
set_option linter.unusedSimpArgs false

def qn : Nat := 9221120237041090560
theorem fixB_isNaN {b : Nat} (h : isNaN b = true) : fixB b = qn := fixB_nan h

/-- A NaN that the tape names. -/
theorem cut_nan (x y t : Nat) : isNaN ((Question.nanBits .f64 x y).cut t) = true := by
  refine decide_eq_true ?_
  show 9218868437227405312 < (t % 2 * 9223372036854775808 + 9218868437227405312 + 1 + t / 2 % 4503599627370495) % 9223372036854775808
  have h := Nat.mod_lt (t / 2) (show 0 < 4503599627370495 by decide)
  have h2 := Nat.mod_lt t (show 0 < 2 by decide)
  generalize t / 2 % 4503599627370495 = k at h ⊢
  generalize t % 2 = j at h2 ⊢
  rcases Nat.lt_or_ge j 1 with h3 | h3
  · obtain rfl : j = 0 := by omega
    omega
  · obtain rfl : j = 1 := by omega
    omega

theorem quiet_nan (s : Bool) {b : Nat} (h : 9218868437227405312 < rungB b) : isNaN (f64.write (.nan s (f64.quiet (rungB b - 9218868437227405312)))) = true := by
  have hlt := rungB_lt b
  obtain ⟨t, ht⟩ : ∃ t, t = rungB b - 9218868437227405312 := ⟨_, rfl⟩
  rw [← ht]
  have ht2 : t < 2 ^ 52 := by omega
  have hq : f64.quiet t = t ||| 2 ^ 51 := rfl
  have h1 : t ||| 2 ^ 51 < 2 ^ 52 := Nat.or_lt_two_pow ht2 (by decide)
  have h2 : 2 ^ 51 ≤ t ||| 2 ^ 51 := Nat.right_le_or
  rw [hq]
  generalize t ||| 2 ^ 51 = q at h1 h2
  show isNaN (f64.word s (9218868437227405312 + q % 4503599627370496)) = true
  have h3 : q < 4503599627370496 := h1
  have h4 : 2251799813685248 ≤ q := h2
  rw [Nat.mod_eq_of_lt h3]
  cases s
  · refine decide_eq_true ?_
    show 9218868437227405312 < (9218868437227405312 + q) % 9223372036854775808
    omega
  · refine decide_eq_true ?_
    show 9218868437227405312 < (9223372036854775808 + (9218868437227405312 + q)) % 9223372036854775808
    omega

/-- A number made whole, each NaN the one. -/
def wholeV (way : Ieee.Toward) (b : Nat) : Nat := if isNaN b then qn else fixB (f64.write ((f64.read b).integral way))

theorem whole_run (name : String) (way : Ieee.Toward) (b : Nat) (w : World) : ∃ r m, (Extern.MathFloor.toIntegral name way #[fl b]).run Try.prog w = .ok (fl r) (w.drewN m) ∧ fixB r = wholeV way b := by
  unfold wholeV
  have e : Extern.MathFloor.toIntegral name way #[fl b] = (match f64.read b with
      | .nan s t => if f64.quiet t = t then pure (.float .f64 b) else (choose (.extern "math.Floor,Ceil,Trunc,RoundToEven.signallingNaN kept" 2) >>= fun kept => pure (.float .f64 (if kept == 1 then b else f64.write (.nan s (f64.quiet t)))))
      | d => pure (.float .f64 (f64.write (d.integral way)))) := rfl
  rw [e]
  cases hn : isNaN b with
  | false =>
    have hr : rungB b ≤ 9218868437227405312 := by simpa [isNaN] using hn
    refine ⟨f64.write ((f64.read b).integral way), 0, ?_, rfl⟩
    rcases Nat.lt_or_eq_of_le hr with h | h
    · obtain ⟨m, p, e, _⟩ := read_fin h
      rw [e]
      rfl
    · rw [read_inf h]
      rfl
  | true =>
    have hr : 9218868437227405312 < rungB b := by simpa [isNaN] using hn
    rw [read_nan hr]
    by_cases hq : f64.quiet (rungB b - 9218868437227405312) = rungB b - 9218868437227405312
    · refine ⟨b, 0, ?_, fixB_isNaN hn⟩
      simp only [if_pos hq]
      rfl
    · simp only [if_neg hq]
      generalize hK : (Question.extern "math.Floor,Ceil,Trunc,RoundToEven.signallingNaN kept" 2).cut (w.tape w.drawn (Question.extern "math.Floor,Ceil,Trunc,RoundToEven.signallingNaN kept" 2)) = K
      have hc : (choose (.extern "math.Floor,Ceil,Trunc,RoundToEven.signallingNaN kept" 2)).run Try.prog w = .ok K w.drew := by rw [run_choose_drew, hK]; rfl
      by_cases hk : (K == 1) = true
      · refine ⟨b, 1, ?_, fixB_isNaN hn⟩
        rw [Sem.run_bind, hc]
        simp [Result.andThen, hk]
        rfl
      · refine ⟨f64.write (.nan (negB b) (f64.quiet (rungB b - 9218868437227405312))), 1, ?_, fixB_isNaN (quiet_nan _ hr)⟩
        rw [Sem.run_bind, hc]
        simp only [Result.andThen, if_neg hk]
        rfl

def sqrtV (b : Nat) : Nat := match f64.sqrt b with | some r => fixB r | none => qn
theorem sqrt_run (b : Nat) (w : World) : ∃ r m, (Extern.MathSqrt.sqrt #[fl b]).run Try.prog w = .ok (fl r) (w.drewN m) ∧ fixB r = sqrtV b := by
  unfold sqrtV
  have e : Extern.MathSqrt.sqrt #[fl b] = (match f64.sqrt b with
      | some r => pure (.float .f64 r)
      | none => (choose (.nanBits .f64 b b) >>= fun r => pure (.float .f64 r))) := rfl
  rw [e]
  cases h : f64.sqrt b with
  | some r => exact ⟨r, 0, rfl, rfl⟩
  | none =>
    refine ⟨(Question.nanBits .f64 b b).cut (w.tape w.drawn (Question.nanBits .f64 b b)), 1, ?_, fixB_isNaN (cut_nan b b _)⟩
    have hc : (choose (.nanBits .f64 b b)).run Try.prog w = .ok ((Question.nanBits .f64 b b).cut (w.tape w.drawn (Question.nanBits .f64 b b))) w.drew := by rw [run_choose_drew]; rfl
    show Sem.run _ (choose _ >>= _) w = _
    rw [Sem.run_bind, hc]
    rfl

theorem floor_any (b : Nat) (w : World) : Calls Try.prog 39 #[fl b] w fun e w' => ∃ r, e = .returned (fl r) ∧ fixB r = wholeV .down b ∧ ∃ m, w' = w.drewN m := by
  obtain ⟨r, m, h1, h2⟩ := whole_run "math.archFloor" .down b w
  have hext : (callFunc 57 #[fl b]).run Try.prog w = .ok (.value (fl r)) (w.drewN m) := by
    rw [run_callFunc_extern (e := Extern.MathFloor.toIntegral "math.archFloor" .down) Try.func57 (by kernel_rfl) (by kernel_rfl) (by kernel_rfl) (by kernel_rfl), h1]
    rfl
  have H2 := Lib.hid h2
  clear h1 h2
  go_enter Try.func39, Try.ntmps39
  go_wp2
  go_ret
  exact ⟨r, rfl, H2.out, m, rfl⟩
theorem trunc_any (b : Nat) (w : World) : Calls Try.prog 49 #[fl b] w fun e w' => ∃ r, e = .returned (fl r) ∧ fixB r = wholeV .zero b ∧ ∃ m, w' = w.drewN m := by
  obtain ⟨r, m, h1, h2⟩ := whole_run "math.archTrunc" .zero b w
  have hext : (callFunc 73 #[fl b]).run Try.prog w = .ok (.value (fl r)) (w.drewN m) := by
    rw [run_callFunc_extern (e := Extern.MathFloor.toIntegral "math.archTrunc" .zero) Try.func73 (by kernel_rfl) (by kernel_rfl) (by kernel_rfl) (by kernel_rfl), h1]
    rfl
  have H2 := Lib.hid h2
  clear h1 h2
  go_enter Try.func49, Try.ntmps49
  go_wp2
  go_ret
  exact ⟨r, rfl, H2.out, m, rfl⟩
theorem sqrt_any (b : Nat) (w : World) : Calls Try.prog 40 #[fl b] w fun e w' => ∃ r, e = .returned (fl r) ∧ fixB r = sqrtV b ∧ ∃ m, w' = w.drewN m := by
  obtain ⟨r, m, h1, h2⟩ := sqrt_run b w
  have hext : (callFunc 59 #[fl b]).run Try.prog w = .ok (.value (fl r)) (w.drewN m) := by
    rw [run_callFunc_extern (e := Extern.MathSqrt.sqrt) Try.func59 (by kernel_rfl) (by kernel_rfl) (by kernel_rfl) (by kernel_rfl), h1]
    rfl
  have H2 := Lib.hid h2
  clear h1 h2
  go_enter Try.func40, Try.ntmps40
  go_wp2
  go_ret
  exact ⟨r, rfl, H2.out, m, rfl⟩

def yesW (b : Bool) : Nat := if b then 4607182418800017408 else 0
theorem yes_any (b : Bool) (w : World) : Calls Try.prog 53 #[.bool b] w fun e w' => e = .returned (fl (yesW b)) ∧ w = w' := by
  cases b with
  | true =>
    go_enter Try.func53, Try.ntmps53
    go_wp2
    go_ret
    exact ⟨rfl, rfl⟩
  | false =>
    go_enter Try.func53, Try.ntmps53
    go_wp2
    go_ret
    exact ⟨rfl, rfl⟩
theorem ryes_any (b : Bool) (w : World) : Calls Try.prog 41 #[.bool b] w fun e w' => e = .returned (fl (yesW b)) ∧ w = w' := by
  cases b with
  | true =>
    go_enter Try.func41, Try.ntmps41
    go_wp2
    go_ret
    exact ⟨rfl, rfl⟩
  | false =>
    go_enter Try.func41, Try.ntmps41
    go_wp2
    go_ret
    exact ⟨rfl, rfl⟩
@[go_sem] theorem unary_neg_float (k : FloatKind) (b : Nat) : Op.unary .neg (.float k b) = pure (.float k (Op.negFloat k b)) := rfl
theorem neg_any (b : Nat) (w : World) : Calls Try.prog 50 #[fl b] w fun e w' => e = .returned (fl (Op.negFloat .f64 b)) ∧ w = w' := by
  go_enter Try.func50, Try.ntmps50
  go_wp2
  go_ret
  exact ⟨rfl, rfl⟩
def absW (b : Nat) : Nat := (bits .andNot .u64 b 9223372036854775808).toNat
theorem abs_any (b : Nat) (w : World) : Calls Try.prog 51 #[fl b] w fun e w' => e = .returned (fl (absW b)) ∧ w = w' := by
  go_enter Try.func51, Try.ntmps51
  go_wp2
  go_ret
  exact ⟨rfl, rfl⟩
theorem not_any (b : Nat) (w : World) : Calls Try.prog 52 #[fl b] w fun e w' => e = .returned (fl (yesW (!trueB b))) ∧ w = w' := by
  go_enter Try.func52, Try.ntmps52
  go_wp2_with fail
  refine (true_any _ _).mono ?_
  rintro e w' ⟨rfl, rfl⟩
  go_wp2_with fail
  refine (yes_any _ _).mono ?_
  rintro e w' ⟨rfl, rfl⟩
  go_wp2_with fail
  go_ret
  exact ⟨rfl, rfl⟩
theorem isnan_any (b : Nat) (w : World) : Calls Try.prog 54 #[fl b] w fun e w' => e = .returned (fl (yesW (isNaN b))) ∧ w = w' := by
  have he : (!eqF b b) = isNaN b := by rw [eqF_self]; simp
  have HE := Lib.hid he
  clear he
  go_enter Try.func54, Try.ntmps54
  go_wp2_with fail
  refine (yes_any _ _).mono ?_
  rintro e w' ⟨rfl, rfl⟩
  rw [HE.out]
  go_wp2_with fail
  go_ret
  exact ⟨rfl, rfl⟩
def signW (b : Nat) : Nat := if ltF 0 b then 4607182418800017408 else if ltF b 0 then 13830554455654793216 else b
theorem sign_any (b : Nat) (w : World) : Calls Try.prog 55 #[fl b] w fun e w' => e = .returned (fl (signW b)) ∧ w = w' := by
  have HC := Lib.hid (show signW b = if ltF 0 b then 4607182418800017408 else if ltF b 0 then 13830554455654793216 else b from rfl)
  cases h1 : ltF 0 b with
  | true =>
    rw [h1] at HC
    go_enter Try.func55, Try.ntmps55
    go_wp2
    go_ret
    exact ⟨by rw [HC.out]; rfl, rfl⟩
  | false =>
    cases h2 : ltF b 0 with
    | true =>
      rw [h1, h2] at HC
      go_enter Try.func55, Try.ntmps55
      go_wp2
      go_ret
      exact ⟨by rw [HC.out]; rfl, rfl⟩
    | false =>
      rw [h1, h2] at HC
      go_enter Try.func55, Try.ntmps55
      go_wp2
      go_ret
      exact ⟨by rw [HC.out]; rfl, rfl⟩
def hashI (y : Nat) : Int := bits .xor .u64 y ((y : Int) / 4294967296) % 4294967296 * 2654435769 % 4294967296 / 65536
theorem hash_any (b : Nat) (w : World) : Calls Try.prog 56 #[fl b] w fun e w' => e = .returned (fl (floatOfInt .f64 (hashI (fixB b)))) ∧ w = w' := by
  go_enter Try.func56, Try.ntmps56
  go_wp2_with fail
  refine (nbits_any _ _).mono ?_
  rintro e w' ⟨rfl, rfl⟩
  go_wp2_with fail
  go_ret
  exact ⟨rfl, rfl⟩

end Go.Proofs.Ytenebkiiemlecaa
