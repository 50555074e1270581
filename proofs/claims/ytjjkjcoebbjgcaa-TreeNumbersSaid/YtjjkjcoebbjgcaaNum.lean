/- Floats by their bits: the small functions of layer 1 that the layers above use. -/
import Derived.Test.YtjjkjcoebbjgcaaBase
import Derived.Test.YtjjkjcoebbjgcaaProg
namespace Go.Proofs.Ytjjkjcoebbjgcaa
open Go Go.RowKit
set_option maxRecDepth 100000
set_option maxHeartbeats 1000000
set_option linter.unusedVariables false
set_option linter.unusedSimpArgs false

/-- math's two views of a float's bits. -/
theorem bits_law (b : Nat) (w : World) : (callFunc 110 #[.float .f64 b]).run Try.prog w = .ok (.value (.int .u64 b)) w := by
  rw [run_callFunc_extern (e := Extern.MathFloatBits.float64bits) Try.func110 (by kernel_rfl) (by kernel_rfl) (by kernel_rfl) (by kernel_rfl)]
  rfl
theorem frombits_law (b : Int) (w : World) : (callFunc 112 #[.int .u64 b]).run Try.prog w = .ok (.value (.float .f64 b.toNat)) w := by
  rw [run_callFunc_extern (e := Extern.MathFloatBits.float64frombits) Try.func112 (by kernel_rfl) (by kernel_rfl) (by kernel_rfl) (by kernel_rfl)]
  rfl
attribute [go_sem] bits_law frombits_law

/-- Is it a NaN? -/
def nanB (b : Nat) : Bool := FloatKind.f64.format.order b b != some .eq
/-- The one NaN in the place of each. -/
def fixB (b : Nat) : Nat := if nanB b then 9221120237041090560 else b

theorem fix_any (b : Nat) (w : World) : Calls Try.prog 111 #[.float .f64 b] w fun e w' => e = .returned (.float .f64 (fixB b)) ∧ w = w' := by
  have HF := Lib.hid (show fixB b = if nanB b then 9221120237041090560 else b from rfl)
  by_cases h : nanB b = true
  · have hn : (FloatKind.f64.format.order b b != some .eq) = true := h
    rw [if_pos h] at HF
    go_enter Try.func111, Try.ntmps111
    go_wp2
    go_ret
    rw [HF.out]
    exact ⟨rfl, rfl⟩
  · have hn : (FloatKind.f64.format.order b b != some .eq) = false := by simpa [nanB] using h
    rw [if_neg h] at HF
    go_enter Try.func111, Try.ntmps111
    go_wp2
    go_ret
    rw [HF.out]
    exact ⟨rfl, rfl⟩

theorem nbits_any (b : Nat) (w : World) : Calls Try.prog 109 #[.float .f64 b] w fun e w' => e = .returned (.int .u64 (fixB b)) ∧ w = w' := by
  go_enter Try.func109, Try.ntmps109
  go_wp2_with fail
  refine (fix_any _ _).mono ?_
  rintro e w' ⟨rfl, rfl⟩
  go_wp2_with fail
  go_ret
  exact ⟨rfl, rfl⟩

theorem same_any (a b : Nat) (w : World) : Calls Try.prog 103 #[.float .f64 a, .float .f64 b] w fun e w' => e = .returned (.bool ((fixB a : Int) == (fixB b : Int))) ∧ w = w' := by
  go_enter Try.func103, Try.ntmps103
  go_wp2_with fail
  refine (nbits_any _ _).mono ?_
  rintro e w' ⟨rfl, rfl⟩
  go_wp2_with fail
  refine (nbits_any _ _).mono ?_
  rintro e w' ⟨rfl, rfl⟩
  go_wp2_with fail
  go_ret
  exact ⟨rfl, rfl⟩


end Go.Proofs.Ytjjkjcoebbjgcaa
