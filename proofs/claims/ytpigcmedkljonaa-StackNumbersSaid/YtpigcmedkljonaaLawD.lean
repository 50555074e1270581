/- StackNumbers: the walk. -/
import Derived.Test.YtpigcmedkljonaaSI
import Derived.Test.YtpigcmedkljonaaSS
namespace Go.Proofs.Ytpigcmedkljonaa
open Go Go.RowKit
set_option linter.unusedVariables false
set_option linter.unusedSimpArgs false

theorem numbers_walk (w : World) : Calls Try.prog 3 #[] w fun e w' => e = .returned (.bool true) ∧ Chg w w' Nothing := by
  go_enter Try.func3, Try.ntmps3
  go_wp2_with fail
  refine (SS.new_any 1099511627776 _).mono ?_
  rintro e w1 ⟨p, rfl, hp, s1, c1⟩
  rw [show roomOf 1099511627776 = 65536 from by decide] at s1
  go_wp2_with fail
  refine (SI.new_any (-3) _).mono ?_
  rintro e w2 ⟨q, rfl, hq, s2, c2⟩
  rw [show roomOf (-3) = 0 from by decide] at s2
  have s1' := s1.chg c2 (fun _ _ h => h)
  have R := Lib.hid (show Chg w w2 Nothing from c1.trans c2 (fun _ _ h => h))
  clear s1 c1 c2 hp hq
  go_wp2_with fail
  refine (SS.room_any _ _ _ _ _ s1').mono ?_
  rintro e w3 ⟨rfl, rfl⟩
  go_wp2_with fail
  refine (SI.room_any _ _ _ _ _ s2).mono ?_
  rintro e w3 ⟨rfl, rfl⟩
  go_wp2_with fail
  go_ret
  exact ⟨rfl, R.out⟩
end Go.Proofs.Ytpigcmedkljonaa
