/- The examples at the head of all statements hold. -/
import Derived.Test.YthapmjnhnfcaeaaLogW
namespace Go.Proofs.Ythapmjnhnfcaeaa
open Go.RowKit
set_option maxHeartbeats 400000 in
theorem shown_yes (w : World) :
    Calls Try.prog 11 #[] w fun e w' => e = .returned (.bool true) ∧ Fresh w w' := by
  have e1 := Lib.hid (show GF.inv 2 = 142 by decide +kernel)
  have e2 := Lib.hid (show GF.lg 8 = 3 by decide +kernel)
  have e3 := Lib.hid (show GF.mul 2 128 = 29 by decide +kernel)
  have e4 := Lib.hid (show GF.mul 3 7 = 9 by decide +kernel)
  go_enter Try.func11, Try.ntmps11
  go_wp2_with fail
  refine (inv_nat 2 (by omega) (by omega) w).mono ?_
  rintro e w' ⟨rfl, rfl⟩
  rw [e1.out]
  go_wp2_with fail
  refine (log_nat 8 (by omega) (by omega) w).mono ?_
  rintro e w' ⟨rfl, hf⟩
  have HF := Lib.hid hf
  clear hf
  rw [e2.out]
  go_wp2_with fail
  refine (mul_nat 2 128 (by omega) (by omega) w').mono ?_
  rintro e w'' ⟨rfl, rfl⟩
  rw [e3.out]
  go_wp2_with fail
  refine (mul_nat 3 7 (by omega) (by omega) w').mono ?_
  rintro e w'' ⟨rfl, rfl⟩
  rw [e4.out]
  go_wp2
  go_ret
  exact ⟨rfl, HF.out⟩
end Go.Proofs.Ythapmjnhnfcaeaa
