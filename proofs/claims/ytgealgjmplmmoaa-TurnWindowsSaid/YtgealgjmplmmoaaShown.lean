/- The examples at the head of all statements hold. -/
import Derived.Test.YtgealgjmplmmoaaPrnW
namespace Go.Proofs.Ytgealgjmplmmoaa
open Go.RowKit
set_option maxHeartbeats 400000 in
theorem shown_yes (w : World) :
    Calls Try.prog 10 #[] w fun e w' => e = .returned (.bool true) ∧ Fresh w w' := by
  have e1 := Lib.hid (show TM.print (ByteArray.mk #[0]).data.toList = (1, 0) by decide)
  have e2 := Lib.hid (show TM.print (ByteArray.mk #[0, 0]).data.toList = (6, 3) by decide)
  have e3 := Lib.hid (show TM.power 2 = (16, 30) by decide)
  have s1 := Lib.hid (show (ByteArray.mk #[0]).size ≤ maxLen by decide)
  have s2 := Lib.hid (show (ByteArray.mk #[0, 0]).size ≤ maxLen by decide)
  have u2 : U64 2 := by unfold U64; omega
  go_enter Try.func10, Try.ntmps10
  go_wp2_with fail
  refine (print_any _ s1.out 1 0 e1.out _).mono ?_
  rintro e w1 ⟨rfl, hf⟩
  have F1 := Lib.hid hf
  clear hf
  go_wp2_with fail
  refine (print_any _ s2.out 6 3 e2.out _).mono ?_
  rintro e w2 ⟨rfl, hf⟩
  have F2 := Lib.hid (F1.out.trans hf)
  clear hf
  go_wp2_with fail
  refine (power_nat 2 u2 16 30 e3.out _).mono ?_
  rintro e w3 ⟨rfl, hf⟩
  have F3 := Lib.hid (F2.out.trans hf)
  clear hf
  go_wp2
  go_ret
  exact ⟨rfl, F3.out⟩
end Go.Proofs.Ytgealgjmplmmoaa
