/- FieldMuls walked: it returns true. -/
import Derived.Test.YthapmjnhnfcaeaaTo
import Derived.Test.YthapmjnhnfcaeaaRefX
namespace Go.Proofs.Ythapmjnhnfcaeaa
open Go.RowKit
theorem rmul_to (X Y M : Nat) (hX : X < 256) (hY : Y < 256) (h : GF.mul X Y = M) (w : World) :
    Calls Try.prog 19 #[.int .u8 (X : Int), .int .u8 (Y : Int)] w fun e w' => e = .returned (.int .u8 (M : Int)) ∧ w = w' := by
  subst h; exact rmul_nat X Y hX hY w
theorem rpow_to (X n M : Nat) (hX : X < 256) (hN : U64 n) (h : GF.npow X n = M) (w : World) :
    Calls Try.prog 20 #[.int .u8 (X : Int), .int .u64 (n : Int)] w fun e w' => e = .returned (.int .u8 (M : Int)) ∧ w = w' := by
  subst h; exact rpow_nat X n hX hN w
set_option maxRecDepth 100000 in
set_option maxHeartbeats 1000000 in
theorem muls_of (X Y K A M P : Nat) (hX : X < 256) (hY : Y < 256) (hK : U64 K) (hA : Hid (X ^^^ Y = A)) (hM : Hid (GF.mul X Y = M)) (hP : Hid (GF.npow X K = P)) (hb : bits .xor .u8 (X : Int) (Y : Int) = (A : Int)) (w : World) :
    Calls Try.prog 7 #[.int .u8 (X : Int), .int .u8 (Y : Int), .int .u64 (K : Int)] w fun e w' => e = .returned (.bool true) ∧ Fresh w w' := by
  have eA : ((A : Int) == (A : Int)) = true := beq_self_eq_true _
  have eM : ((M : Int) == (M : Int)) = true := beq_self_eq_true _
  have eP : ((P : Int) == (P : Int)) = true := beq_self_eq_true _
  go_enter Try.func7, Try.ntmps7
  go_wp2_with fail
  refine (shown_yes w).mono ?_
  rintro e w1 ⟨rfl, hf⟩
  have F1 := Lib.hid hf
  clear hf
  go_wp2_with fail
  refine (add_to X Y A hX hY hA.out w1).mono ?_
  rintro e wz ⟨rfl, rfl⟩
  go_wp2_with fail
  refine (mul_to X Y M hX hY hM.out w1).mono ?_
  rintro e wz ⟨rfl, rfl⟩
  go_wp2_with fail
  refine (rmul_to X Y M hX hY hM.out w1).mono ?_
  rintro e wz ⟨rfl, rfl⟩
  go_wp2_with fail
  refine (pow_to X K P hX hK hP.out w1).mono ?_
  rintro e wz ⟨rfl, rfl⟩
  go_wp2_with fail
  refine (rpow_to X K P hX hK hP.out w1).mono ?_
  rintro e wz ⟨rfl, rfl⟩
  go_wp2
  go_ret
  exact ⟨rfl, F1.out⟩
theorem muls_any (X Y K : Nat) (hX : X < 256) (hY : Y < 256) (hK : U64 K) (w : World) :
    Calls Try.prog 7 #[.int .u8 (X : Int), .int .u8 (Y : Int), .int .u64 (K : Int)] w fun e w' => e = .returned (.bool true) ∧ Fresh w w' :=
  muls_of X Y K _ _ _ hX hY hK (Lib.hid rfl) (Lib.hid rfl) (Lib.hid rfl) (bits_xor_u8 X Y hX hY) w
end Go.Proofs.Ythapmjnhnfcaeaa
