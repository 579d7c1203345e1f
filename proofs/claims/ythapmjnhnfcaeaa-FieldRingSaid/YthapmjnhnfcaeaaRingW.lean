/- FieldRing walked: it returns true. -/
import Derived.Test.YthapmjnhnfcaeaaTo
namespace Go.Proofs.Ythapmjnhnfcaeaa
open Go.RowKit
set_option maxRecDepth 100000 in
set_option maxHeartbeats 1000000 in
theorem ring_of (X Y Z M Q P R A B C : Nat) (hX : X < 256) (hY : Y < 256) (hZ : Z < 256) (hM : M < 256) (hP : P < 256) (hA : A < 256) (hR : R < 256) (hC : C < 256) (e1 : Hid (GF.mul X Y = M)) (e2 : Hid (GF.mul Y X = M)) (e3 : Hid (GF.mul M Z = Q)) (e4 : Hid (GF.mul Y Z = P)) (e5 : Hid (GF.mul X P = Q)) (e6 : Hid (Y ^^^ Z = A)) (e7 : Hid (GF.mul X A = B)) (e8 : Hid (GF.mul X Z = R)) (e9 : Hid (M ^^^ R = B)) (e10 : Hid (X ^^^ Y = C)) (e11 : Hid (C ^^^ Y = X)) (e12 : Hid (GF.mul X 1 = X)) (e13 : Hid (GF.mul X 0 = 0)) (w : World) :
    Calls Try.prog 8 #[.int .u8 (X : Int), .int .u8 (Y : Int), .int .u8 (Z : Int)] w fun e w' => e = .returned (.bool true) ∧ Fresh w w' := by
  have eX : ((X : Int) == (X : Int)) = true := beq_self_eq_true _
  have eM : ((M : Int) == (M : Int)) = true := beq_self_eq_true _
  have eQ : ((Q : Int) == (Q : Int)) = true := beq_self_eq_true _
  have eB : ((B : Int) == (B : Int)) = true := beq_self_eq_true _
  go_enter Try.func8, Try.ntmps8
  go_wp2_with fail
  refine (shown_yes w).mono ?_
  rintro e w1 ⟨rfl, hf⟩
  have F1 := Lib.hid hf
  clear hf
  go_wp2_with fail
  refine (mul_to X Y M hX hY e1.out w1).mono ?_
  rintro e wz ⟨rfl, rfl⟩
  go_wp2_with fail
  refine (mul_to Y X M hY hX e2.out w1).mono ?_
  rintro e wz ⟨rfl, rfl⟩
  go_wp2_with fail
  refine (mul_to X Y M hX hY e1.out w1).mono ?_
  rintro e wz ⟨rfl, rfl⟩
  go_wp2_with fail
  refine (mul_to M Z Q hM hZ e3.out w1).mono ?_
  rintro e wz ⟨rfl, rfl⟩
  go_wp2_with fail
  refine (mul_to Y Z P hY hZ e4.out w1).mono ?_
  rintro e wz ⟨rfl, rfl⟩
  go_wp2_with fail
  refine (mul_to X P Q hX hP e5.out w1).mono ?_
  rintro e wz ⟨rfl, rfl⟩
  go_wp2_with fail
  refine (add_to Y Z A hY hZ e6.out w1).mono ?_
  rintro e wz ⟨rfl, rfl⟩
  go_wp2_with fail
  refine (mul_to X A B hX hA e7.out w1).mono ?_
  rintro e wz ⟨rfl, rfl⟩
  go_wp2_with fail
  refine (mul_to X Y M hX hY e1.out w1).mono ?_
  rintro e wz ⟨rfl, rfl⟩
  go_wp2_with fail
  refine (mul_to X Z R hX hZ e8.out w1).mono ?_
  rintro e wz ⟨rfl, rfl⟩
  go_wp2_with fail
  refine (add_to M R B hM hR e9.out w1).mono ?_
  rintro e wz ⟨rfl, rfl⟩
  go_wp2_with fail
  refine (mul_to X 1 X hX (by omega) e12.out w1).mono ?_
  rintro e wz ⟨rfl, rfl⟩
  go_wp2_with fail
  refine (mul_to X 0 0 hX (by omega) e13.out w1).mono ?_
  rintro e wz ⟨rfl, rfl⟩
  go_wp2_with fail
  refine (add_to X Y C hX hY e10.out w1).mono ?_
  rintro e wz ⟨rfl, rfl⟩
  go_wp2_with fail
  refine (add_to C Y X hC hY e11.out w1).mono ?_
  rintro e wz ⟨rfl, rfl⟩
  go_wp2
  go_ret
  exact ⟨rfl, F1.out⟩
theorem ring_any (X Y Z : Nat) (hX : X < 256) (hY : Y < 256) (hZ : Z < 256) (w : World) :
    Calls Try.prog 8 #[.int .u8 (X : Int), .int .u8 (Y : Int), .int .u8 (Z : Int)] w fun e w' => e = .returned (.bool true) ∧ Fresh w w' :=
  ring_of X Y Z _ _ _ _ _ _ _ hX hY hZ (GF.mul_lt X Y hX) (GF.mul_lt Y Z hY) (GF.xor_lt hY hZ) (GF.mul_lt X Z hX) (GF.xor_lt hX hY) (Lib.hid rfl) (Lib.hid (GF.mul_comm hY hX)) (Lib.hid rfl) (Lib.hid rfl)
    (Lib.hid (GF.mul_assoc hX hY hZ).symm) (Lib.hid rfl) (Lib.hid rfl) (Lib.hid rfl) (Lib.hid (GF.mul_add X Y Z).symm) (Lib.hid rfl) (Lib.hid (by rw [Nat.xor_assoc, Nat.xor_self, Nat.xor_zero])) (Lib.hid (GF.mul_one X hX)) (Lib.hid (GF.mul_zero X hX)) w
end Go.Proofs.Ythapmjnhnfcaeaa
