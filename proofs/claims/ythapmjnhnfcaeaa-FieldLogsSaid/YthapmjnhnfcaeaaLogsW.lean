/- FieldLogs walked: it returns true. -/
import Derived.Test.YthapmjnhnfcaeaaTo
namespace Go.Proofs.Ythapmjnhnfcaeaa
open Go.RowKit
set_option maxRecDepth 100000 in
set_option maxHeartbeats 1000000 in
theorem logs_x0 (Y : Nat) (w : World) :
    Calls Try.prog 10 #[.int .u8 0, .int .u8 (Y : Int)] w fun e w' => e = .returned (.bool true) ∧ Fresh w w' := by
  go_enter Try.func10, Try.ntmps10
  go_wp2_with fail
  refine (shown_yes w).mono ?_
  rintro e w1 ⟨rfl, hf⟩
  have F1 := Lib.hid hf
  clear hf
  go_wp2
  go_ret
  exact ⟨rfl, F1.out⟩
set_option maxRecDepth 100000 in
set_option maxHeartbeats 1000000 in
theorem logs_y0 (X : Nat) (h0 : X ≠ 0) (w : World) :
    Calls Try.prog 10 #[.int .u8 (X : Int), .int .u8 0] w fun e w' => e = .returned (.bool true) ∧ Fresh w w' := by
  have ht : ((X : Int) == 0) = false := by rw [beq_eq_false_iff_ne]; omega
  go_enter Try.func10, Try.ntmps10
  go_wp2_with fail
  refine (shown_yes w).mono ?_
  rintro e w1 ⟨rfl, hf⟩
  have F1 := Lib.hid hf
  clear hf
  go_wp2
  go_ret
  exact ⟨rfl, F1.out⟩
set_option maxRecDepth 100000 in
set_option maxHeartbeats 1000000 in
theorem logs_of (X Y A B M C Q D : Nat) (hX : X < 256) (hY : Y < 256) (h0 : X ≠ 0) (h1 : Y ≠ 0) (hM : M < 256) (hM0 : M ≠ 0) (hQ : Q < 256) (hQ0 : Q ≠ 0) (ha : A < 255) (hb : B < 255) (eA : Hid (GF.lg X = A)) (eB : Hid (GF.lg Y = B)) (eM : Hid (GF.mul X Y = M)) (eC : Hid (GF.lg M = C)) (eQ : Hid (GF.mul X (GF.inv Y) = Q)) (eD : Hid (GF.lg Q = D)) (t1 : ((C : Int) == ((A : Int) + (B : Int)) % 255) = true) (t2 : ((D : Int) == ((A : Int) + 255 - (B : Int)) % 255) = true) (w : World) :
    Calls Try.prog 10 #[.int .u8 (X : Int), .int .u8 (Y : Int)] w fun e w' => e = .returned (.bool true) ∧ Fresh w w' := by
  have ht : ((X : Int) == 0) = false := by rw [beq_eq_false_iff_ne]; omega
  have hty : ((Y : Int) == 0) = false := by rw [beq_eq_false_iff_ne]; omega
  go_enter Try.func10, Try.ntmps10
  go_wp2_with fail
  refine (shown_yes w).mono ?_
  rintro e w1 ⟨rfl, hf⟩
  have F1 := Lib.hid hf
  clear hf
  go_wp2_with fail
  refine (log_to X A hX h0 eA.out w1).mono ?_
  rintro e w2 ⟨rfl, hf⟩
  have F2 := Lib.hid hf
  clear hf
  go_wp2_with fail
  refine (log_to Y B hY h1 eB.out w2).mono ?_
  rintro e w3 ⟨rfl, hf⟩
  have F3 := Lib.hid hf
  clear hf
  go_wp2_with fail
  refine (mul_to X Y M hX hY eM.out w3).mono ?_
  rintro e wz ⟨rfl, rfl⟩
  go_wp2_with fail
  refine (log_to M C hM hM0 eC.out w3).mono ?_
  rintro e w4 ⟨rfl, hf⟩
  have F4 := Lib.hid hf
  clear hf
  go_wp2_with fail
  refine (div_to X Y Q hX hY h1 eQ.out w4).mono ?_
  rintro e wz ⟨rfl, rfl⟩
  go_wp2_with fail
  refine (log_to Q D hQ hQ0 eD.out w4).mono ?_
  rintro e w5 ⟨rfl, hf⟩
  have F5 := Lib.hid hf
  clear hf
  go_wp2
  go_ret
  exact ⟨rfl, ((((F1.out).trans F2.out).trans F3.out).trans F4.out).trans F5.out⟩
theorem logs_any (X Y : Nat) (hX : X < 256) (hY : Y < 256) (w : World) :
    Calls Try.prog 10 #[.int .u8 (X : Int), .int .u8 (Y : Int)] w fun e w' => e = .returned (.bool true) ∧ Fresh w w' := by
  by_cases h0 : X = 0
  · subst h0; exact logs_x0 Y w
  by_cases h1 : Y = 0
  · subst h1; exact logs_y0 X h0 w
  have hM0 : GF.mul X Y ≠ 0 := fun h => by rcases (GF.mul_eq_zero hX hY).1 h with h | h <;> contradiction
  have hI := GF.inv_lt Y hY
  have hQ0 : GF.mul X (GF.inv Y) ≠ 0 := fun h => by
    rcases (GF.mul_eq_zero hX hI).1 h with h | h
    · contradiction
    · exact GF.inv_ne hY h1 h
  refine logs_of X Y _ _ _ _ _ _ hX hY h0 h1 (GF.mul_lt X Y hX) hM0 (GF.mul_lt X _ hX) hQ0 (GF.lg_lt hX h0) (GF.lg_lt hY h1) (Lib.hid rfl) (Lib.hid rfl) (Lib.hid rfl) (Lib.hid rfl) (Lib.hid rfl) (Lib.hid rfl) ?_ ?_ w
  · rw [beq_iff_eq, GF.lg_mul hX hY h0 h1]; omega
  · have hy := GF.lg_lt hY h1
    rw [beq_iff_eq, GF.lg_div hX hY h0 h1]; omega
end Go.Proofs.Ythapmjnhnfcaeaa
