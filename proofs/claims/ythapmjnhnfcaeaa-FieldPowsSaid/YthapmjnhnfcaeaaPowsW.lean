/- FieldPows walked: it returns true. -/
import Derived.Test.YthapmjnhnfcaeaaTo
namespace Go.Proofs.Ythapmjnhnfcaeaa
open Go.RowKit
set_option maxRecDepth 100000 in
set_option maxHeartbeats 1000000 in
theorem pows_m (X m n : Nat) (h : (4611686018427387904 : Int) < (m : Int)) (w : World) :
    Calls Try.prog 5 #[.int .u8 (X : Int), .int .u64 (m : Int), .int .u64 (n : Int)] w fun e w' => e = .returned (.bool true) ∧ Fresh w w' := by
  go_enter Try.func5, Try.ntmps5
  go_wp2_with fail
  refine (shown_yes w).mono ?_
  rintro e w1 ⟨rfl, hf⟩
  have F1 := Lib.hid hf
  clear hf
  go_wp2
  go_ret
  exact ⟨rfl, F1.out⟩
set_option maxRecDepth 100000 in
set_option maxHeartbeats 1000000 in
theorem pows_n (X m n : Nat) (h : ¬ (4611686018427387904 : Int) < (m : Int)) (h2 : (4611686018427387904 : Int) < (n : Int)) (w : World) :
    Calls Try.prog 5 #[.int .u8 (X : Int), .int .u64 (m : Int), .int .u64 (n : Int)] w fun e w' => e = .returned (.bool true) ∧ Fresh w w' := by
  go_enter Try.func5, Try.ntmps5
  go_wp2_with fail
  refine (shown_yes w).mono ?_
  rintro e w1 ⟨rfl, hf⟩
  have F1 := Lib.hid hf
  clear hf
  go_wp2
  go_ret
  exact ⟨rfl, F1.out⟩
theorem pow_sum (X m n M : Nat) (hX : X < 256) (hN : U64 (m + n)) (h : GF.npow X (m + n) = M) (w : World) :
    Calls Try.prog 16 #[.int .u8 (X : Int), .int .u64 ((m : Int) + (n : Int))] w fun e w' => e = .returned (.int .u8 (M : Int)) ∧ w = w' := by
  have := pow_to X (m + n) M hX hN h w
  rwa [Int.natCast_add] at this
set_option maxRecDepth 100000 in
set_option maxHeartbeats 1000000 in
theorem pows_0 (m n A B C : Nat) (hA : A < 256) (hB : B < 256) (h : ¬ (4611686018427387904 : Int) < (m : Int)) (h2 : ¬ (4611686018427387904 : Int) < (n : Int))
    (um : U64 m) (un : U64 n) (us : U64 (m + n)) (eA : Hid (GF.npow 0 m = A)) (eB : Hid (GF.npow 0 n = B)) (eC : Hid (GF.npow 0 (m + n) = C)) (eM : Hid (GF.mul A B = C)) (w : World) :
    Calls Try.prog 5 #[.int .u8 0, .int .u64 (m : Int), .int .u64 (n : Int)] w fun e w' => e = .returned (.bool true) ∧ Fresh w w' := by
  have eC1 : ((C : Int) == (C : Int)) = true := beq_self_eq_true _
  go_enter Try.func5, Try.ntmps5
  go_wp2_with fail
  refine (shown_yes w).mono ?_
  rintro e w1 ⟨rfl, hf⟩
  have F1 := Lib.hid hf
  clear hf
  go_wp2_with fail
  refine (pow_sum 0 m n C (by omega) us eC.out w1).mono ?_
  rintro e wz ⟨rfl, rfl⟩
  go_wp2_with fail
  refine (pow_to 0 m A (by omega) um eA.out w1).mono ?_
  rintro e wz ⟨rfl, rfl⟩
  go_wp2_with fail
  refine (pow_to 0 n B (by omega) un eB.out w1).mono ?_
  rintro e wz ⟨rfl, rfl⟩
  go_wp2_with fail
  refine (mul_to A B C hA hB eM.out w1).mono ?_
  rintro e wz ⟨rfl, rfl⟩
  go_wp2
  go_ret
  exact ⟨rfl, F1.out⟩
set_option maxRecDepth 100000 in
set_option maxHeartbeats 1000000 in
theorem pows_of (X m n A B C : Nat) (hX : X < 256) (h0 : X ≠ 0) (hA : A < 256) (hB : B < 256) (h : ¬ (4611686018427387904 : Int) < (m : Int)) (h2 : ¬ (4611686018427387904 : Int) < (n : Int))
    (um : U64 m) (un : U64 n) (us : U64 (m + n)) (eA : Hid (GF.npow X m = A)) (eB : Hid (GF.npow X n = B)) (eC : Hid (GF.npow X (m + n) = C)) (eM : Hid (GF.mul A B = C)) (e1 : Hid (GF.npow X 255 = 1)) (w : World) :
    Calls Try.prog 5 #[.int .u8 (X : Int), .int .u64 (m : Int), .int .u64 (n : Int)] w fun e w' => e = .returned (.bool true) ∧ Fresh w w' := by
  have eC1 : ((C : Int) == (C : Int)) = true := beq_self_eq_true _
  have ht : ((X : Int) == 0) = false := by rw [beq_eq_false_iff_ne]; omega
  go_enter Try.func5, Try.ntmps5
  go_wp2_with fail
  refine (shown_yes w).mono ?_
  rintro e w1 ⟨rfl, hf⟩
  have F1 := Lib.hid hf
  clear hf
  go_wp2_with fail
  refine (pow_sum X m n C hX us eC.out w1).mono ?_
  rintro e wz ⟨rfl, rfl⟩
  go_wp2_with fail
  refine (pow_to X m A hX um eA.out w1).mono ?_
  rintro e wz ⟨rfl, rfl⟩
  go_wp2_with fail
  refine (pow_to X n B hX un eB.out w1).mono ?_
  rintro e wz ⟨rfl, rfl⟩
  go_wp2_with fail
  refine (mul_to A B C hA hB eM.out w1).mono ?_
  rintro e wz ⟨rfl, rfl⟩
  go_wp2_with fail
  refine (pow_to X 255 1 hX (by unfold U64; omega) e1.out w1).mono ?_
  rintro e wz ⟨rfl, rfl⟩
  go_wp2
  go_ret
  exact ⟨rfl, F1.out⟩
theorem pows_any (X m n : Nat) (hX : X < 256) (hm : m < 18446744073709551616) (hn : n < 18446744073709551616) (w : World) :
    Calls Try.prog 5 #[.int .u8 (X : Int), .int .u64 (m : Int), .int .u64 (n : Int)] w fun e w' => e = .returned (.bool true) ∧ Fresh w w' := by
  by_cases h : (4611686018427387904 : Int) < (m : Int)
  · exact pows_m X m n h w
  by_cases h2 : (4611686018427387904 : Int) < (n : Int)
  · exact pows_n X m n h h2 w
  have us : U64 (m + n) := by unfold U64; omega
  by_cases h0 : X = 0
  · subst h0
    exact pows_0 m n _ _ _ (GF.npow_lt 0 m hX) (GF.npow_lt 0 n hX) h h2 hm hn us (Lib.hid rfl) (Lib.hid rfl) (Lib.hid rfl) (Lib.hid (GF.npow_add hX m n).symm) w
  · exact pows_of X m n _ _ _ hX h0 (GF.npow_lt X m hX) (GF.npow_lt X n hX) h h2 hm hn us (Lib.hid rfl) (Lib.hid rfl) (Lib.hid rfl) (Lib.hid (GF.npow_add hX m n).symm) (Lib.hid (GF.npow_255 hX h0)) w
end Go.Proofs.Ythapmjnhnfcaeaa
