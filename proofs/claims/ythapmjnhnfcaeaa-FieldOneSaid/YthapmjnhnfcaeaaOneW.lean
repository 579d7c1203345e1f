/- FieldOne walked: it returns true. -/
import Derived.Test.YthapmjnhnfcaeaaTo
namespace Go.Proofs.Ythapmjnhnfcaeaa
open Go.RowKit
set_option maxHeartbeats 400000 in
theorem one_zero (Y : Nat) (hY : Y < 256) (w : World) :
    Calls Try.prog 4 #[.int .u8 0, .int .u8 (Y : Int)] w fun e w' => e = .returned (.bool true) ∧ Fresh w w' := by
  go_enter Try.func4, Try.ntmps4
  go_wp2_with fail
  refine (shown_yes w).mono ?_
  rintro e w1 ⟨rfl, hf⟩
  have HF := Lib.hid hf
  clear hf
  go_wp2_with fail
  refine (inv_zero w1).mono ?_
  rintro e w2 ⟨rfl, rfl⟩
  go_wp2_with fail
  refine (mul_to 0 Y 0 (by omega) hY (GF.zero_mul Y hY) w1).mono ?_
  rintro e w2 ⟨rfl, rfl⟩
  go_wp2
  go_ret
  exact ⟨rfl, HF.out⟩
set_option maxHeartbeats 400000 in
theorem one_more (X Y I M : Nat) (hX : X < 256) (hY : Y < 256) (hI : I < 256) (h0 : X ≠ 0) (hi : Hid (GF.inv X = I)) (hm : Hid (GF.mul X Y = M)) (h1 : Hid (GF.mul X I = 1))
    (b c : Bool) (t1 : ((M : Int) == 1) = b) (t2 : ((Y : Int) == (I : Int)) = b) (t3 : ((M : Int) == 0) = c) (t4 : ((Y : Int) == 0) = c) (w : World) :
    Calls Try.prog 4 #[.int .u8 (X : Int), .int .u8 (Y : Int)] w fun e w' => e = .returned (.bool true) ∧ Fresh w w' := by
  have ht : ((X : Int) == 0) = false := by rw [beq_eq_false_iff_ne]; omega
  go_enter Try.func4, Try.ntmps4
  go_wp2_with fail
  refine (shown_yes w).mono ?_
  rintro e w1 ⟨rfl, hf⟩
  have HF := Lib.hid hf
  clear hf
  go_wp2_with fail
  refine (inv_to X I hX h0 hi.out w1).mono ?_
  rintro e w2 ⟨rfl, rfl⟩
  go_wp2_with fail
  refine (mul_to X I 1 hX hI h1.out w1).mono ?_
  rintro e w2 ⟨rfl, rfl⟩
  go_wp2_with fail
  refine (mul_to X Y M hX hY hm.out w1).mono ?_
  rintro e w2 ⟨rfl, rfl⟩
  go_wp2_with fail
  refine (mul_to X Y M hX hY hm.out w1).mono ?_
  rintro e w2 ⟨rfl, rfl⟩
  go_wp2
  go_ret
  exact ⟨by cases b <;> cases c <;> rfl, HF.out⟩
theorem one_any (X Y : Nat) (hX : X < 256) (hY : Y < 256) (w : World) :
    Calls Try.prog 4 #[.int .u8 (X : Int), .int .u8 (Y : Int)] w fun e w' => e = .returned (.bool true) ∧ Fresh w w' := by
  by_cases h0 : X = 0
  · subst h0; exact one_zero Y hY w
  · refine one_more X Y _ _ hX hY (GF.inv_lt X hX) h0 (Lib.hid rfl) (Lib.hid rfl) (Lib.hid (GF.mul_inv hX h0)) (decide (Y = GF.inv X)) (decide (Y = 0)) ?_ ?_ ?_ ?_ w
    · rw [Bool.eq_iff_iff, beq_iff_eq, decide_eq_true_iff]
      constructor
      · intro h; exact GF.inv_uniq hX hY (by omega)
      · intro h; rw [h, GF.mul_inv hX h0]; rfl
    · rw [Bool.eq_iff_iff, beq_iff_eq, decide_eq_true_iff]; omega
    · rw [Bool.eq_iff_iff, beq_iff_eq, decide_eq_true_iff]
      have := GF.mul_eq_zero hX hY
      constructor
      · intro h; exact (this.1 (by omega)).resolve_left h0
      · intro h; rw [this.2 (.inr h)]; rfl
    · rw [Bool.eq_iff_iff, beq_iff_eq, decide_eq_true_iff]; omega
end Go.Proofs.Ythapmjnhnfcaeaa
