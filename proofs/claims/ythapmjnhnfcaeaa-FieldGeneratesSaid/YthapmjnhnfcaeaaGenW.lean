/- FieldGenerates walked: it returns true. -/
import Derived.Test.YthapmjnhnfcaeaaTo
namespace Go.Proofs.Ythapmjnhnfcaeaa
open Go.RowKit
set_option maxRecDepth 100000 in
set_option maxHeartbeats 1000000 in
theorem gen_x0 (Y : Nat) (w : World) :
    Calls Try.prog 6 #[.int .u8 0, .int .u8 (Y : Int)] w fun e w' => e = .returned (.bool true) ∧ Fresh w w' := by
  go_enter Try.func6, Try.ntmps6
  go_wp2_with fail
  refine (shown_yes w).mono ?_
  rintro e w1 ⟨rfl, hf⟩
  have F1 := Lib.hid hf
  clear hf
  go_wp2
  go_ret
  exact ⟨rfl, F1.out⟩
set_option maxRecDepth 100000 in
set_option maxHeartbeats 1000000 in
theorem gen_y0 (X : Nat) (h0 : X ≠ 0) (w : World) :
    Calls Try.prog 6 #[.int .u8 (X : Int), .int .u8 0] w fun e w' => e = .returned (.bool true) ∧ Fresh w w' := by
  have ht : ((X : Int) == 0) = false := by rw [beq_eq_false_iff_ne]; omega
  go_enter Try.func6, Try.ntmps6
  go_wp2_with fail
  refine (shown_yes w).mono ?_
  rintro e w1 ⟨rfl, hf⟩
  have F1 := Lib.hid hf
  clear hf
  go_wp2
  go_ret
  exact ⟨rfl, F1.out⟩
set_option maxRecDepth 100000 in
set_option maxHeartbeats 1000000 in
theorem gen_of (X Y L M : Nat) (hX : X < 256) (hY : Y < 256) (h0 : X ≠ 0) (h1 : Y ≠ 0) (hl : L < 255) (eL : Hid (GF.lg X = L)) (eM : Hid (GF.lg Y = M)) (eP : Hid (GF.npow 2 L = X)) (b : Bool) (t1 : ((L : Int) == (M : Int)) = b) (t2 : ((X : Int) == (Y : Int)) = b) (w : World) :
    Calls Try.prog 6 #[.int .u8 (X : Int), .int .u8 (Y : Int)] w fun e w' => e = .returned (.bool true) ∧ Fresh w w' := by
  have ht : ((X : Int) == 0) = false := by rw [beq_eq_false_iff_ne]; omega
  have hty : ((Y : Int) == 0) = false := by rw [beq_eq_false_iff_ne]; omega
  have eX : ((X : Int) == (X : Int)) = true := beq_self_eq_true _
  go_enter Try.func6, Try.ntmps6
  go_wp2_with fail
  refine (shown_yes w).mono ?_
  rintro e w1 ⟨rfl, hf⟩
  have F1 := Lib.hid hf
  clear hf
  go_wp2_with fail
  refine (log_to X L hX h0 eL.out w1).mono ?_
  rintro e w2 ⟨rfl, hf⟩
  have F2 := Lib.hid hf
  clear hf
  go_wp2_with fail
  refine (log_to Y M hY h1 eM.out w2).mono ?_
  rintro e w3 ⟨rfl, hf⟩
  have F3 := Lib.hid hf
  clear hf
  go_wp2_with fail
  refine (pow_to 2 L X (by omega) (by unfold U64; omega) eP.out w3).mono ?_
  rintro e wz ⟨rfl, rfl⟩
  go_wp2
  go_ret
  exact ⟨by cases b <;> rfl, ((F1.out).trans F2.out).trans F3.out⟩
theorem gen_any (X Y : Nat) (hX : X < 256) (hY : Y < 256) (w : World) :
    Calls Try.prog 6 #[.int .u8 (X : Int), .int .u8 (Y : Int)] w fun e w' => e = .returned (.bool true) ∧ Fresh w w' := by
  by_cases h0 : X = 0
  · subst h0; exact gen_x0 Y w
  by_cases h1 : Y = 0
  · subst h1; exact gen_y0 X h0 w
  refine gen_of X Y _ _ hX hY h0 h1 (GF.lg_lt hX h0) (Lib.hid rfl) (Lib.hid rfl) (Lib.hid (by rw [GF.npow_two, GF.ex_lg hX h0])) (decide (X = Y)) ?_ ?_ w
  · rw [Bool.eq_iff_iff, beq_iff_eq, decide_eq_true_iff]
    constructor
    · intro h; exact GF.lg_inj hX hY h0 h1 (by omega)
    · intro h; rw [h]
  · rw [Bool.eq_iff_iff, beq_iff_eq, decide_eq_true_iff]; omega
end Go.Proofs.Ythapmjnhnfcaeaa
