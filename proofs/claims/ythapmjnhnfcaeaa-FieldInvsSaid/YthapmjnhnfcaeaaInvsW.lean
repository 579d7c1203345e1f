/- FieldInvs walked: it returns true. -/
import Derived.Test.YthapmjnhnfcaeaaTo
import Derived.Test.YthapmjnhnfcaeaaRefX
namespace Go.Proofs.Ythapmjnhnfcaeaa
open Go.RowKit
theorem rinv_to (X I : Nat) (hX : X < 256) (h0 : X ≠ 0) (h : GF.inv X = I) (w : World) :
    Calls Try.prog 21 #[.int .u8 (X : Int)] w fun e w' => e = .returned (.tuple #[.int .u8 (I : Int), .int .i64 0]) ∧ w = w' := by
  subst h; exact rinv_nat X hX h0 w
theorem rlog_to (X L : Nat) (hX : X < 256) (h0 : X ≠ 0) (h : GF.lg X = L) (w : World) :
    Calls Try.prog 13 #[.int .u8 (X : Int)] w fun e w' => e = .returned (.tuple #[.int .i64 (L : Int), .int .i64 0]) ∧ w = w' := by
  subst h; exact rlog_nat X hX h0 w
theorem rdiv_to (X Y M : Nat) (hX : X < 256) (hY : Y < 256) (h0 : Y ≠ 0) (h : GF.mul X (GF.inv Y) = M) (w : World) :
    Calls Try.prog 23 #[.int .u8 (X : Int), .int .u8 (Y : Int)] w fun e w' => e = .returned (.tuple #[.int .u8 (M : Int), .int .i64 0]) ∧ w = w' := by
  subst h; exact rdiv_nat X Y hX hY h0 w
set_option maxRecDepth 100000 in
set_option maxHeartbeats 1000000 in
theorem invs_00  (w : World) :
    Calls Try.prog 9 #[.int .u8 0, .int .u8 0] w fun e w' => e = .returned (.bool true) ∧ Fresh w w' := by
  go_enter Try.func9, Try.ntmps9
  go_wp2_with fail
  refine (shown_yes w).mono ?_
  rintro e w1 ⟨rfl, hf⟩
  have F1 := Lib.hid hf
  clear hf
  go_wp2_with fail
  refine (inv_zero w1).mono ?_
  rintro e wz ⟨rfl, rfl⟩
  go_wp2_with fail
  refine (rinv_zero w1).mono ?_
  rintro e wz ⟨rfl, rfl⟩
  go_wp2_with fail
  refine (div_zero 0 (by omega) w1).mono ?_
  rintro e wz ⟨rfl, rfl⟩
  go_wp2_with fail
  refine (rdiv_zero 0 w1).mono ?_
  rintro e wz ⟨rfl, rfl⟩
  go_wp2_with fail
  refine (log_zero w1).mono ?_
  rintro e wz ⟨rfl, rfl⟩
  go_wp2_with fail
  refine (rlog_zero w1).mono ?_
  rintro e wz ⟨rfl, rfl⟩
  go_wp2
  go_ret
  exact ⟨rfl, F1.out⟩
set_option maxRecDepth 100000 in
set_option maxHeartbeats 1000000 in
theorem invs_0y (Y D : Nat) (hY : Y < 256) (h1 : Y ≠ 0) (hD : Hid (GF.mul 0 (GF.inv Y) = D)) (w : World) :
    Calls Try.prog 9 #[.int .u8 0, .int .u8 (Y : Int)] w fun e w' => e = .returned (.bool true) ∧ Fresh w w' := by
  have eD : ((D : Int) == (D : Int)) = true := beq_self_eq_true _
  go_enter Try.func9, Try.ntmps9
  go_wp2_with fail
  refine (shown_yes w).mono ?_
  rintro e w1 ⟨rfl, hf⟩
  have F1 := Lib.hid hf
  clear hf
  go_wp2_with fail
  refine (inv_zero w1).mono ?_
  rintro e wz ⟨rfl, rfl⟩
  go_wp2_with fail
  refine (rinv_zero w1).mono ?_
  rintro e wz ⟨rfl, rfl⟩
  go_wp2_with fail
  refine (div_to 0 Y D (by omega) hY h1 hD.out w1).mono ?_
  rintro e wz ⟨rfl, rfl⟩
  go_wp2_with fail
  refine (rdiv_to 0 Y D (by omega) hY h1 hD.out w1).mono ?_
  rintro e wz ⟨rfl, rfl⟩
  go_wp2_with fail
  refine (log_zero w1).mono ?_
  rintro e wz ⟨rfl, rfl⟩
  go_wp2_with fail
  refine (rlog_zero w1).mono ?_
  rintro e wz ⟨rfl, rfl⟩
  go_wp2
  go_ret
  exact ⟨rfl, F1.out⟩
set_option maxRecDepth 100000 in
set_option maxHeartbeats 1000000 in
theorem invs_x0 (X I L : Nat) (hX : X < 256) (h0 : X ≠ 0) (hI : Hid (GF.inv X = I)) (hL : Hid (GF.lg X = L)) (w : World) :
    Calls Try.prog 9 #[.int .u8 (X : Int), .int .u8 0] w fun e w' => e = .returned (.bool true) ∧ Fresh w w' := by
  have eI : ((I : Int) == (I : Int)) = true := beq_self_eq_true _
  have eL : ((L : Int) == (L : Int)) = true := beq_self_eq_true _
  go_enter Try.func9, Try.ntmps9
  go_wp2_with fail
  refine (shown_yes w).mono ?_
  rintro e w1 ⟨rfl, hf⟩
  have F1 := Lib.hid hf
  clear hf
  go_wp2_with fail
  refine (inv_to X I hX h0 hI.out w1).mono ?_
  rintro e wz ⟨rfl, rfl⟩
  go_wp2_with fail
  refine (rinv_to X I hX h0 hI.out w1).mono ?_
  rintro e wz ⟨rfl, rfl⟩
  go_wp2_with fail
  refine (div_zero X hX w1).mono ?_
  rintro e wz ⟨rfl, rfl⟩
  go_wp2_with fail
  refine (rdiv_zero X w1).mono ?_
  rintro e wz ⟨rfl, rfl⟩
  go_wp2_with fail
  refine (log_to X L hX h0 hL.out w1).mono ?_
  rintro e w2 ⟨rfl, hf⟩
  have F2 := Lib.hid hf
  clear hf
  go_wp2_with fail
  refine (rlog_to X L hX h0 hL.out w2).mono ?_
  rintro e wz ⟨rfl, rfl⟩
  go_wp2
  go_ret
  exact ⟨rfl, (F1.out).trans F2.out⟩
set_option maxRecDepth 100000 in
set_option maxHeartbeats 1000000 in
theorem invs_xy (X Y I L D : Nat) (hX : X < 256) (hY : Y < 256) (h0 : X ≠ 0) (h1 : Y ≠ 0) (hI : Hid (GF.inv X = I)) (hL : Hid (GF.lg X = L)) (hD : Hid (GF.mul X (GF.inv Y) = D)) (w : World) :
    Calls Try.prog 9 #[.int .u8 (X : Int), .int .u8 (Y : Int)] w fun e w' => e = .returned (.bool true) ∧ Fresh w w' := by
  have eI : ((I : Int) == (I : Int)) = true := beq_self_eq_true _
  have eL : ((L : Int) == (L : Int)) = true := beq_self_eq_true _
  have eD : ((D : Int) == (D : Int)) = true := beq_self_eq_true _
  go_enter Try.func9, Try.ntmps9
  go_wp2_with fail
  refine (shown_yes w).mono ?_
  rintro e w1 ⟨rfl, hf⟩
  have F1 := Lib.hid hf
  clear hf
  go_wp2_with fail
  refine (inv_to X I hX h0 hI.out w1).mono ?_
  rintro e wz ⟨rfl, rfl⟩
  go_wp2_with fail
  refine (rinv_to X I hX h0 hI.out w1).mono ?_
  rintro e wz ⟨rfl, rfl⟩
  go_wp2_with fail
  refine (div_to X Y D hX hY h1 hD.out w1).mono ?_
  rintro e wz ⟨rfl, rfl⟩
  go_wp2_with fail
  refine (rdiv_to X Y D hX hY h1 hD.out w1).mono ?_
  rintro e wz ⟨rfl, rfl⟩
  go_wp2_with fail
  refine (log_to X L hX h0 hL.out w1).mono ?_
  rintro e w2 ⟨rfl, hf⟩
  have F2 := Lib.hid hf
  clear hf
  go_wp2_with fail
  refine (rlog_to X L hX h0 hL.out w2).mono ?_
  rintro e wz ⟨rfl, rfl⟩
  go_wp2
  go_ret
  exact ⟨rfl, (F1.out).trans F2.out⟩
theorem invs_any (X Y : Nat) (hX : X < 256) (hY : Y < 256) (w : World) :
    Calls Try.prog 9 #[.int .u8 (X : Int), .int .u8 (Y : Int)] w fun e w' => e = .returned (.bool true) ∧ Fresh w w' := by
  by_cases h0 : X = 0
  · subst h0
    by_cases h1 : Y = 0
    · subst h1; exact invs_00 w
    · exact invs_0y Y _ hY h1 (Lib.hid rfl) w
  · by_cases h1 : Y = 0
    · subst h1; exact invs_x0 X _ _ hX h0 (Lib.hid rfl) (Lib.hid rfl) w
    · exact invs_xy X Y _ _ _ hX hY h0 h1 (Lib.hid rfl) (Lib.hid rfl) (Lib.hid rfl) w
end Go.Proofs.Ythapmjnhnfcaeaa
