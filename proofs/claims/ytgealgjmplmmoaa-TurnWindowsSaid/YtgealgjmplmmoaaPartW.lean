/- turn.part, turn.from and turn.as walked: a whole number modulo 8191, and complex numbers of whole parts. -/
import Derived.Test.YtgealgjmplmmoaaModN
import Derived.Test.YtgealgjmplmmoaaFresh
namespace Go.Proofs.Ytgealgjmplmmoaa
open Go.RowKit
theorem add_run (x y r : Nat) (h : floatBits .add .f64 x y = some r) (w : World) : (binOp .add 50 (.float .f64 x) (.float .f64 y)).run Try.prog w = .ok (.float .f64 r) w :=
  run_float_arith w .add 50 .f64 x y r h
theorem int_run (x : Nat) (n : Int) (h : floatToIntVal .f64 x .i64 = some n) (w : World) : (convert 50 3 (.float .f64 x)).run Try.prog w = .ok (.int .i64 n) w :=
  run_convert_float_int w 50 3 .f64 .i64 x n (by kernel_rfl) (by kernel_rfl) h
set_option maxHeartbeats 400000 in
theorem part_of (x A U B : Nat) (z : Int) (c1 : Hid (∀ w, Calls Try.prog 27 #[.float .f64 x, .float .f64 4665728114444206080] w fun e w' => e = .returned (.float .f64 A) ∧ w = w'))
    (c2 : Hid (∀ w, Calls Try.prog 27 #[.float .f64 U, .float .f64 4665728114444206080] w fun e w' => e = .returned (.float .f64 B) ∧ w = w'))
    (r1 : ∀ w, (binOp .add 50 (.float .f64 A) (.float .f64 4665728114444206080)).run Try.prog w = .ok (.float .f64 U) w)
    (r2 : ∀ w, (convert 50 3 (.float .f64 B)).run Try.prog w = .ok (.int .i64 z) w) (w : World) :
    Calls Try.prog 26 #[.float .f64 x] w fun e w' => e = .returned (.int .i64 z) ∧ w = w' := by
  go_enter Try.func26, Try.ntmps26
  go_wp2_with fail
  refine (c1.out w).mono ?_
  rintro e w' ⟨rfl, rfl⟩
  go_wp2_with fail
  refine (c2.out w).mono ?_
  rintro e w' ⟨rfl, rfl⟩
  go_wp2
  go_ret
  exact ⟨rfl, rfl⟩
theorem part_is (x : Nat) (n : Int) (hx : FL.Is x n) (w : World) :
    Calls Try.prog 26 #[.float .f64 x] w fun e w' => e = .returned (.int .i64 (n % 8191)) ∧ w = w' := by
  obtain ⟨hn, s, rfl, es⟩ := hx
  have hv : (FL.V s (n.natAbs % 8191) + FL.V false 8191).natAbs < 9007199254740992 ∧ FL.V s (n.natAbs % 8191) + FL.V false 8191 > 0 ∧
      (((FL.V s (n.natAbs % 8191) + FL.V false 8191).natAbs % 8191 : Nat) : Int) = n % 8191 := by
    unfold FL.V at es ⊢
    cases s
    · simp at es ⊢; omega
    · simp at es ⊢; omega
  have ha := FL.add_wd s false (n.natAbs % 8191) 8191 (by omega) (by omega) hv.1
  have hs : FL.sg s false (FL.V s (n.natAbs % 8191) + FL.V false 8191) = false := by
    unfold FL.sg
    rw [if_neg (by omega)]
    exact decide_eq_false (by omega)
  rw [hs, ← word_8191] at ha
  refine part_of _ _ _ _ _ (Lib.hid fun w => Mod_wd s n.natAbs hn w) (Lib.hid fun w => Mod_wd false _ hv.1 w) (add_run _ _ _ ha) (int_run _ _ ?_) w
  rw [← hv.2.2]
  exact FL.is_toInt (FL.Is.mk' false _ (by omega))
set_option maxHeartbeats 400000 in
theorem from_is (x y : Nat) (m n : Int) (hx : FL.Is x m) (hy : FL.Is y n) (w : World) :
    Calls Try.prog 23 #[.complex .f64 x y] w fun e w' => e = .returned (.agg #[.int .i64 (m % 8191), .int .i64 (n % 8191)]) ∧ Fresh w w' := by
  have Hx := Lib.hid hx
  have Hy := Lib.hid hy
  clear hx hy
  have Hf := Lib.hid (Fresh.refl w)
  go_enter Try.func23, Try.ntmps23
  go_wp2_with fail
  refine (part_is x m Hx.out _).mono ?_
  rintro e w' ⟨rfl, rfl⟩
  go_wp2_with fail
  refine (part_is y n Hy.out _).mono ?_
  rintro e w' ⟨rfl, rfl⟩
  go_wp2
  exact bodyPost_ret (v := .agg #[.int .i64 (m % 8191), .int .i64 (n % 8191)]) (by simp [results, Try.results23, go_sem]) rfl ⟨rfl, Hf.out.alloc _ _⟩
set_option maxHeartbeats 400000 in
theorem as_is (m n : Int) (w : World) :
    Calls Try.prog 24 #[.agg #[.int .i64 m, .int .i64 n]] w fun e w' => e = .returned (.complex .f64 (floatOfInt .f64 m) (floatOfInt .f64 n)) ∧ Fresh w w' := by
  have Hf := Lib.hid (Fresh.refl w)
  go_enter Try.func24, Try.ntmps24
  go_wp2
  go_ret
  exact ⟨rfl, Hf.out.alloc _ _⟩
end Go.Proofs.Ytgealgjmplmmoaa
