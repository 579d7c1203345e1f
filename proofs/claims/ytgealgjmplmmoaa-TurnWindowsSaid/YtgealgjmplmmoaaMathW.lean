/- math's Abs, IsInf, IsNaN, normalize, Frexp, Ldexp walked at words of whole numbers. -/
import Derived.Test.YtgealgjmplmmoaaRows
import Derived.Test.YtgealgjmplmmoaaFb
import Derived.WalkKit
import Derived.WalkSpells
import Derived.WalkLawsBesides
import Derived.Lib.Hide
namespace Go.Proofs.Ytgealgjmplmmoaa
open Go.RowKit
theorem run_bits (x : Nat) (w : World) : (callFunc 37 #[.float .f64 x]).run Try.prog w = .ok (.value (.int .u64 (x : Int))) w := by kernel_rfl
theorem run_frombits (x : Nat) (w : World) : (callFunc 36 #[.int .u64 (x : Int)]).run Try.prog w = .ok (.value (.float .f64 x)) w := by kernel_rfl
set_option maxHeartbeats 400000 in
theorem abs_to (x y : Nat) (h : bits .andNot .u64 (x : Int) 9223372036854775808 = (y : Int)) (w : World) :
    Calls Try.prog 33 #[.float .f64 x] w fun e w' => e = .returned (.float .f64 y) ∧ w = w' := by
  have r1 := run_bits
  have r2 := run_frombits
  go_enter Try.func33, Try.ntmps33
  go_wp2
  go_ret
  exact ⟨rfl, rfl⟩
theorem abs_wd (s : Bool) (N : Nat) (hN : N < 9007199254740992) (w : World) :
    Calls Try.prog 33 #[.float .f64 (FL.wd s N)] w fun e w' => e = .returned (.float .f64 (FL.wd false N)) ∧ w = w' :=
  abs_to _ _ (FL.abs_wd s N hN) w
set_option maxHeartbeats 400000 in
theorem isinf_wd (s : Bool) (N : Nat) (hN : N < 9007199254740992) (w : World) :
    Calls Try.prog 30 #[.float .f64 (FL.wd s N), .int .i64 0] w fun e w' => e = .returned (.bool false) ∧ w = w' := by
  have ho : (FloatKind.f64.format.order (FL.wd false N) 9218868437227405311 == some Ordering.gt) = false := FL.order_max N hN
  go_enter Try.func30, Try.ntmps30
  go_wp2_with fail
  refine (abs_wd s N hN w).mono ?_
  rintro e w' ⟨rfl, rfl⟩
  go_wp2
  go_ret
  exact ⟨rfl, rfl⟩
set_option maxHeartbeats 400000 in
theorem isnan_wd (s : Bool) (N : Nat) (hN : N < 9007199254740992) (w : World) :
    Calls Try.prog 31 #[.float .f64 (FL.wd s N)] w fun e w' => e = .returned (.bool false) ∧ w = w' := by
  have ho : (FloatKind.f64.format.order (FL.wd s N) (FL.wd s N) != some Ordering.eq) = false := by
    have h1 : FloatKind.f64.format.order (FL.wd s N) (FL.wd s N) = some (compare (FL.V s N) (FL.V s N)) := FL.order_wd s s N N hN hN
    rw [h1, bne, FL.compare_eq]; simp
  go_enter Try.func31, Try.ntmps31
  go_wp2
  go_ret
  exact ⟨rfl, rfl⟩
set_option maxHeartbeats 400000 in
theorem norm_wd (N : Nat) (h0 : N ≠ 0) (hN : N < 9007199254740992) (w : World) :
    Calls Try.prog 42 #[.float .f64 (FL.wd false N)] w fun e w' => e = .returned (.tuple #[.float .f64 (FL.wd false N), .int .i64 0]) ∧ w = w' := by
  have ho : (FloatKind.f64.format.order (FL.wd false N) 4503599627370496 == some Ordering.lt) = false := FL.order_norm N h0 hN
  go_enter Try.func42, Try.ntmps42
  go_wp2_with fail
  refine (abs_wd false N hN w).mono ?_
  rintro e w' ⟨rfl, rfl⟩
  go_wp2
  go_ret2
  exact ⟨rfl, rfl⟩
theorem order_zero (s : Bool) (N : Nat) (h0 : N ≠ 0) (hN : N < 9007199254740992) : (FloatKind.f64.format.order (FL.wd s N) 0 == some Ordering.eq) = false := by
  have h1 : FloatKind.f64.format.order (FL.wd s N) (FL.wd false 0) = some (compare (FL.V s N) (FL.V false 0)) := FL.order_wd s false N 0 hN (by omega)
  rw [FL.wd_zero] at h1
  rw [h1, FL.compare_eq]
  have hv := FL.V_natAbs s N
  have h2 : FL.V false 0 = 0 := rfl
  rw [h2]
  exact decide_eq_false (by omega)
theorem exp_bits (N L : Nat) (h0 : N ≠ 0) (hN : N < 9007199254740992) (hL : N.log2 = L) : bits BinOp.and IntKind.u64 (((FL.wd false N : Nat) : Int) / 4503599627370496) 2047 = (L : Int) + 1023 := by
  have hl := FL.log2_le h0 hN
  have e := FL.exp_wd h0 hN
  rw [show (((FL.wd false N : Nat) : Int) / 4503599627370496) = ((N.log2 + 1023 : Nat) : Int) by omega, FL.mask_exp _ (by omega), ← hL]
  omega
theorem frac_bits (N : Nat) (h0 : N ≠ 0) (hN : N < 9007199254740992) :
    bits BinOp.or IntKind.u64 (bits BinOp.andNot IntKind.u64 ((FL.wd false N : Nat) : Int) 9218868437227405312) 4602678819172646912 = ((FL.fr N : Nat) : Int) := by
  have h2 := FL.wd_false_lt N hN
  have e := FL.frac_wd h0 hN
  rw [FL.clear_exp _ (by omega), e]
  have hs := FL.sig_bounds h0 hN
  have := FL.set_exp (FL.sig N - 4503599627370496) 1022 (by unfold FL.sig; omega) (by omega)
  rw [show (4602678819172646912 : Int) = ((1022 * 4503599627370496 : Nat) : Int) by decide]
  exact this
set_option maxRecDepth 100000 in
set_option maxHeartbeats 400000 in
theorem frexp_wd (N L : Nat) (h0 : N ≠ 0) (hN : N < 9007199254740992) (hL : Hid (N.log2 = L)) (hl : L ≤ 52) (w : World) :
    Calls Try.prog 39 #[.float .f64 (FL.wd false N)] w fun e w' => e = .returned (.tuple #[.float .f64 (FL.fr N), .int .i64 ((L : Int) + 1)]) ∧ w = w' := by
  have r1 := run_bits
  have r2 := run_frombits
  have ho := order_zero false N h0 hN
  have hE := exp_bits N L h0 hN hL.out
  have hF := frac_bits N h0 hN
  go_enter Try.func39, Try.ntmps39
  go_wp2_with fail
  refine (isinf_wd false N hN w).mono ?_
  rintro e w' ⟨rfl, rfl⟩
  go_wp2_with fail
  refine (isnan_wd false N hN w).mono ?_
  rintro e w' ⟨rfl, rfl⟩
  go_wp2_with fail
  refine (norm_wd N h0 hN w).mono ?_
  rintro e w' ⟨rfl, rfl⟩
  go_wp2
  go_ret2
  exact ⟨rfl, rfl⟩
set_option maxHeartbeats 400000 in
theorem Frexp_wd (N L : Nat) (h0 : N ≠ 0) (hN : N < 9007199254740992) (hL : Hid (N.log2 = L)) (hl : L ≤ 52) (w : World) :
    Calls Try.prog 34 #[.float .f64 (FL.wd false N)] w fun e w' => e = .returned (.tuple #[.float .f64 (FL.fr N), .int .i64 ((L : Int) + 1)]) ∧ w = w' := by
  go_enter Try.func34, Try.ntmps34
  go_wp2_with fail
  refine (frexp_wd N L h0 hN hL hl w).mono ?_
  rintro e w' ⟨rfl, rfl⟩
  go_wp2
  go_ret2
  exact ⟨rfl, rfl⟩
theorem word_8191 : (4665728114444206080 : Nat) = FL.wd false 8191 := by decide +kernel
/-- 8191 put up k places -/
theorem up_bits (k : Nat) (hk : k ≤ 40) :
    bits BinOp.or IntKind.u64 (bits BinOp.andNot IntKind.u64 ((FL.wd false 8191 : Nat) : Int) 9218868437227405312) ((((k : Nat) + 1035 : Nat) * 4503599627370496 : Nat) : Int) = ((FL.wd false (8191 * 2 ^ k) : Nat) : Int) := by
  rw [← word_8191, FL.clear_exp _ (by omega), FL.wd_8191 k hk]
  have := FL.set_exp (8191 * 1099511627776 - 4503599627370496) (k + 1035) (by omega) (by omega)
  rw [show (4665728114444206080 % 4503599627370496 : Nat) = 8191 * 1099511627776 - 4503599627370496 by decide]
  exact this
theorem bits_and_i64 (a b : Nat) (ha : a < 9223372036854775808) (hb : b < 9223372036854775808) : bits .and .i64 (a : Int) (b : Int) = ((a &&& b : Nat) : Int) := by
  have hx : a &&& b < 2 ^ 63 := Nat.and_lt_two_pow _ (by omega)
  have h1 : (BitVec.ofInt 64 (a : Int)).toNat = a := by
    rw [BitVec.ofInt_natCast, BitVec.toNat_ofNat]; exact Nat.mod_eq_of_lt (by omega)
  have h2 : (BitVec.ofInt 64 (b : Int)).toNat = b := by
    rw [BitVec.ofInt_natCast, BitVec.toNat_ofNat]; exact Nat.mod_eq_of_lt (by omega)
  show IntKind.i64.wrap ((BitVec.ofInt 64 (a : Int) &&& BitVec.ofInt 64 (b : Int)).toNat : Int) = _
  rw [BitVec.toNat_and, h1, h2, IntKind.wrap_i64]
  omega
theorem exp_8191 : bits BinOp.and IntKind.i64 (((FL.wd false 8191 : Nat) : Int) / 4503599627370496) 2047 = 1035 := by
  have e := FL.exp_wd (N := 8191) (by omega) (by omega)
  have e12 : (8191 : Nat).log2 = 12 := by decide +kernel
  rw [show (((FL.wd false 8191 : Nat) : Int) / 4503599627370496) = ((1035 : Nat) : Int) by omega, show (2047 : Int) = ((2047 : Nat) : Int) from rfl, bits_and_i64 _ _ (by omega) (by omega)]
  decide
theorem mul_one_word (x : Nat) (hx : x < 9007199254740992) (w : World) : (binOp .mul 50 (.float .f64 4607182418800017408) (.float .f64 (FL.wd false x))).run Try.prog w = .ok (.float .f64 (FL.wd false x)) w := by
  refine run_float_arith w .mul 50 .f64 _ _ _ ?_
  have := FL.mul_wd false false 1 x (by omega) hx (by omega)
  rw [Nat.one_mul, show FL.wd false 1 = 4607182418800017408 by decide +kernel] at this
  exact this
theorem up_bits2 (k : Nat) (hk : k ≤ 40) :
    bits BinOp.or IntKind.u64 (bits BinOp.andNot IntKind.u64 ((FL.wd false 8191 : Nat) : Int) 9218868437227405312) (((k : Int) + 12 + 1023) * 4503599627370496) = ((FL.wd false (8191 * 2 ^ k) : Nat) : Int) := by
  rw [← up_bits k hk]
  congr 1
set_option maxRecDepth 100000 in
set_option maxHeartbeats 400000 in
theorem ldexp_of (k T : Nat) (hk : k ≤ 40) (hT : FL.wd false (8191 * 2 ^ k) = T) (w : World) :
    Calls Try.prog 41 #[.float .f64 (FL.wd false 8191), .int .i64 (k : Int)] w fun e w' => e = .returned (.float .f64 T) ∧ w = w' := by
  have r1 := run_bits
  have r2 := run_frombits
  have ho := order_zero false 8191 (by omega) (by omega)
  have hlt := FL.wd_false_lt 8191 (by omega)
  have hE := exp_8191
  have hU := up_bits2 k hk
  have hM := mul_one_word (8191 * 2 ^ k) (FL.lt_8191 k hk)
  rw [hT] at hU hM
  clear hT
  go_enter Try.func41, Try.ntmps41
  go_wp2_with fail
  refine (isinf_wd false 8191 (by omega) w).mono ?_
  rintro e w' ⟨rfl, rfl⟩
  go_wp2_with fail
  refine (isnan_wd false 8191 (by omega) w).mono ?_
  rintro e w' ⟨rfl, rfl⟩
  go_wp2_with fail
  refine (norm_wd 8191 (by omega) (by omega) w).mono ?_
  rintro e w' ⟨rfl, rfl⟩
  go_wp2
  go_ret
  exact ⟨rfl, rfl⟩
set_option maxHeartbeats 400000 in
theorem Ldexp_of (k T : Nat) (hk : k ≤ 40) (hT : FL.wd false (8191 * 2 ^ k) = T) (w : World) :
    Calls Try.prog 35 #[.float .f64 (FL.wd false 8191), .int .i64 (k : Int)] w fun e w' => e = .returned (.float .f64 T) ∧ w = w' := by
  go_enter Try.func35, Try.ntmps35
  go_wp2_with fail
  refine (ldexp_of k T hk hT w).mono ?_
  rintro e w' ⟨rfl, rfl⟩
  go_wp2
  go_ret
  exact ⟨rfl, rfl⟩
end Go.Proofs.Ytgealgjmplmmoaa
