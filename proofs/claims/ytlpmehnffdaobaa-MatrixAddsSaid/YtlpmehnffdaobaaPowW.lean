/- field.Pow, field.Inv, field.Div and field.Add walked: they hand back GF's powers, inverses, quotients and sums. -/
import Derived.Test.YtlpmehnffdaobaaMulW
import Derived.WalkSmall
namespace Go.Proofs.Ytlpmehnffdaobaa
open Go.RowKit

/-- a number of the kind uint64 -/
def U64 (n : Nat) : Prop := n < 18446744073709551616
theorem U64.half {n : Nat} (h : U64 n) : U64 (n / 2) := Nat.lt_of_le_of_lt (Nat.div_le_self _ _) h
theorem low_u64 (n : Nat) (h : U64 n) : bits .and .u64 (n : Int) 1 = ((n % 2 : Nat) : Int) := by
  have hx : n &&& 1 < 2 ^ 64 := Nat.lt_of_le_of_lt Nat.and_le_left h
  have h1 : (BitVec.ofInt 64 (n : Int)).toNat = n := by
    rw [BitVec.ofInt_natCast, BitVec.toNat_ofNat]; exact Nat.mod_eq_of_lt h
  have h2 : (BitVec.ofInt 64 (1 : Int)).toNat = 1 := by decide
  show IntKind.u64.wrap ((BitVec.ofInt 64 (n : Int) &&& BitVec.ofInt 64 (1 : Int)).toNat : Int) = _
  rw [BitVec.toNat_and, h1, h2, IntKind.wrap_u64, ← Nat.and_one_is_mod]
  omega
theorem odd_yes (n : Nat) (h : U64 n) (hn : n % 2 = 1) : (bits .and .u64 (n : Int) 1 == 1) = true := by rw [low_u64 n h, hn]; rfl
theorem odd_no (n : Nat) (h : U64 n) (hn : ¬ n % 2 = 1) : (bits .and .u64 (n : Int) 1 == 1) = false := by
  rw [low_u64 n h, show n % 2 = 0 by omega]; rfl
theorem half_int (n : Nat) : ((n : Int) / 2) = ((n / 2 : Nat) : Int) := by omega
def gp (x n : Int) : Int := ((GF.npow x.toNat n.toNat : Nat) : Int)

set_option maxHeartbeats 400000 in
theorem pow_nat (X N : Nat) (hX : X < 256) (hN : U64 N) (w : World) :
    Calls Try.prog 36 #[.int .u8 (X : Int), .int .u64 (N : Int)] w fun e w' => e = .returned (.int .u8 ((GF.npow X N : Nat) : Int)) ∧ w = w' := by
  go_enter Try.func36, Try.ntmps36
  go_wp2
  go_loop [0, 1, 5] (fun a b o => ∃ x n r : Nat, x < 256 ∧ U64 n ∧ r < 256 ∧ GF.mul r (GF.npow x n) = GF.npow X N ∧ a = .int .u8 x ∧ b = .int .u64 n ∧ o = .int .u8 r) (fun _ b _ => (intOf b).toNat)
  case atStart => exact ⟨X, N, 1, hX, hN, by omega, GF.one_mul (GF.npow_lt X N hX), rfl, rfl, rfl⟩
  case round =>
    obtain ⟨x, n, r, hx, hn, hr, hinv, rfl, rfl, rfl⟩ := hrel
    have Hinv := Lib.hid hinv
    clear hinv
    by_cases h0 : 0 < n
    · have hh := Lib.hid (half_int n)
      have hxx := GF.mul_lt x x hx
      by_cases h1 : n % 2 = 1
      · have ht := odd_yes n hn h1
        have Hs := Lib.hid (GF.npow_half hx r n hr)
        have hro := GF.mul_lt r x hr
        have H1 := Lib.hid h1
        clear h1
        go_wp2_with fail
        refine (mul_nat r x hr hx w).mono ?_
        rintro e w' ⟨rfl, rfl⟩
        go_wp2_with fail
        refine (mul_nat x x hx hx w).mono ?_
        rintro e w' ⟨rfl, rfl⟩
        go_wp2
        go_round
        case rel =>
          refine ⟨GF.mul x x, n / 2, GF.mul r x, hxx, hn.half, hro, ?_, rfl, by rw [hh.out], rfl⟩
          have := Hs.out
          rw [if_pos H1.out, Hinv.out] at this
          exact this.symm
        case measure => simp [intOf]; omega
      · have ht := odd_no n hn h1
        have Hs := Lib.hid (GF.npow_half hx r n hr)
        have H1 := Lib.hid h1
        clear h1
        go_wp2_with fail
        refine (mul_nat x x hx hx w).mono ?_
        rintro e w' ⟨rfl, rfl⟩
        go_wp2
        go_round
        case rel =>
          refine ⟨GF.mul x x, n / 2, r, hxx, hn.half, hr, ?_, rfl, by rw [hh.out], rfl⟩
          have := Hs.out
          rw [if_neg H1.out, Hinv.out] at this
          exact this.symm
        case measure => simp [intOf]; omega
    · obtain rfl : n = 0 := by omega
      go_wp2
      go_ret
      refine ⟨?_, rfl⟩
      have := Hinv.out
      rw [show GF.npow x 0 = 1 from rfl, GF.mul_one r hr] at this
      exact ret_int (congrArg Nat.cast this)

set_option maxHeartbeats 400000 in
theorem inv_zero (w : World) :
    Calls Try.prog 27 #[.int .u8 0] w fun e w' => e = .returned (.tuple #[.int .u8 0, .int .i64 1]) ∧ w = w' := by
  go_enter Try.func27, Try.ntmps27
  go_wp2
  go_ret2
  exact ⟨rfl, rfl⟩
set_option maxHeartbeats 400000 in
theorem inv_nat (X : Nat) (hX : X < 256) (h0 : X ≠ 0) (w : World) :
    Calls Try.prog 27 #[.int .u8 (X : Int)] w fun e w' => e = .returned (.tuple #[.int .u8 ((GF.inv X : Nat) : Int), .int .i64 0]) ∧ w = w' := by
  have ht : ((X : Int) == 0) = false := by rw [beq_eq_false_iff_ne]; omega
  go_enter Try.func27, Try.ntmps27
  go_wp2_with fail
  refine (pow_nat X 254 hX (by unfold U64; omega) w).mono ?_
  rintro e w' ⟨rfl, rfl⟩
  go_wp2
  go_ret2
  exact ⟨rfl, rfl⟩
set_option maxHeartbeats 400000 in
theorem add_nat (X Y : Nat) (hX : X < 256) (hY : Y < 256) (w : World) :
    Calls Try.prog 39 #[.int .u8 (X : Int), .int .u8 (Y : Int)] w fun e w' => e = .returned (.int .u8 ((X ^^^ Y : Nat) : Int)) ∧ w = w' := by
  have hb := Lib.hid (bits_xor_u8 X Y hX hY)
  go_enter Try.func39, Try.ntmps39
  go_wp2
  go_ret
  exact ⟨ret_int hb.out, rfl⟩
end Go.Proofs.Ytlpmehnffdaobaa
