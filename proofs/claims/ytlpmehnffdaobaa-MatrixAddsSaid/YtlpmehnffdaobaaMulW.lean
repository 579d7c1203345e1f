/- The product of the field: field.Mul's text, walked: it hands back the product of GF; and the sum. -/
import Derived.Test.YtlpmehnffdaobaaRows
import Derived.Test.YtlpmehnffdaobaaGf
import Derived.WalkKit
import Derived.WalkSpells
import Derived.WalkLawsBesides
import Derived.Lib.Hide
namespace Go.Proofs.Ytlpmehnffdaobaa
open Go.RowKit

theorem toNat_u8 (a : Nat) (ha : a < 256) : (BitVec.ofInt 8 (a : Int)).toNat = a := by
  rw [BitVec.ofInt_natCast, BitVec.toNat_ofNat]; exact Nat.mod_eq_of_lt (by omega)
theorem wrap_u8 (n : Int) : IntKind.u8.wrap n = n % 256 := by simp [IntKind.wrap, IntKind.bits, IntKind.signed]
theorem bits_xor_u8 (a b : Nat) (ha : a < 256) (hb : b < 256) : bits .xor .u8 (a : Int) (b : Int) = ((a ^^^ b : Nat) : Int) := by
  have hx : a ^^^ b < 256 := GF.xor_lt ha hb
  show IntKind.u8.wrap ((BitVec.ofInt 8 (a : Int) ^^^ BitVec.ofInt 8 (b : Int)).toNat : Int) = _
  rw [BitVec.toNat_xor, toNat_u8 a ha, toNat_u8 b hb, wrap_u8]
  omega
theorem bits_and_u8 (a b : Nat) (ha : a < 256) (hb : b < 256) : bits .and .u8 (a : Int) (b : Int) = ((a &&& b : Nat) : Int) := by
  have hx : a &&& b < 256 := Nat.lt_of_le_of_lt Nat.and_le_left ha
  show IntKind.u8.wrap ((BitVec.ofInt 8 (a : Int) &&& BitVec.ofInt 8 (b : Int)).toNat : Int) = _
  rw [BitVec.toNat_and, toNat_u8 a ha, toNat_u8 b hb, wrap_u8]
  omega
theorem and_255 (x : Nat) (hx : x < 256) : 255 &&& x = x := by
  rw [Nat.and_comm]
  have := Nat.and_two_pow_sub_one_eq_mod x 8
  rw [show (2 ^ 8 - 1) = 255 from rfl] at this
  rw [this]; omega
/-- '-(y & 1) & x' -/
theorem mask_u8 (b x : Nat) (hb : b < 2) (hx : x < 256) : bits .and .u8 (-(b : Int) % 256) (x : Int) = ((b * x : Nat) : Int) := by
  have h : b = 0 ∨ b = 1 := by omega
  rcases h with rfl | rfl
  · rw [show (-((0 : Nat) : Int) % 256) = ((0 : Nat) : Int) by decide, bits_and_u8 0 x (by omega) hx]
    simp
  · rw [show (-((1 : Nat) : Int) % 256) = ((255 : Nat) : Int) by decide, bits_and_u8 255 x (by omega) hx, and_255 x hx]
    simp
theorem low_u8 (y : Nat) (hy : y < 256) : bits .and .u8 (y : Int) 1 = ((y % 2 : Nat) : Int) := by
  rw [show (1 : Int) = ((1 : Nat) : Int) from rfl, bits_and_u8 y 1 hy (by omega), Nat.and_one_is_mod]
/-- the product's round, as the walk leaves it -/
theorem round_r (r x y : Nat) (hr : r < 256) (hx : x < 256) (hy : y < 256) :
    bits .xor .u8 (r : Int) (bits .and .u8 (-bits .and .u8 (y : Int) 1 % 256) (x : Int)) = ((r ^^^ (y % 2 * x) : Nat) : Int) := by
  rw [low_u8 y hy, mask_u8 _ x (Nat.mod_lt _ (by omega)) hx, bits_xor_u8 r _ hr]
  rcases Nat.mod_two_eq_zero_or_one y with h | h <;> rw [h] <;> omega
theorem round_x (x : Nat) (hx : x < 256) :
    bits .xor .u8 ((x : Int) * 2 % 256) (bits .and .u8 (-((x : Int) / 128) % 256) 29) = ((GF.xt x : Nat) : Int) := by
  rw [show ((x : Int) / 128) = ((x / 128 : Nat) : Int) by omega, show (29 : Int) = ((29 : Nat) : Int) from rfl, mask_u8 _ 29 (by omega) (by omega),
    show ((x : Int) * 2 % 256) = ((2 * x % 256 : Nat) : Int) by omega, bits_xor_u8 _ _ (by omega) (by omega)]
  rfl
theorem ret_int {k : IntKind} {a b : Int} (h : a = b) : Ending.returned (.int k a) = .returned (.int k b) := by rw [h]
/-- the products of whole numbers that are bytes -/
def gm (x y : Int) : Int := ((GF.mul x.toNat y.toNat : Nat) : Int)
theorem gm_nat (x y : Nat) : gm (x : Int) (y : Int) = ((GF.mul x y : Nat) : Int) := rfl

set_option maxHeartbeats 400000 in
theorem mul_nat (X Y : Nat) (hX : X < 256) (hY : Y < 256) (w : World) :
    Calls Try.prog 28 #[.int .u8 (X : Int), .int .u8 (Y : Int)] w fun e w' => e = .returned (.int .u8 ((GF.mul X Y : Nat) : Int)) ∧ w = w' := by
  go_enter Try.func28, Try.ntmps28
  go_wp2
  go_loop [0, 1, 5, 6] (fun a b o i => ∃ k x y r : Nat, x < 256 ∧ y < 256 ∧ r < 256 ∧ k ≤ 8 ∧ r ^^^ GF.mulAux (8 - k) x y = GF.mul X Y ∧ i = .int .i64 k ∧ a = .int .u8 x ∧ b = .int .u8 y ∧ o = .int .u8 r) (fun _ _ _ i => 8 - (intOf i).toNat)
  case atStart => exact ⟨0, X, Y, 0, hX, hY, by omega, by omega, by rw [Nat.zero_xor]; rfl, rfl, rfl, rfl, rfl⟩
  case round =>
    obtain ⟨k, x, y, r, hx, hy, hr, hk, hinv, rfl, rfl, rfl, rfl⟩ := hrel
    have Hinv := Lib.hid hinv
    clear hinv
    by_cases hlt : k < 8
    · go_wp2
      go_round
      case rel =>
        refine ⟨k + 1, GF.xt x, y / 2, r ^^^ (y % 2 * x), GF.xt_lt x hx, by omega, ?_, by omega, ?_, by go_num, by rw [round_x x hx], by go_num, by rw [round_r r x y hr hx hy]⟩
        · exact GF.xor_lt hr (by rcases Nat.mod_two_eq_zero_or_one y with h | h <;> rw [h] <;> omega)
        · rw [← Hinv.out, show 8 - k = (8 - (k + 1)) + 1 by omega, Nat.xor_assoc]; rfl
      case measure => simp [intOf]; omega
    · go_wp2
      go_ret
      refine ⟨?_, rfl⟩
      have := Hinv.out
      rw [show 8 - k = 0 by omega, show GF.mulAux 0 x y = 0 from rfl, Nat.xor_zero] at this
      exact ret_int (congrArg Nat.cast this)
theorem mul_any (x y : Int) (hx0 : 0 ≤ x) (hx : x ≤ 255) (hy0 : 0 ≤ y) (hy : y ≤ 255) (w : World) :
    Calls Try.prog 28 #[.int .u8 x, .int .u8 y] w fun e w' => e = .returned (.int .u8 (gm x y)) ∧ w = w' := by
  obtain ⟨X, rfl⟩ := Int.eq_ofNat_of_zero_le hx0
  obtain ⟨Y, rfl⟩ := Int.eq_ofNat_of_zero_le hy0
  exact mul_nat X Y (by omega) (by omega) w
end Go.Proofs.Ytlpmehnffdaobaa
