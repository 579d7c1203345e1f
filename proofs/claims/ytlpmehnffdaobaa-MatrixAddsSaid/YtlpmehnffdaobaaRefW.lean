/- The document's answers for the field (Mul, Pow, Inv, Div, Log), walked: they are GF's. -/
import Derived.Test.YtlpmehnffdaobaaPowW
import Derived.Test.YtlpmehnffdaobaaRefMath
namespace Go.Proofs.Ytlpmehnffdaobaa
open Go.RowKit

theorem bits_xor_i64 (a b : Nat) (ha : a < 1048576) (hb : b < 1048576) : bits .xor .i64 (a : Int) (b : Int) = ((a ^^^ b : Nat) : Int) := by
  have hx : a ^^^ b < 2 ^ 20 := Nat.xor_lt_two_pow ha hb
  have h1 : (BitVec.ofInt 64 (a : Int)).toNat = a := by
    rw [BitVec.ofInt_natCast, BitVec.toNat_ofNat]; exact Nat.mod_eq_of_lt (by omega)
  have h2 : (BitVec.ofInt 64 (b : Int)).toNat = b := by
    rw [BitVec.ofInt_natCast, BitVec.toNat_ofNat]; exact Nat.mod_eq_of_lt (by omega)
  show IntKind.i64.wrap ((BitVec.ofInt 64 (a : Int) ^^^ BitVec.ofInt 64 (b : Int)).toNat : Int) = _
  rw [BitVec.toNat_xor, h1, h2, IntKind.wrap_i64]
  omega
theorem half_i64 (n : Nat) : Value.int .i64 ((n : Int) / 2) = .int .i64 ((n / 2 : Nat) : Int) := by rw [half_int]
set_option maxHeartbeats 1000000 in
theorem rmul_nat (X Y : Nat) (hX : X < 256) (hY : Y < 256) (w : World) :
    Calls Try.prog 31 #[.int .u8 (X : Int), .int .u8 (Y : Int)] w fun e w' => e = .returned (.int .u8 ((GF.mul X Y : Nat) : Int)) ∧ w = w' := by
  have hstart := Lib.hid (GF.prod_start X Y hX)
  go_enter Try.func31, Try.ntmps31
  go_wp2
  go_loop [5, 6, 7] (fun p a b => ∃ k P A B : Nat, P < 65536 ∧ A * 2 ^ k < 65536 ∧ B < 2 ^ k ∧ B < 256 ∧ GF.rd P ^^^ GF.mulAux k (GF.rd A) B = GF.mul X Y ∧ p = .int .i64 P ∧ a = .int .i64 A ∧ b = .int .i64 B) (fun _ _ b => (intOf b).toNat)
  case atStart => exact ⟨8, 0, X, Y, by omega, by omega, by omega, hY, hstart.out, rfl, rfl, rfl⟩
  case round =>
    obtain ⟨k, P, A, B, hP, hA, hB, hB9, hinv, rfl, rfl, rfl⟩ := hrel
    have HA := Lib.hid hA
    have HB := Lib.hid hB
    have Hinv := Lib.hid hinv
    clear hA hB hinv
    by_cases h0 : 0 < B
    · cases k with
      | zero =>
        have := HB.out
        simp at this
        omega
      | succ k =>
        have hA2 : A < 32768 := by
          have := HA.out
          have h2 := Nat.two_pow_pos k
          rw [Nat.pow_succ, ← Nat.mul_assoc] at this
          have : A * 1 ≤ A * 2 ^ k := Nat.mul_le_mul_left A h2
          omega
        have hst := GF.prod_step P A B k X Y hA2 hP Hinv.out
        have Hb := Lib.hid (half_i64 B)
        have hA3 : A * 2 * 2 ^ k < 65536 := by
          have := HA.out
          rw [Nat.pow_succ, Nat.mul_comm (2 ^ k) 2, ← Nat.mul_assoc] at this
          exact this
        have hB3 : B / 2 < 2 ^ k := by
          have := HB.out
          rw [Nat.pow_succ] at this
          omega
        have HA3 := Lib.hid hA3
        have HB3 := Lib.hid hB3
        clear hA3 hB3
        by_cases h1 : B % 2 = 1
        · rw [if_pos h1] at hst
          have HS := Lib.hid hst
          have ht : ((B : Int) % 2 == 1) = true := beq_iff_eq.2 (by omega)
          have hx := Lib.hid (bits_xor_i64 P A (by omega) (by omega))
          clear hst h1
          go_wp2
          go_round
          case rel => exact ⟨k, P ^^^ A, A * 2, B / 2, HS.out.1, HA3.out, HB3.out, by omega, HS.out.2, by rw [hx.out], by go_num, Hb.out⟩
          case measure => simp [intOf]; omega
        · rw [if_neg h1] at hst
          have HS := Lib.hid hst
          have ht : ((B : Int) % 2 == 1) = false := beq_eq_false_iff_ne.2 (by omega)
          clear hst h1
          go_wp2
          go_round
          case rel => exact ⟨k, P, A * 2, B / 2, HS.out.1, HA3.out, HB3.out, by omega, HS.out.2, rfl, by go_num, Hb.out⟩
          case measure => simp [intOf]; omega
    · obtain rfl : B = 0 := by omega
      go_wp2
      go_loop [5, 8] (fun p c => ∃ j P : Nat, j ≤ 8 ∧ P < 2 ^ (8 + j) ∧ GF.rd P = GF.mul X Y ∧ p = .int .i64 P ∧ c = .int .i64 ((2 ^ j / 2 : Nat) : Int)) (fun _ c => (intOf c).toNat)
      case atStart => exact ⟨8, P, by omega, by omega, by have := Hinv.out; rw [GF.mulAux_zero, Nat.xor_zero] at this; exact this, rfl, rfl⟩
      case round =>
        obtain ⟨j, P, hj, hP, hinv, rfl, rfl⟩ := hrel
        have HP := Lib.hid hP
        have Hi := Lib.hid hinv
        clear hP hinv
        cases j with
        | zero =>
          rw [show 2 ^ 0 / 2 = 0 by decide]
          go_wp2
          go_ret
          have hp : P < 256 := HP.out
          have := Hi.out
          rw [GF.rd_small P hp] at this
          exact ⟨ret_int (by rw [← this]; omega), rfl⟩
        | succ j =>
          obtain ⟨K, hK⟩ : ∃ K, K = 2 ^ j := ⟨_, rfl⟩
          have hK1 : 0 < K := by rw [hK]; exact Nat.two_pow_pos j
          have hK2 : K ≤ 128 := by rw [hK]; exact Nat.pow_le_pow_right (by omega) (by omega : j ≤ 7)
          have hP2 : P < 131072 := Nat.lt_of_lt_of_le HP.out (Nat.pow_le_pow_right (by omega) (by omega : 8 + (j + 1) ≤ 17))
          rw [show 2 ^ (j + 1) / 2 = K by rw [hK, Nat.pow_succ]; omega]
          have HK := Lib.hid hK
          have Hb := Lib.hid (half_i64 K)
          clear hK
          have e9 : 8 + (j + 1) = 9 + j := by omega
          have HP9 : Hid (P < 2 ^ (9 + j)) := Lib.hid (by rw [← e9]; exact HP.out)
          clear e9
          by_cases hc : K ≤ P / 256
          · have hs := GF.rest_step P j (by omega) HP9.out (by rw [← HK.out]; exact hc)
            rw [← HK.out] at hs
            have HS := Lib.hid hs
            have hx := Lib.hid (bits_xor_i64 P (285 * K) (by omega) (by omega))
            clear hs
            go_wp2
            go_round
            case rel => exact ⟨j, P ^^^ 285 * K, by omega, HS.out.1, HS.out.2.trans Hi.out, by rw [← hx.out]; go_num, by rw [Hb.out, HK.out]⟩
            case measure => simp [intOf]; omega
          · have hs := GF.rest_skip P j (by rw [← HK.out]; exact hc)
            have HS := Lib.hid hs
            clear hs
            go_wp2
            go_round
            case rel => exact ⟨j, P, by omega, HS.out, Hi.out, rfl, by rw [Hb.out, HK.out]⟩
            case measure => simp [intOf]; omega
end Go.Proofs.Ytlpmehnffdaobaa
