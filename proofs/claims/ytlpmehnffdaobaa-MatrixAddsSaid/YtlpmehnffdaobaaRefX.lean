/- The document's Pow, Inv, Div, Log of the field, walked; and the examples at the head of all statements. -/
import Derived.Test.YtlpmehnffdaobaaRefW
import Derived.Test.YtlpmehnffdaobaaFresh
namespace Go.Proofs.Ytlpmehnffdaobaa
open Go.RowKit
theorem half_u64 (n : Nat) (h : U64 n) : IntKind.u64.wrap ((n : Int) / 2) = ((n / 2 : Nat) : Int) := by
  rw [IntKind.wrap_u64]; unfold U64 at h; omega
set_option maxHeartbeats 400000 in
theorem rpow_nat (X N : Nat) (hX : X < 256) (hN : U64 N) (w : World) :
    Calls Try.prog 37 #[.int .u8 (X : Int), .int .u64 (N : Int)] w fun e w' => e = .returned (.int .u8 ((GF.npow X N : Nat) : Int)) ∧ w = w' := by
  go_enter Try.func37, Try.ntmps37
  go_wp2
  go_loop [0, 1, 5] (fun a b o => ∃ x n r : Nat, x < 256 ∧ U64 n ∧ r < 256 ∧ GF.mul r (GF.npow x n) = GF.npow X N ∧ a = .int .u8 x ∧ b = .int .u64 n ∧ o = .int .u8 r) (fun _ b _ => (intOf b).toNat)
  case atStart => exact ⟨X, N, 1, hX, hN, by omega, GF.one_mul (GF.npow_lt X N hX), rfl, rfl, rfl⟩
  case round =>
    obtain ⟨x, n, r, hx, hn, hr, hinv, rfl, rfl, rfl⟩ := hrel
    have Hinv := Lib.hid hinv
    clear hinv
    by_cases h0 : 0 < n
    · have hh := Lib.hid (half_u64 n hn)
      have hxx := GF.mul_lt x x hx
      by_cases h1 : n % 2 = 1
      · have ht : ((n : Int) % 2 == 1) = true := beq_iff_eq.2 (by omega)
        have Hs := Lib.hid (GF.npow_half hx r n hr)
        have hro := GF.mul_lt r x hr
        have H1 := Lib.hid h1
        clear h1
        go_wp2_with fail
        refine (rmul_nat r x hr hx w).mono ?_
        rintro e w' ⟨rfl, rfl⟩
        go_wp2_with fail
        refine (rmul_nat x x hx hx w).mono ?_
        rintro e w' ⟨rfl, rfl⟩
        go_wp2
        go_round
        case rel =>
          refine ⟨GF.mul x x, n / 2, GF.mul r x, hxx, hn.half, hro, ?_, rfl, by rw [hh.out], rfl⟩
          have := Hs.out
          rw [if_pos H1.out, Hinv.out] at this
          exact this.symm
        case measure => simp [intOf, hh.out]; omega
      · have ht : ((n : Int) % 2 == 1) = false := beq_eq_false_iff_ne.2 (by omega)
        have Hs := Lib.hid (GF.npow_half hx r n hr)
        have H1 := Lib.hid h1
        clear h1
        go_wp2_with fail
        refine (rmul_nat x x hx hx w).mono ?_
        rintro e w' ⟨rfl, rfl⟩
        go_wp2
        go_round
        case rel =>
          refine ⟨GF.mul x x, n / 2, r, hxx, hn.half, hr, ?_, rfl, by rw [hh.out], rfl⟩
          have := Hs.out
          rw [if_neg H1.out, Hinv.out] at this
          exact this.symm
        case measure => simp [intOf, hh.out]; omega
    · obtain rfl : n = 0 := by omega
      go_wp2
      go_ret
      refine ⟨?_, rfl⟩
      have := Hinv.out
      rw [show GF.npow x 0 = 1 from rfl, GF.mul_one r hr] at this
      exact ret_int (congrArg Nat.cast this)

set_option maxHeartbeats 400000 in
theorem rinv_zero (w : World) :
    Calls Try.prog 30 #[.int .u8 0] w fun e w' => e = .returned (.tuple #[.int .u8 0, .int .i64 1]) ∧ w = w' := by
  go_enter Try.func30, Try.ntmps30
  go_wp2
  go_ret2
  exact ⟨rfl, rfl⟩
theorem tup_int {k k2 : IntKind} {a b c : Int} (h : a = b) : Ending.returned (.tuple #[.int k a, .int k2 c]) = .returned (.tuple #[.int k b, .int k2 c]) := by rw [h]
set_option maxRecDepth 100000 in
set_option maxHeartbeats 400000 in
theorem rinv_of (X I : Nat) (hX : X < 256) (h0 : X ≠ 0) (hi : I < 256) (hi0 : 0 < I) (hmI : Hid (GF.mul X I = 1)) (huI : Hid (∀ y, y < 256 → GF.mul X y = 1 → y = I)) (w : World) :
    Calls Try.prog 30 #[.int .u8 (X : Int)] w fun e w' => e = .returned (.tuple #[.int .u8 (I : Int), .int .i64 0]) ∧ w = w' := by
  have ht : ((X : Int) == 0) = false := by rw [beq_eq_false_iff_ne]; omega
  go_enter Try.func30, Try.ntmps30
  go_wp2
  go_loop [4] (fun y => ∃ Y : Nat, 1 ≤ Y ∧ Y ≤ I ∧ y = .int .u8 Y) (fun y => 255 - (intOf y).toNat)
  case atStart => exact ⟨1, by omega, by omega, rfl⟩
  case round =>
    obtain ⟨Y, hY1, hY2, rfl⟩ := hrel
    have hlt := GF.mul_lt X Y hX
    by_cases h255 : Y < 255
    · by_cases h1 : GF.mul X Y = 1
      · have hu := Lib.hid (huI.out Y (by omega) h1)
        have hb : (((GF.mul X Y : Nat) : Int) != 1) = false := by rw [h1]; rfl
        clear h1
        go_wp2_with fail
        refine (rmul_nat X Y hX (by omega) w).mono ?_
        rintro e w' ⟨rfl, rfl⟩
        go_wp2
        go_ret2
        exact ⟨tup_int (congrArg Nat.cast hu.out), rfl⟩
      · have hb : (((GF.mul X Y : Nat) : Int) != 1) = true := by rw [bne_iff_ne]; omega
        have hne : Y ≠ I := by
          intro e
          exact h1 (by rw [e]; exact hmI.out)
        have hlt2 : Y < I := by omega
        clear h1 hne
        go_wp2_with fail
        refine (rmul_nat X Y hX (by omega) w).mono ?_
        rintro e w' ⟨rfl, rfl⟩
        go_wp2
        go_round
        case rel => exact ⟨Y + 1, by omega, by omega, by go_num⟩
        case measure => simp [intOf]; omega
    · have hy : Y = I := by omega
      have hu := Lib.hid hy
      clear hy
      go_wp2
      go_ret2
      exact ⟨tup_int (congrArg Nat.cast hu.out), rfl⟩
theorem rinv_nat (X : Nat) (hX : X < 256) (h0 : X ≠ 0) (w : World) :
    Calls Try.prog 30 #[.int .u8 (X : Int)] w fun e w' => e = .returned (.tuple #[.int .u8 ((GF.inv X : Nat) : Int), .int .i64 0]) ∧ w = w' :=
  rinv_of X (GF.inv X) hX h0 (GF.inv_lt X hX) (Nat.pos_of_ne_zero (GF.inv_ne hX h0)) (Lib.hid (GF.mul_inv hX h0)) (Lib.hid fun _ hy h => GF.inv_uniq hX hy h) w
end Go.Proofs.Ytlpmehnffdaobaa
