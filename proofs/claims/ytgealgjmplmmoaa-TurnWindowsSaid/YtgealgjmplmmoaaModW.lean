/- math.Mod by 8191, walked at words of whole numbers. -/
import Derived.Test.YtgealgjmplmmoaaMathW
namespace Go.Proofs.Ytgealgjmplmmoaa
open Go.RowKit
theorem Ldexp_at (z : Int) (k T : Nat) (hz : z = (k : Int)) (hk : k ≤ 40) (hT : FL.wd false (8191 * 2 ^ k) = T) (w : World) :
    Calls Try.prog 35 #[.float .f64 (FL.wd false 8191), .int .i64 z] w fun e w' => e = .returned (.float .f64 T) ∧ w = w' := by
  subst hz; exact Ldexp_of k T hk hT w
theorem order_lt_zero (s : Bool) (N : Nat) (hN : N < 9007199254740992) : (FloatKind.f64.format.order (FL.wd s N) 0 == some Ordering.lt) = decide (FL.V s N < 0) := by
  have h1 : FloatKind.f64.format.order (FL.wd s N) (FL.wd false 0) = some (compare (FL.V s N) (FL.V false 0)) := FL.order_wd s false N 0 hN (by omega)
  rw [FL.wd_zero] at h1
  rw [h1, FL.compare_lt]
  rfl
theorem order_val (R : Nat) (hR : R < 9007199254740992) : FloatKind.f64.format.order (FL.wd false R) (FL.wd false 8191) = some (compare (R : Int) 8191) :=
  FL.order_wd false false R 8191 hR (by omega)
theorem order_is_lt (R : Nat) (hR : R < 8191) : FloatKind.f64.format.order (FL.wd false R) (FL.wd false 8191) = some .lt := by
  rw [order_val R (by omega)]
  show some (compareOfLessAndEq (R : Int) 8191) = _
  unfold compareOfLessAndEq
  rw [if_pos (by omega)]
theorem order_is_eq : FloatKind.f64.format.order (FL.wd false 8191) (FL.wd false 8191) = some .eq := by
  rw [order_val 8191 (by omega)]
  rfl
theorem order_is_gt (R : Nat) (hR : R < 9007199254740992) (h : 8191 < R) : FloatKind.f64.format.order (FL.wd false R) (FL.wd false 8191) = some .gt := by
  rw [order_val R hR]
  show some (compareOfLessAndEq (R : Int) 8191) = _
  unfold compareOfLessAndEq
  rw [if_neg (by omega), if_neg (by omega)]
/-- the whole number in a slot -/
def rOf : Value → Nat
  | .float _ b => (((Ieee.double.read b).toInt .zero).getD 0).toNat
  | _ => 0
theorem rOf_wd (R : Nat) (hR : R < 9007199254740992) : rOf (.float .f64 (FL.wd false R)) = R := by
  show (((Ieee.double.read (FL.wd false R)).toInt .zero).getD 0).toNat = R
  rw [FL.toInt_wd false R hR]
  rfl
theorem order_frac (R : Nat) (h0 : R ≠ 0) (hR : R < 9007199254740992) :
    (FloatKind.f64.format.order (FL.fr R) (FL.fr 8191) == some Ordering.lt) = decide (FL.sig R < 8191 * 1099511627776) := by
  have h1 : FloatKind.f64.format.order (FL.fr R) (FL.fr 8191) = some (compare ((FL.sig R : Nat) : Int) ((FL.sig 8191 : Nat) : Int)) := FL.order_fr h0 hR (by omega) (by omega)
  rw [h1, FL.compare_lt]
  have := FL.sig_8191 0 (by omega)
  rw [Nat.pow_zero, Nat.mul_one] at this
  rw [this, decide_eq_decide]
  omega
theorem sub_word (R T : Nat) (hR : R < 9007199254740992) (hT : T ≤ R) (w : World) :
    (binOp .sub 50 (.float .f64 (FL.wd false R)) (.float .f64 (FL.wd false T))).run Try.prog w = .ok (.float .f64 (FL.wd false (R - T))) w := by
  refine run_float_arith w .sub 50 .f64 _ _ _ ?_
  have e : FL.V false R + FL.V (!false) T = ((R - T : Nat) : Int) := by unfold FL.V; simp; omega
  have := FL.sub_wd false false R T hR (by omega) (by rw [e]; omega)
  rw [e] at this
  have hs : FL.sg false (!false) ((R - T : Nat) : Int) = false := by
    unfold FL.sg
    split
    · rfl
    · exact decide_eq_false (by omega)
  rw [hs] at this
  exact this
set_option maxRecDepth 100000 in
set_option maxHeartbeats 4000000 in
theorem mod_pos (N : Nat) (hN : N < 9007199254740992) (w : World) :
    Calls Try.prog 29 #[.float .f64 (FL.wd false N), .float .f64 (FL.wd false 8191)] w fun e w' => e = .returned (.float .f64 (FL.wd false (N % 8191))) ∧ w = w' := by
  have hy := order_zero false 8191 (by omega) (by omega)
  have hx : (FloatKind.f64.format.order (FL.wd false N) 0 == some Ordering.lt) = false := by
    rw [order_lt_zero false N hN]; exact decide_eq_false (by unfold FL.V; simp)
  have e12 := Lib.hid (show (8191 : Nat).log2 = 12 by decide +kernel)
  go_enter Try.func29, Try.ntmps29
  go_wp2_with fail
  refine (isinf_wd false N hN w).mono ?_
  rintro e w' ⟨rfl, rfl⟩
  go_wp2_with fail
  refine (isnan_wd false N hN w).mono ?_
  rintro e w' ⟨rfl, rfl⟩
  go_wp2_with fail
  refine (isnan_wd false 8191 (by omega) w).mono ?_
  rintro e w' ⟨rfl, rfl⟩
  go_wp2_with fail
  refine (abs_wd false 8191 (by omega) w).mono ?_
  rintro e w' ⟨rfl, rfl⟩
  go_wp2_with fail
  refine (Frexp_wd 8191 12 (by omega) (by omega) e12 (by omega) w).mono ?_
  rintro e w' ⟨rfl, rfl⟩
  go_wp2_with fail
  go_loop [7] (fun r => ∃ R : Nat, R < 9007199254740992 ∧ R % 8191 = N % 8191 ∧ r = .float .f64 (FL.wd false R)) (fun r => rOf r)
  case atStart => exact ⟨N, hN, rfl, rfl⟩
  case round =>
    obtain ⟨R, hR, hmod, rfl⟩ := hrel
    have Hm := Lib.hid hmod
    have Hr := Lib.hid (rOf_wd R hR)
    clear hmod
    by_cases hlt : R < 8191
    · have ho := order_is_lt R hlt
      have HN := Lib.hid (show R = N % 8191 by have := Hm.out; omega)
      go_wp2
      go_ret
      exact ⟨congrArg (fun x => Ending.returned (.float .f64 (FL.wd false x))) HN.out, rfl⟩
    · have hge : 8191 ≤ R := by omega
      have h0 : R ≠ 0 := by omega
      by_cases hs : FL.sig R < 8191 * 1099511627776
      · skip
        obtain ⟨l1, l2, l3⟩ := FL.step_hi R hge hs hR
        obtain ⟨k, hk⟩ : ∃ k, R.log2 = k + 13 := ⟨R.log2 - 13, by omega⟩
        have hkd : k + 13 ≤ 52 := by omega
        have Hk := Lib.hid hk
        obtain ⟨P, hP⟩ : ∃ P, P = 8191 * 2 ^ k := ⟨_, rfl⟩
        have hPR : P ≤ R := by
          rw [hk, show k + 13 - 13 = k by omega] at l3
          omega
        have hP0 : 0 < P := by rw [hP]; have := Nat.two_pow_pos k; omega
        have hT := Lib.hid (show FL.wd false (8191 * 2 ^ k) = FL.wd false P by rw [hP])
        have hk40 : k ≤ 40 := by omega
        have hsub := sub_word R P hR hPR
        have hmod2 := Lib.hid (show (R - P) % 8191 = N % 8191 by rw [hP, FL.rest_mod R (2 ^ k) (by omega)]; exact Hm.out)
        have Hr2 := Lib.hid (rOf_wd (R - P) (by omega))
        have hf : (FloatKind.f64.format.order (FL.fr R) (FL.fr 8191) == some Ordering.lt) = true := by
          rw [order_frac R h0 hR]
          exact decide_eq_true hs
        clear hk hP l1 l2 l3 hs
        rcases Nat.lt_or_eq_of_le hge with hgt | heq
        · have ho := order_is_gt R hR hgt
          go_wp2_with fail
          refine (Frexp_wd R (k + 13) h0 hR Hk (by omega) w).mono ?_
          rintro e w' ⟨rfl, rfl⟩
          go_wp2_with fail
          refine (Ldexp_at _ k _ (by omega) hk40 hT.out w).mono ?_
          rintro e w' ⟨rfl, rfl⟩
          go_wp2
          go_round
          case rel => exact ⟨R - P, by omega, hmod2.out, rfl⟩
          case measure => rw [Hr2.out, Hr.out]; omega
        · have ho : FloatKind.f64.format.order (FL.wd false R) (FL.wd false 8191) = some .eq := by rw [← heq]; exact order_is_eq
          clear heq
          go_wp2_with fail
          refine (Frexp_wd R (k + 13) h0 hR Hk (by omega) w).mono ?_
          rintro e w' ⟨rfl, rfl⟩
          go_wp2_with fail
          refine (Ldexp_at _ k _ (by omega) hk40 hT.out w).mono ?_
          rintro e w' ⟨rfl, rfl⟩
          go_wp2
          go_round
          case rel => exact ⟨R - P, by omega, hmod2.out, rfl⟩
          case measure => rw [Hr2.out, Hr.out]; omega
      · skip
        obtain ⟨l1, l2, l3⟩ := FL.step_lo R hge hs hR
        obtain ⟨k, hk⟩ : ∃ k, R.log2 = k + 12 := ⟨R.log2 - 12, by omega⟩
        have hkd : k + 12 ≤ 52 := by omega
        have Hk := Lib.hid hk
        obtain ⟨P, hP⟩ : ∃ P, P = 8191 * 2 ^ k := ⟨_, rfl⟩
        have hPR : P ≤ R := by
          rw [hk, show k + 12 - 12 = k by omega] at l3
          omega
        have hP0 : 0 < P := by rw [hP]; have := Nat.two_pow_pos k; omega
        have hT := Lib.hid (show FL.wd false (8191 * 2 ^ k) = FL.wd false P by rw [hP])
        have hk40 : k ≤ 40 := by omega
        have hsub := sub_word R P hR hPR
        have hmod2 := Lib.hid (show (R - P) % 8191 = N % 8191 by rw [hP, FL.rest_mod R (2 ^ k) (by omega)]; exact Hm.out)
        have Hr2 := Lib.hid (rOf_wd (R - P) (by omega))
        have hf : (FloatKind.f64.format.order (FL.fr R) (FL.fr 8191) == some Ordering.lt) = false := by
          rw [order_frac R h0 hR]
          exact decide_eq_false hs
        clear hk hP l1 l2 l3 hs
        rcases Nat.lt_or_eq_of_le hge with hgt | heq
        · have ho := order_is_gt R hR hgt
          go_wp2_with fail
          refine (Frexp_wd R (k + 12) h0 hR Hk (by omega) w).mono ?_
          rintro e w' ⟨rfl, rfl⟩
          go_wp2_with fail
          refine (Ldexp_at _ k _ (by omega) hk40 hT.out w).mono ?_
          rintro e w' ⟨rfl, rfl⟩
          go_wp2
          go_round
          case rel => exact ⟨R - P, by omega, hmod2.out, rfl⟩
          case measure => rw [Hr2.out, Hr.out]; omega
        · have ho : FloatKind.f64.format.order (FL.wd false R) (FL.wd false 8191) = some .eq := by rw [← heq]; exact order_is_eq
          clear heq
          go_wp2_with fail
          refine (Frexp_wd R (k + 12) h0 hR Hk (by omega) w).mono ?_
          rintro e w' ⟨rfl, rfl⟩
          go_wp2_with fail
          refine (Ldexp_at _ k _ (by omega) hk40 hT.out w).mono ?_
          rintro e w' ⟨rfl, rfl⟩
          go_wp2
          go_round
          case rel => exact ⟨R - P, by omega, hmod2.out, rfl⟩
          case measure => rw [Hr2.out, Hr.out]; omega
end Go.Proofs.Ytgealgjmplmmoaa
