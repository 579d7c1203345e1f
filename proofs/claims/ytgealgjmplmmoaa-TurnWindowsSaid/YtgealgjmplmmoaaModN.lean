/- math.Mod by 8191, walked at words of whole numbers below 0; and at all. -/
import Derived.Test.YtgealgjmplmmoaaModW
namespace Go.Proofs.Ytgealgjmplmmoaa
open Go.RowKit
theorem run_neg (s : Bool) (N : Nat) (hN : N < 9007199254740992) (w : World) : (Op.unary .neg (.float .f64 (FL.wd s N))).run Try.prog w = .ok (.float .f64 (FL.wd (!s) N)) w := by
  have h : Op.negFloat .f64 (FL.wd s N) = FL.wd (!s) N := FL.neg_wd s N hN
  simp [Op.unary, h]
set_option maxRecDepth 100000 in
set_option maxHeartbeats 4000000 in
theorem mod_neg (N : Nat) (hN0 : N ≠ 0) (hN : N < 9007199254740992) (w : World) :
    Calls Try.prog 29 #[.float .f64 (FL.wd true N), .float .f64 (FL.wd false 8191)] w fun e w' => e = .returned (.float .f64 (FL.wd true (N % 8191))) ∧ w = w' := by
  have hy := order_zero false 8191 (by omega) (by omega)
  have hx : (FloatKind.f64.format.order (FL.wd true N) 0 == some Ordering.lt) = true := by
    rw [order_lt_zero true N hN]; exact decide_eq_true (by unfold FL.V; simp; omega)
  have e12 := Lib.hid (show (8191 : Nat).log2 = 12 by decide +kernel)
  go_enter Try.func29, Try.ntmps29
  go_wp2_with fail
  refine (isinf_wd true N hN w).mono ?_
  rintro e w' ⟨rfl, rfl⟩
  go_wp2_with fail
  refine (isnan_wd true N hN w).mono ?_
  rintro e w' ⟨rfl, rfl⟩
  go_wp2_with fail
  refine (isnan_wd false 8191 (by omega) w).mono ?_
  rintro e w' ⟨rfl, rfl⟩
  go_wp2_with fail
  refine (abs_wd false 8191 (by omega) w).mono ?_
  rintro e w' ⟨rfl, rfl⟩
  go_wp2_with fail
  refine (Frexp_wd 8191 12 (by omega) (by omega) e12 (by omega) w).mono ?_
  rintro e w' ⟨rfl, rfl⟩
  have hng := fun w => run_neg true N hN w
  simp only [Bool.not_true] at hng
  go_wp2_with fail
  go_loop [7] (fun r => ∃ R : Nat, R < 9007199254740992 ∧ R % 8191 = N % 8191 ∧ r = .float .f64 (FL.wd false R)) (fun r => rOf r)
  case atStart => exact ⟨N, hN, rfl, rfl⟩
  case round =>
    obtain ⟨R, hR, hmod, rfl⟩ := hrel
    have Hm := Lib.hid hmod
    have Hr := Lib.hid (rOf_wd R hR)
    clear hmod
    by_cases hlt : R < 8191
    · have ho := order_is_lt R hlt
      have hng2 := fun w => run_neg false R hR w
      simp only [Bool.not_false] at hng2
      have HN := Lib.hid (show R = N % 8191 by have := Hm.out; omega)
      go_wp2
      go_ret
      exact ⟨congrArg (fun x => Ending.returned (.float .f64 (FL.wd true x))) HN.out, rfl⟩
    · have hge : 8191 ≤ R := by omega
      have h0 : R ≠ 0 := by omega
      by_cases hs : FL.sig R < 8191 * 1099511627776
      · skip
        obtain ⟨l1, l2, l3⟩ := FL.step_hi R hge hs hR
        obtain ⟨k, hk⟩ : ∃ k, R.log2 = k + 13 := ⟨R.log2 - 13, by omega⟩
        have hkd : k + 13 ≤ 52 := by omega
        have Hk := Lib.hid hk
        obtain ⟨P, hP⟩ : ∃ P, P = 8191 * 2 ^ k := ⟨_, rfl⟩
        have hPR : P ≤ R := by
          rw [hk, show k + 13 - 13 = k by omega] at l3
          omega
        have hP0 : 0 < P := by rw [hP]; have := Nat.two_pow_pos k; omega
        have hT := Lib.hid (show FL.wd false (8191 * 2 ^ k) = FL.wd false P by rw [hP])
        have hk40 : k ≤ 40 := by omega
        have hsub := sub_word R P hR hPR
        have hmod2 := Lib.hid (show (R - P) % 8191 = N % 8191 by rw [hP, FL.rest_mod R (2 ^ k) (by omega)]; exact Hm.out)
        have Hr2 := Lib.hid (rOf_wd (R - P) (by omega))
        have hf : (FloatKind.f64.format.order (FL.fr R) (FL.fr 8191) == some Ordering.lt) = true := by
          rw [order_frac R h0 hR]
          exact decide_eq_true hs
        clear hk hP l1 l2 l3 hs
        rcases Nat.lt_or_eq_of_le hge with hgt | heq
        · have ho := order_is_gt R hR hgt
          go_wp2_with fail
          refine (Frexp_wd R (k + 13) h0 hR Hk (by omega) w).mono ?_
          rintro e w' ⟨rfl, rfl⟩
          go_wp2_with fail
          refine (Ldexp_at _ k _ (by omega) hk40 hT.out w).mono ?_
          rintro e w' ⟨rfl, rfl⟩
          go_wp2
          go_round
          case rel => exact ⟨R - P, by omega, hmod2.out, rfl⟩
          case measure => rw [Hr2.out, Hr.out]; omega
        · have ho : FloatKind.f64.format.order (FL.wd false R) (FL.wd false 8191) = some .eq := by rw [← heq]; exact order_is_eq
          clear heq
          go_wp2_with fail
          refine (Frexp_wd R (k + 13) h0 hR Hk (by omega) w).mono ?_
          rintro e w' ⟨rfl, rfl⟩
          go_wp2_with fail
          refine (Ldexp_at _ k _ (by omega) hk40 hT.out w).mono ?_
          rintro e w' ⟨rfl, rfl⟩
          go_wp2
          go_round
          case rel => exact ⟨R - P, by omega, hmod2.out, rfl⟩
          case measure => rw [Hr2.out, Hr.out]; omega
      · skip
        obtain ⟨l1, l2, l3⟩ := FL.step_lo R hge hs hR
        obtain ⟨k, hk⟩ : ∃ k, R.log2 = k + 12 := ⟨R.log2 - 12, by omega⟩
        have hkd : k + 12 ≤ 52 := by omega
        have Hk := Lib.hid hk
        obtain ⟨P, hP⟩ : ∃ P, P = 8191 * 2 ^ k := ⟨_, rfl⟩
        have hPR : P ≤ R := by
          rw [hk, show k + 12 - 12 = k by omega] at l3
          omega
        have hP0 : 0 < P := by rw [hP]; have := Nat.two_pow_pos k; omega
        have hT := Lib.hid (show FL.wd false (8191 * 2 ^ k) = FL.wd false P by rw [hP])
        have hk40 : k ≤ 40 := by omega
        have hsub := sub_word R P hR hPR
        have hmod2 := Lib.hid (show (R - P) % 8191 = N % 8191 by rw [hP, FL.rest_mod R (2 ^ k) (by omega)]; exact Hm.out)
        have Hr2 := Lib.hid (rOf_wd (R - P) (by omega))
        have hf : (FloatKind.f64.format.order (FL.fr R) (FL.fr 8191) == some Ordering.lt) = false := by
          rw [order_frac R h0 hR]
          exact decide_eq_false hs
        clear hk hP l1 l2 l3 hs
        rcases Nat.lt_or_eq_of_le hge with hgt | heq
        · have ho := order_is_gt R hR hgt
          go_wp2_with fail
          refine (Frexp_wd R (k + 12) h0 hR Hk (by omega) w).mono ?_
          rintro e w' ⟨rfl, rfl⟩
          go_wp2_with fail
          refine (Ldexp_at _ k _ (by omega) hk40 hT.out w).mono ?_
          rintro e w' ⟨rfl, rfl⟩
          go_wp2
          go_round
          case rel => exact ⟨R - P, by omega, hmod2.out, rfl⟩
          case measure => rw [Hr2.out, Hr.out]; omega
        · have ho : FloatKind.f64.format.order (FL.wd false R) (FL.wd false 8191) = some .eq := by rw [← heq]; exact order_is_eq
          clear heq
          go_wp2_with fail
          refine (Frexp_wd R (k + 12) h0 hR Hk (by omega) w).mono ?_
          rintro e w' ⟨rfl, rfl⟩
          go_wp2_with fail
          refine (Ldexp_at _ k _ (by omega) hk40 hT.out w).mono ?_
          rintro e w' ⟨rfl, rfl⟩
          go_wp2
          go_round
          case rel => exact ⟨R - P, by omega, hmod2.out, rfl⟩
          case measure => rw [Hr2.out, Hr.out]; omega
set_option maxRecDepth 100000 in
set_option maxHeartbeats 400000 in
theorem mod_mzero (w : World) :
    Calls Try.prog 29 #[.float .f64 (FL.wd true 0), .float .f64 (FL.wd false 8191)] w fun e w' => e = .returned (.float .f64 (FL.wd true 0)) ∧ w = w' := by
  have hy := order_zero false 8191 (by omega) (by omega)
  have hx : (FloatKind.f64.format.order (FL.wd true 0) 0 == some Ordering.lt) = false := by
    rw [order_lt_zero true 0 (by omega)]; exact decide_eq_false (by unfold FL.V; simp)
  have ho : FloatKind.f64.format.order (FL.wd true 0) (FL.wd false 8191) = some .lt := by
    have h1 : FloatKind.f64.format.order (FL.wd true 0) (FL.wd false 8191) = some (compare (FL.V true 0) (FL.V false 8191)) := FL.order_wd true false 0 8191 (by omega) (by omega)
    rw [h1]; rfl
  have e12 := Lib.hid (show (8191 : Nat).log2 = 12 by decide +kernel)
  go_enter Try.func29, Try.ntmps29
  go_wp2_with fail
  refine (isinf_wd true 0 (by omega) w).mono ?_
  rintro e w' ⟨rfl, rfl⟩
  go_wp2_with fail
  refine (isnan_wd true 0 (by omega) w).mono ?_
  rintro e w' ⟨rfl, rfl⟩
  go_wp2_with fail
  refine (isnan_wd false 8191 (by omega) w).mono ?_
  rintro e w' ⟨rfl, rfl⟩
  go_wp2_with fail
  refine (abs_wd false 8191 (by omega) w).mono ?_
  rintro e w' ⟨rfl, rfl⟩
  go_wp2_with fail
  refine (Frexp_wd 8191 12 (by omega) (by omega) e12 (by omega) w).mono ?_
  rintro e w' ⟨rfl, rfl⟩
  go_wp2_with fail
  refine wp_loop_rounds 1 ?_
  rw [rounds_succ]
  go_wp2
  go_ret
  exact ⟨rfl, rfl⟩
theorem mod_wd (s : Bool) (N : Nat) (hN : N < 9007199254740992) (w : World) :
    Calls Try.prog 29 #[.float .f64 (FL.wd s N), .float .f64 (FL.wd false 8191)] w fun e w' => e = .returned (.float .f64 (FL.wd s (N % 8191))) ∧ w = w' := by
  cases s with
  | false => exact mod_pos N hN w
  | true =>
    by_cases h0 : N = 0
    · subst h0; exact mod_mzero w
    · exact mod_neg N h0 hN w
theorem Mod_wd (s : Bool) (N : Nat) (hN : N < 9007199254740992) (w : World) :
    Calls Try.prog 27 #[.float .f64 (FL.wd s N), .float .f64 4665728114444206080] w fun e w' => e = .returned (.float .f64 (FL.wd s (N % 8191))) ∧ w = w' := by
  rw [word_8191]
  go_enter Try.func27, Try.ntmps27
  go_wp2_with fail
  refine (mod_wd s N hN w).mono ?_
  rintro e w' ⟨rfl, rfl⟩
  go_wp2
  go_ret
  exact ⟨rfl, rfl⟩
end Go.Proofs.Ytgealgjmplmmoaa
