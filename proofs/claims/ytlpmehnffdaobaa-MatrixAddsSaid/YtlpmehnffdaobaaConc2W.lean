/- slices.Concat of two rows, joined: walked. -/
import Derived.Test.YtlpmehnffdaobaaConcW
namespace Go.Proofs.Ytlpmehnffdaobaa
open Go.RowKit Go.Deep
set_option linter.unusedVariables false
/-- rows put one behind the other -/
def cat (n : Nat) (F : Nat → Nat → Nat) (j : Nat) : Nat := F (j / n) (j % n)
theorem cat_at (n : Nat) (F : Nat → Nat → Nat) (k j : Nat) (hj : j < n) : F k j = cat n F (k * n + j) := by
  unfold cat
  rw [Nat.mul_comm, Nat.mul_add_div (by omega), Nat.div_eq_of_lt hj, Nat.mul_add_mod, Nat.mod_eq_of_lt hj, Nat.add_zero]
set_option maxRecDepth 100000 in
set_option maxHeartbeats 8000000 in
theorem concat_any (T n : Nat) (B O C : Nat → Nat) (F : Nat → Nat → Nat) (h1 : 1 ≤ n) (h2 : n ≤ 32) (w : World)
    (hc : ∀ i, i < 2 → w.cell? ⟨T, i, none⟩ = some (.slice (some ⟨B i, O i, none⟩) n (C i)) ∧ ∀ j, j < n → w.cell? ⟨B i, O i + j, none⟩ = some (.int .u8 (F i j : Int)) ∧ F i j < 256) :
    Calls Try.prog 42 #[.slice (some ⟨T, 0, none⟩) 2 2] w fun e w' => ∃ v, e = .returned v ∧ RowOwn w w' v (2 * n) (cat n F) := by
  obtain ⟨j0, hj, hy0, hy1, hy2⟩ := infoB
  have HC := Lib.hid hc
  have n2 : (n : Int) ≤ 32 := by omega
  have n0 : (0 : Int) ≤ (n : Int) := by omega
  clear hc
  go_enter Try.func42, Try.ntmps42
  go_wp2
  go_loop [3, 11] (fun s3 s11 => ∃ k : Nat, k ≤ 2 ∧ s11 = .int .i64 (k : Int) ∧ s3 = .int .i64 ((k * n : Nat) : Int)) (fun _ s11 => 2 - (intOf s11).toNat)
  case atStart => exact ⟨0, by omega, rfl, by simp⟩
  case round =>
    obtain ⟨k, hk, rfl, rfl⟩ := hrel
    by_cases hkn : k < 2
    · have k0 : (0 : Int) ≤ (k : Int) := by omega
      have k1 : (k : Int) < 2 := by omega
      have d := (HC.out k hkn).1
      obtain ⟨S, hS⟩ : ∃ S, S = k * n := ⟨_, rfl⟩
      have s2 : (S : Int) ≤ 64 := by have : k * n ≤ 2 * n := Nat.mul_le_mul_right n (by omega); omega
      have HS : Hid ((S : Int) + (n : Int) = (((k + 1) * n : Nat) : Int)) := Lib.hid (by rw [hS, Nat.add_mul]; push_cast; omega)
      rw [← hS]
      clear hS
      have s3 : ¬ (S : Int) + (n : Int) < 0 := by omega
      go_wp2
      go_round
      case rel => exact ⟨k + 1, by omega, by go_num, by rw [HS.out]⟩
      case measure => simp [intOf]; omega
    · have hkk : k = 2 := by omega
      subst hkk
      go_wp2_with fail
      refine (grow_nil (2 * n) (by omega) (by omega) (cat n F) _).mono ?_
      rintro e w1 ⟨v, rfl, hr⟩
      have HR := Lib.hid hr
      clear hr
      go_wp2
      go_loopw [6, 27] (fun s6 s27 W => ∃ k : Nat, k ≤ 2 ∧ s27 = .int .i64 (k : Int) ∧ RowOwn w W s6 (k * n) (cat n F)) (fun _ s27 _ => 2 - (intOf s27).toNat)
      case atStart => exact ⟨0, by omega, rfl, by rw [Nat.zero_mul]; exact HR.out⟩
      case round =>
        obtain ⟨k, hk, rfl, hr⟩ := hrel
        have HQ := Lib.hid hr
        clear hr HR
        by_cases hkn : k < 2
        · have k0 : (0 : Int) ≤ (k : Int) := by omega
          have k1 : (k : Int) < 2 := by omega
          have d := below_cell HQ.out.below (HC.out k hkn).1
          have hk2 : k * n ≤ 2 * n := Nat.mul_le_mul_right n (by omega)
          have HN := Lib.hid (row_slots (W := wr) fun j hj => ⟨below_cell HQ.out.below ((HC.out k hkn).2 j hj).1, ((HC.out k hkn).2 j hj).2⟩)
          go_wp2_with (first
            | (at_builtin; refine wpList_append_own _ rfl (.tmp 31) (.tmp 32) 38 rfl w.heap.size 5 j0 (.int .u8 0) 1 1 Try.underlying38 hj hy0 hy1 hy2 rfl (by decide) _ _ _ rfl HQ.out.own ⟨B k, O k, none⟩ n (C k) ((List.range n).map fun j => .int .u8 (F k j : Int)) rfl (by simp) HN.out (row_ones n (F k)) (by unfold maxLen; omega) (by omega) HQ.out.below.size ?_)
            | go_in)
          intro v' w2 hown hgrow _
          have HP := Lib.hid (HQ.out.push2 (Below.refl _ _) hown (fun j hj => cat_at n F k j hj) hgrow)
          clear hown hgrow
          go_wp2
          go_roundw
          case rel => exact ⟨k + 1, by omega, by go_num, by rw [Nat.add_mul, Nat.one_mul]; exact HP.out⟩
          case measure => simp [intOf]; omega
        · have hkk : k = 2 := by omega
          subst hkk
          go_wp2
          go_ret
          exact ⟨_, rfl, HQ.out⟩
set_option maxRecDepth 100000 in
theorem joined_any (T n : Nat) (B O C : Nat → Nat) (F : Nat → Nat → Nat) (h1 : 1 ≤ n) (h2 : n ≤ 32) (w : World)
    (hc : ∀ i, i < 2 → w.cell? ⟨T, i, none⟩ = some (.slice (some ⟨B i, O i, none⟩) n (C i)) ∧ ∀ j, j < n → w.cell? ⟨B i, O i + j, none⟩ = some (.int .u8 (F i j : Int)) ∧ F i j < 256) :
    Calls Try.prog 24 #[.slice (some ⟨T, 0, none⟩) 2 2] w fun e w' => ∃ v, e = .returned v ∧ RowOwn w w' v (2 * n) (cat n F) := by
  have HC := Lib.hid hc
  clear hc
  go_enter Try.func24, Try.ntmps24
  go_wp2_with fail
  refine (concat_any T n B O C F h1 h2 w HC.out).mono ?_
  rintro e w1 ⟨v, rfl, hr⟩
  have HR := Lib.hid hr
  clear hr
  go_wp2
  go_ret
  exact ⟨_, rfl, HR.out⟩
end Go.Proofs.Ytlpmehnffdaobaa
