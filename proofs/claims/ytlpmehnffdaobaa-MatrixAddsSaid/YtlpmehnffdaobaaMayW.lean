/- Both Mays walked. -/
import Derived.Test.YtlpmehnffdaobaaMem
namespace Go.Proofs.Ytlpmehnffdaobaa
open Go.RowKit
set_option maxRecDepth 100000 in
set_option maxHeartbeats 2000000 in
theorem may_any (a : Option Addr) (r cap : Nat) (L : Nat → Nat) (M : Nat → Nat → Nat) (w : World) (hg : Grid w a r L M) (e : Bool) (he : (e = true) ↔ May r L) :
    Calls Try.prog 21 #[.slice a r cap] w fun v w' => v = .returned (.bool e) ∧ w = w' := by
  obtain ⟨hr, b, o, A, C, B, O, ha, hc⟩ := hg
  have HE := Lib.hid he
  clear he
  by_cases h0 : r < 1
  · have : e = false := by
      cases e with
      | false => rfl
      | true => exact absurd (HE.out.1 rfl).1 (by omega)
    subst this
    have t0 : (r : Int) < 1 := by omega
    clear HE ha hc
    go_enter Try.func21, Try.ntmps21
    go_wp2
    go_ret
    exact ⟨rfl, rfl⟩
  by_cases h1 : 32 < r
  · have : e = false := by
      cases e with
      | false => rfl
      | true => exact absurd (HE.out.1 rfl).2.1 (by omega)
    subst this
    have t0 : ¬ (r : Int) < 1 := by omega
    have t1 : (32 : Int) < (r : Int) := by omega
    clear HE ha hc
    go_enter Try.func21, Try.ntmps21
    go_wp2
    go_ret
    exact ⟨rfl, rfl⟩
  obtain rfl := ha (by omega)
  clear ha
  have t0 : ¬ (r : Int) < 1 := by omega
  have t1 : ¬ (32 : Int) < (r : Int) := by omega
  have r0 : (0 : Int) < (r : Int) := by omega
  have d0 : w.cell? ⟨b, o, none⟩ = some (.slice (A 0) (L 0) (C 0)) := (hc 0 (by omega)).1
  obtain ⟨l0, hl0⟩ : ∃ l, l = L 0 := ⟨_, rfl⟩
  obtain ⟨c0, hc0⟩ : ∃ l, l = C 0 := ⟨_, rfl⟩
  rw [← hl0, ← hc0] at d0
  by_cases h2 : l0 < 1
  · have : e = false := by
      cases e with
      | false => rfl
      | true => exact absurd (HE.out.1 rfl).2.2.1 (by omega)
    subst this
    have t2 : (l0 : Int) < 1 := by omega
    clear HE hc hl0 hc0
    go_enter Try.func21, Try.ntmps21
    go_wp2
    go_ret
    exact ⟨rfl, rfl⟩
  by_cases h3 : 32 < l0
  · have : e = false := by
      cases e with
      | false => rfl
      | true => exact absurd (HE.out.1 rfl).2.2.2.1 (by omega)
    subst this
    have t2 : ¬ (l0 : Int) < 1 := by omega
    have t3 : (32 : Int) < (l0 : Int) := by omega
    clear HE hc hl0 hc0
    go_enter Try.func21, Try.ntmps21
    go_wp2
    go_ret
    exact ⟨rfl, rfl⟩
  have t2 : ¬ (l0 : Int) < 1 := by omega
  have t3 : ¬ (32 : Int) < (l0 : Int) := by omega
  have Hl0 := Lib.hid hl0
  have Hc := Lib.hid hc
  clear hl0 hc0 hc
  go_enter Try.func21, Try.ntmps21
  go_wp2
  go_loop [29] (fun i => ∃ k : Nat, k ≤ r ∧ i = .int .i64 (k : Int) ∧ Hid (∀ j, j < k → L j = l0)) (fun i => r - (intOf i).toNat)
  case atStart => exact ⟨0, Nat.zero_le _, rfl, Lib.hid fun j hj => absurd hj (Nat.not_lt_zero _)⟩
  case round =>
    obtain ⟨k, hk, rfl, hi⟩ := hrel
    by_cases hkr : k < r
    · have hz : (k : Int) < (r : Int) := by omega
      have hz0 : (0 : Int) ≤ (k : Int) := by omega
      have g0 := (Hc.out k hkr).1
      obtain ⟨l, hl⟩ : ∃ l, l = L k := ⟨_, rfl⟩
      rw [← hl] at g0
      have Hl := Lib.hid hl
      clear hl
      by_cases hll : l = l0
      · have q : ((l : Int) == (l0 : Int)) = true := by subst hll; exact beq_self_eq_true _
        have Hll := Lib.hid hll
        clear hll
        go_wp2
        go_round
        case rel => exact ⟨k + 1, by omega, by go_num, Lib.hid fun j hj => by
          by_cases hjk : j = k
          · rw [hjk, ← Hl.out, Hll.out]
          · exact hi.out j (by omega)⟩
        case measure => simp [intOf]; omega
      · have q : ((l : Int) == (l0 : Int)) = false := by rw [beq_eq_false_iff_ne]; omega
        have : e = false := by
          cases e with
          | false => rfl
          | true => exact absurd ((HE.out.1 rfl).2.2.2.2 k hkr) (by rw [← Hl.out, ← Hl0.out]; exact hll)
        subst this
        clear hll
        go_wp2
        go_ret
        exact ⟨rfl, rfl⟩
    · have hkk : k = r := by omega
      have : e = true := HE.out.2 ⟨by omega, by omega, by rw [← Hl0.out]; omega, by rw [← Hl0.out]; omega, fun j hj => by rw [← Hl0.out]; exact hi.out j (by omega)⟩
      subst this
      have hz : ¬ (k : Int) < (r : Int) := by omega
      go_wp2
      go_ret
      exact ⟨rfl, rfl⟩
end Go.Proofs.Ytlpmehnffdaobaa
