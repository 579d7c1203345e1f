/- The document's May walked. -/
import Derived.Test.YtlpmehnffdaobaaMem
import Derived.Deep.QuietTactic
import Derived.BigQuiet
namespace Go.Proofs.Ytlpmehnffdaobaa
open Go.RowKit
theorem _root_.Go.Fresh.drewN {w W : World} (h : Fresh w W) (n : Nat) : Fresh w (W.drewN n) := by
  induction n with
  | zero => exact h
  | succ n ih => exact ih.drew
set_option maxRecDepth 100000 in
set_option maxHeartbeats 4000000 in
theorem rmay_any (a : Option Addr) (r cap : Nat) (L : Nat → Nat) (M : Nat → Nat → Nat) (w : World) (hg : Grid w a r L M) (e : Bool) (he : (e = true) ↔ May r L) :
    Calls Try.prog 22 #[.slice a r cap] w fun v w' => v = .returned (.bool e) ∧ Fresh w w' := by
  obtain ⟨hr, b, o, A, C, B, O, ha, hc⟩ := hg
  have HE := Lib.hid he
  clear he
  by_cases h0 : r < 1
  · have : e = false := by
      cases e with
      | false => rfl
      | true => exact absurd (HE.out.1 rfl).1 (by omega)
    subst this
    have t0 : (r : Int) < 1 := by omega
    clear HE ha hc
    go_enter Try.func22, Try.ntmps22
    go_wp2
    go_ret
    exact ⟨rfl, Fresh.refl _⟩
  by_cases h1 : 32 < r
  · have : e = false := by
      cases e with
      | false => rfl
      | true => exact absurd (HE.out.1 rfl).2.1 (by omega)
    subst this
    have t0 : ¬ (r : Int) < 1 := by omega
    have t1 : (32 : Int) < (r : Int) := by omega
    clear HE ha hc
    go_enter Try.func22, Try.ntmps22
    go_wp2
    go_ret
    exact ⟨rfl, Fresh.refl _⟩
  obtain rfl := ha (by omega)
  clear ha
  have t0 : ¬ (r : Int) < 1 := by omega
  have t1 : ¬ (32 : Int) < (r : Int) := by omega
  have r0 : (0 : Int) < (r : Int) := by omega
  have d0 : w.cell? ⟨b, o, none⟩ = some (.slice (A 0) (L 0) (C 0)) := (hc 0 (by omega)).1
  obtain ⟨l0, hl0⟩ : ∃ l, l = L 0 := ⟨_, rfl⟩
  obtain ⟨c0, hc0⟩ : ∃ l, l = C 0 := ⟨_, rfl⟩
  rw [← hl0, ← hc0] at d0
  have Hl0 := Lib.hid hl0
  have Hc := Lib.hid hc
  have Hd := Lib.hid d0
  clear hl0 hc0 hc d0
  go_enter Try.func22, Try.ntmps22
  go_wp2
  go_loopw [3] (fun i W => ∃ k : Nat, k ≤ r ∧ i = .int .i64 (k : Int) ∧ Fresh w W ∧ Hid (∀ j, j < k → L j = l0 ∧ 1 ≤ l0 ∧ l0 ≤ 32)) (fun i _ => r - (intOf i).toNat)
  case atStart => exact ⟨0, Nat.zero_le _, rfl, Fresh.refl _, Lib.hid fun j hj => absurd hj (Nat.not_lt_zero _)⟩
  case round =>
    obtain ⟨k, hk, rfl, hfr, hi⟩ := hrel
    have HF := Lib.hid hfr
    clear hfr
    by_cases hkr : k < r
    · have hz : (k : Int) < (r : Int) := by omega
      have hz0 : (0 : Int) ≤ (k : Int) := by omega
      have d0 := below_cell HF.out.below Hd.out
      have g0 := below_cell HF.out.below (Hc.out k hkr).1
      obtain ⟨l, hl⟩ : ∃ l, l = L k := ⟨_, rfl⟩
      rw [← hl] at g0
      have Hl := Lib.hid hl
      clear hl
      by_cases hlow : l < 1
      · have q1 : decide ((l : Int) < 1) = true := by simp; omega
        have q1' : (l : Int) < 1 := by omega
        have : e = false := by
          cases e with
          | false => rfl
          | true => exact absurd ((HE.out.1 rfl).2.2.2.2 k hkr) (by have := (HE.out.1 rfl).2.2.1; rw [← Hl.out]; omega)
        subst this
        clear hlow
        go_wp2_with fail
        go_quiet (fail)
        go_wp2
        go_ret
        exact ⟨rfl, HF.out.drewN _⟩
      by_cases hhigh : 32 < l
      · have q1 : decide ((l : Int) < 1) = false := by simp; omega
        have q2 : decide ((32 : Int) < (l : Int)) = true := by simp; omega
        have q1' : ¬ (l : Int) < 1 := by omega
        have q2' : (32 : Int) < (l : Int) := by omega
        have : e = false := by
          cases e with
          | false => rfl
          | true => exact absurd ((HE.out.1 rfl).2.2.2.2 k hkr) (by have := (HE.out.1 rfl).2.2.2.1; rw [← Hl.out]; omega)
        subst this
        clear hlow hhigh
        go_wp2_with fail
        go_quiet (fail)
        go_wp2
        go_ret
        exact ⟨rfl, HF.out.drewN _⟩
      have q1 : decide ((l : Int) < 1) = false := by simp; omega
      have q2 : decide ((32 : Int) < (l : Int)) = false := by simp; omega
      have q1' : ¬ (l : Int) < 1 := by omega
      have q2' : ¬ (32 : Int) < (l : Int) := by omega
      by_cases hll : l = l0
      · have q : ((l : Int) == (l0 : Int)) = true := by subst hll; exact beq_self_eq_true _
        have Hb : Hid (1 ≤ l ∧ l ≤ 32) := Lib.hid (by omega)
        have Hll := Lib.hid hll
        clear hll hlow hhigh
        go_wp2_with fail
        go_quiet (fail)
        go_wp2
        go_roundw
        case rel => exact ⟨k + 1, by omega, by go_num, HF.out.drewN _, Lib.hid fun j hj => by
          by_cases hjk : j = k
          · exact ⟨by rw [hjk, ← Hl.out, Hll.out], by rw [← Hll.out]; exact Hb.out.1, by rw [← Hll.out]; exact Hb.out.2⟩
          · exact hi.out j (by omega)⟩
        case measure => simp [intOf]; omega
      · have q : ((l : Int) == (l0 : Int)) = false := by rw [beq_eq_false_iff_ne]; omega
        have : e = false := by
          cases e with
          | false => rfl
          | true => exact absurd ((HE.out.1 rfl).2.2.2.2 k hkr) (by rw [← Hl.out, ← Hl0.out]; exact hll)
        subst this
        clear hll hlow hhigh
        go_wp2_with fail
        go_quiet (fail)
        go_wp2
        go_ret
        exact ⟨rfl, HF.out.drewN _⟩
    · have hkk : k = r := by omega
      have h00 := hi.out 0 (by omega)
      have : e = true := HE.out.2 ⟨by omega, by omega, by rw [← Hl0.out]; omega, by rw [← Hl0.out]; omega, fun j hj => by rw [← Hl0.out]; exact (hi.out j (by omega)).1⟩
      subst this
      have hz : ¬ (k : Int) < (r : Int) := by omega
      clear h00
      go_wp2
      go_ret
      exact ⟨rfl, HF.out⟩
end Go.Proofs.Ytlpmehnffdaobaa
