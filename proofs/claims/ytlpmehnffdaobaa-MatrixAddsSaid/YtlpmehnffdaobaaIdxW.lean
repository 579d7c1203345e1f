/- slices.IndexFunc at Inverse's closure: walked. -/
import Derived.Test.YtlpmehnffdaobaaConc2W
namespace Go.Proofs.Ytlpmehnffdaobaa
open Go.RowKit Go.Deep
set_option linter.unusedVariables false
set_option maxRecDepth 100000 in
set_option maxHeartbeats 2000000 in
theorem pred_any (B m c p col x : Nat) (w : World) (hcol : col < m) (hm : m ≤ 64) (hp : w.cell? ⟨p, 0, none⟩ = some (.int .i64 (col : Int))) (hx : w.cell? ⟨B, col, none⟩ = some (.int .u8 (x : Int))) (e : Bool) (he : (e = true) ↔ x ≠ 0) :
    Calls Try.prog 26 #[.slice (some ⟨B, 0, none⟩) m c, .pointer (some ⟨p, 0, none⟩)] w fun v w' => v = .returned (.bool e) ∧ w = w' := by
  have c0 : (0 : Int) ≤ (col : Int) := by omega
  have c1 : (col : Int) < (m : Int) := by omega
  have c2 : (col : Int) ≤ 64 := by omega
  have HE := Lib.hid he
  clear he
  by_cases h : x = 0
  · have : e = false := by cases e with | false => rfl | true => exact absurd h (HE.out.1 rfl)
    subst this
    have q : ((x : Int) == 0) = true := by rw [h]; rfl
    clear h
    go_enter Try.func26, Try.ntmps26
    go_wp2
    go_ret
    exact ⟨congrArg (fun b => Ending.returned (.bool b)) (show (!((x : Int) == 0)) = _ by rw [q]; rfl), rfl⟩
  · have : e = true := HE.out.2 h
    subst this
    have q : ((x : Int) == 0) = false := by rw [beq_eq_false_iff_ne]; omega
    clear h
    go_enter Try.func26, Try.ntmps26
    go_wp2
    go_ret
    exact ⟨congrArg (fun b => Ending.returned (.bool b)) (show (!((x : Int) == 0)) = _ by rw [q]; rfl), rfl⟩
/-- the answer of IndexFunc -/
def Idx (f : Nat → Nat) (len : Nat) (r : Int) : Prop := (∃ i : Nat, i < len ∧ r = (i : Int) ∧ f i ≠ 0 ∧ ∀ j, j < i → f j = 0) ∨ (r = -1 ∧ ∀ j, j < len → f j = 0)
set_option maxRecDepth 100000 in
set_option maxHeartbeats 4000000 in
theorem index_any (X o len cap m p col : Nat) (B C : Nat → Nat) (f : Nat → Nat) (w : World) (hl : len ≤ 64) (hcol : col < m) (hm : m ≤ 64) (hp : w.cell? ⟨p, 0, none⟩ = some (.int .i64 (col : Int)))
    (hc : ∀ i, i < len → w.cell? ⟨X, o + i, none⟩ = some (.slice (some ⟨B i, 0, none⟩) m (C i)) ∧ w.cell? ⟨B i, col, none⟩ = some (.int .u8 (f i : Int))) :
    Calls Try.prog 25 #[.slice (some ⟨X, o, none⟩) len cap, .func (.func 26) #[] #[.pointer (some ⟨p, 0, none⟩)]] w fun v w' => ∃ r : Int, v = .returned (.int .i64 r) ∧ Idx f len r ∧ w = w' := by
  have HC := Lib.hid hc
  have l0 : (len : Int) ≤ 64 := by omega
  clear hc
  go_enter Try.func25, Try.ntmps25
  go_wp2
  go_loop [8] (fun s8 => ∃ k : Nat, k ≤ len ∧ s8 = .int .i64 (k : Int) ∧ Hid (∀ j, j < k → f j = 0)) (fun s8 => len - (intOf s8).toNat)
  case atStart => exact ⟨0, Nat.zero_le _, rfl, Lib.hid fun j hj => absurd hj (Nat.not_lt_zero _)⟩
  case round =>
    obtain ⟨k, hk, rfl, hz⟩ := hrel
    by_cases hkn : k < len
    · have k0 : (0 : Int) ≤ (k : Int) := by omega
      have k1 : (k : Int) < (len : Int) := by omega
      have k2 : (k : Int) ≤ 64 := by omega
      have d := (HC.out k hkn).1
      by_cases hf : f k = 0
      · have HF := Lib.hid hf
        clear hf
        go_wp2_with fail
        refine (pred_any (B k) m (C k) p col (f k) w hcol hm hp (HC.out k hkn).2 false ⟨(fun h => absurd h (by decide)), (fun h => absurd HF.out h)⟩).mono ?_
        rintro v w' ⟨rfl, rfl⟩
        go_wp2
        go_round
        case rel => exact ⟨k + 1, by omega, by go_num, Lib.hid fun j hj => by
          by_cases hjk : j = k
          · rw [hjk]; exact HF.out
          · exact hz.out j (by omega)⟩
        case measure => simp [intOf]; omega
      · have HF := Lib.hid hf
        clear hf
        go_wp2_with fail
        refine (pred_any (B k) m (C k) p col (f k) w hcol hm hp (HC.out k hkn).2 true ⟨fun _ => HF.out, fun _ => rfl⟩).mono ?_
        rintro v w' ⟨rfl, rfl⟩
        go_wp2
        go_ret
        exact ⟨_, rfl, .inl ⟨k, hkn, rfl, HF.out, hz.out⟩, rfl⟩
    · have hkk : k = len := by omega
      subst hkk
      go_wp2
      go_ret
      exact ⟨_, rfl, .inr ⟨rfl, hz.out⟩, rfl⟩
end Go.Proofs.Ytlpmehnffdaobaa
