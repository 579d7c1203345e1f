/- The closures that 'made' is handed; Identity, Powers. -/
import Derived.Test.YtlpmehnffdaobaaMadeW
namespace Go.Proofs.Ytlpmehnffdaobaa
open Go.RowKit
/-- what 'made' hands back, read -/
theorem Outer.grid {w W : World} {R Cn : Nat} {Z : Nat → Nat → Nat} (h : Outer w W R (fun _ => Cn) R Z) (hR : R ≤ 32) (hC : Cn ≤ 32) (hz : ∀ r, r < R → ∀ c, c < Cn → Z r c < 256) :
    Grid W (some ⟨w.heap.size, 0, none⟩) R (fun _ => Cn) Z := by
  refine ⟨by unfold maxLen; omega, w.heap.size, 0, fun i => some ⟨w.heap.size + 1 + i, 0, none⟩, fun _ => Cn, fun i => w.heap.size + 1 + i, fun _ => 0, fun _ => rfl, fun i hi => ⟨?_, (by show Cn ≤ maxLen; unfold maxLen; omega), fun _ => rfl, fun j hj => ⟨?_, hz i hi j hj⟩⟩⟩
  · have := h.top.cell hi
    rw [Nat.zero_add, this, show Ytlpmehnffdaobaa.top w.heap.size (fun _ => Cn) R i = .slice (some ⟨w.heap.size + 1 + i, 0, none⟩) Cn Cn from if_pos hi]
  · have := (h.done i hi).cell hj
    simpa using this
theorem one_yes (r c : Nat) (h : r = c) (w : World) : Calls Try.prog 34 #[.int .i64 (r : Int), .int .i64 (c : Int)] w fun e w' => e = .returned (.int .u8 1) ∧ w' = w := by
  subst h
  have q : ((r : Int) == (r : Int)) = true := beq_self_eq_true _
  go_enter Try.func34, Try.ntmps34
  go_wp2
  go_ret
  exact ⟨rfl, rfl⟩
theorem one_no (r c : Nat) (h : ¬ r = c) (w : World) : Calls Try.prog 34 #[.int .i64 (r : Int), .int .i64 (c : Int)] w fun e w' => e = .returned (.int .u8 0) ∧ w' = w := by
  have q : ((r : Int) == (c : Int)) = false := by rw [beq_eq_false_iff_ne]; omega
  clear h
  go_enter Try.func34, Try.ntmps34
  go_wp2
  go_ret
  exact ⟨rfl, rfl⟩
/-- the identity -/
def idm (r c : Nat) : Nat := if r = c then 1 else 0
theorem one_any (r c : Nat) (w : World) : Calls Try.prog 34 #[.int .i64 (r : Int), .int .i64 (c : Int)] w fun e w' => e = .returned (.int .u8 (idm r c : Int)) ∧ ∃ k, w' = w.drewN k := by
  by_cases h : r = c
  · refine (one_yes r c h w).mono ?_
    rintro e w' ⟨rfl, rfl⟩
    exact ⟨by simp [idm, h], 0, rfl⟩
  · refine (one_no r c h w).mono ?_
    rintro e w' ⟨rfl, rfl⟩
    exact ⟨by simp [idm, h], 0, rfl⟩
theorem pows_any (r c : Nat) (hr : r < 256) (hc : c < 256) (w : World) : Calls Try.prog 35 #[.int .i64 (r : Int), .int .i64 (c : Int)] w fun e w' => e = .returned (.int .u8 (GF.npow r c : Int)) ∧ ∃ k, w' = w.drewN k := by
  have hw1 : IntKind.u8.wrap (r : Int) = (r : Int) := by rw [IntKind.wrap_u8]; omega
  have hw2 : IntKind.u64.wrap (c : Int) = (c : Int) := by rw [IntKind.wrap_u64]; omega
  go_enter Try.func35, Try.ntmps35
  go_wp2_with fail
  refine (pow_nat r c hr (by unfold U64; omega) w).mono ?_
  rintro e w' ⟨rfl, rfl⟩
  go_wp2
  go_ret
  exact ⟨rfl, 0, rfl⟩
theorem fits_any (n : Int) (e : Bool) (he : e = true ↔ 1 ≤ n ∧ n ≤ 32) (w : World) : Calls Try.prog 32 #[.int .i64 n] w fun v w' => v = .returned (.bool e) ∧ w = w' := by
  by_cases h1 : 1 ≤ n
  · by_cases h2 : n ≤ 32
    · have : e = true := he.2 ⟨h1, h2⟩
      subst this
      clear he
      go_enter Try.func32, Try.ntmps32
      go_wp2
      go_ret
      exact ⟨rfl, rfl⟩
    · have : e = false := by cases e with | false => rfl | true => exact absurd (he.1 rfl).2 h2
      subst this
      clear he
      go_enter Try.func32, Try.ntmps32
      go_wp2
      go_ret
      exact ⟨rfl, rfl⟩
  · have : e = false := by cases e with | false => rfl | true => exact absurd (he.1 rfl).1 h1
    subst this
    clear he
    go_enter Try.func32, Try.ntmps32
    go_wp2
    go_ret
    exact ⟨rfl, rfl⟩
theorem idm_lt (r c : Nat) : idm r c < 256 := by unfold idm; split <;> omega
set_option maxHeartbeats 800000 in
theorem identity_no (n : Int) (h : ¬ (1 ≤ n ∧ n ≤ 32)) (w : World) : Calls Try.prog 15 #[.int .i64 n] w fun v w' => v = .returned (.tuple #[.slice none 0 0, .int .i64 1]) ∧ Fresh w w' := by
  go_enter Try.func15, Try.ntmps15
  go_wp2_with fail
  refine (fits_any n false ⟨(fun k => absurd k (by decide)), (fun k => absurd k h)⟩ w).mono ?_
  rintro e w' ⟨rfl, rfl⟩
  go_wp2
  go_ret2
  exact ⟨rfl, Fresh.refl _⟩
set_option maxHeartbeats 800000 in
theorem identity_yes (n : Nat) (h : 1 ≤ n ∧ n ≤ 32) (w : World) : Calls Try.prog 15 #[.int .i64 (n : Int)] w fun v w' => v = .returned (.tuple #[.slice (some ⟨w.heap.size, 0, none⟩) n n, .int .i64 0]) ∧ Outer w w' n (fun _ => n) n idm := by
  go_enter Try.func15, Try.ntmps15
  go_wp2_with fail
  refine (fits_any n true ⟨fun _ => by omega, fun _ => rfl⟩ w).mono ?_
  rintro e w' ⟨rfl, rfl⟩
  go_wp2_with fail
  refine (made_34 n n h.2 h.2 idm w (Lib.hid fun W _ r c _ _ => one_any r c W)).mono ?_
  rintro e w' ⟨rfl, hO⟩
  have HO := Lib.hid hO
  clear hO
  go_wp2
  go_ret2
  exact ⟨rfl, HO.out⟩
end Go.Proofs.Ytlpmehnffdaobaa
