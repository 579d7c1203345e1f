/- matrix.Inverse refuses what isn't square. -/
import Derived.Test.YtlpmehnffdaobaaInvW
namespace Go.Proofs.Ytlpmehnffdaobaa
open Go.RowKit Go.Deep
set_option linter.unusedVariables false
set_option maxRecDepth 100000 in
set_option maxHeartbeats 4000000 in
theorem inverse_a (a : Option Addr) (r ca : Nat) (L : Nat → Nat) (M : Nat → Nat → Nat) (w : World) (hg : Grid w a r L M) (h : ¬ May r L) : Calls Try.prog 12 #[.slice a r ca] w fun e w' => e = .returned (.tuple #[.slice none 0 0, .int .i64 1]) ∧ w = w' := by
  have HG := Lib.hid hg
  have HN := Lib.hid h
  clear hg h
  go_enter Try.func12, Try.ntmps12
  go_wp2
  refine wp_scope_label 0 (fun _ _ => False) (fun _ _ => 0) rfl (fun K a W h => h.elim) ?_
  intro HP
  clear HP
  go_wp2_with fail
  refine (may_any a r ca _ _ w HG.out false ⟨fun k => absurd k (by decide), fun k => absurd k HN.out⟩).mono ?_
  rintro e w' ⟨rfl, rfl⟩
  go_wp2
  simp only [Exit.jump]
  go_ret2
  exact ⟨rfl, rfl⟩
set_option maxRecDepth 100000 in
set_option maxHeartbeats 4000000 in
theorem inverse_b (a : Option Addr) (r ca : Nat) (L : Nat → Nat) (M : Nat → Nat → Nat) (w : World) (hg : Grid w a r L M) (h : May r L) (hne : L 0 ≠ r) : Calls Try.prog 12 #[.slice a r ca] w fun e w' => e = .returned (.tuple #[.slice none 0 0, .int .i64 1]) ∧ w = w' := by
  have HG := Lib.hid hg
  have HN := Lib.hid h
  have h1 : 1 ≤ r := h.1
  have h2 : 1 ≤ L 0 := h.2.2.1
  obtain ⟨hr, b, o, A, C, B, O, ha, hc⟩ := hg
  have ha' := ha h1
  subst ha'
  have d0 := (hc 0 h1).1
  rw [Nat.add_zero] at d0
  have r0 : 0 < r := h1
  have r1 : (0 : Int) < (r : Int) := by omega
  have q : ((r : Int) != (L 0 : Int)) = true := by simp; omega
  clear hr ha hc h hne
  go_enter Try.func12, Try.ntmps12
  go_wp2
  refine wp_scope_label 0 (fun _ _ => False) (fun _ _ => 0) rfl (fun K a W h => h.elim) ?_
  intro HP
  clear HP
  go_wp2_with fail
  refine (may_any _ r ca _ _ w HG.out true ⟨fun k => HN.out, fun _ => rfl⟩).mono ?_
  rintro e w' ⟨rfl, rfl⟩
  go_wp2
  simp only [Exit.jump]
  go_ret2
  exact ⟨rfl, rfl⟩
/-- refused -/
theorem inverse_no (a : Option Addr) (r ca : Nat) (L : Nat → Nat) (M : Nat → Nat → Nat) (w : World) (hg : Grid w a r L M) (h : ¬ (May r L ∧ L 0 = r)) : Calls Try.prog 12 #[.slice a r ca] w fun e w' => e = .returned (.tuple #[.slice none 0 0, .int .i64 1]) ∧ w = w' := by
  by_cases h1 : May r L
  · exact inverse_b a r ca L M w hg h1 (fun e => h ⟨h1, e⟩)
  · exact inverse_a a r ca L M w hg h1
end Go.Proofs.Ytlpmehnffdaobaa
