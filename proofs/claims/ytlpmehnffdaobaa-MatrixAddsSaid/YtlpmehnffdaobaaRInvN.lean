/- The document's Inverse refuses what isn't square. -/
import Derived.Test.YtlpmehnffdaobaaRInvW
namespace Go.Proofs.Ytlpmehnffdaobaa
open Go.RowKit Go.Deep
set_option linter.unusedVariables false
set_option maxRecDepth 100000 in
set_option maxHeartbeats 4000000 in
theorem rinverse_a (a : Option Addr) (r ca : Nat) (L : Nat → Nat) (M : Nat → Nat → Nat) (w : World) (hg : Grid w a r L M) (h : ¬ May r L) : Calls Try.prog 13 #[.slice a r ca] w fun e w' => e = .returned (.tuple #[.slice none 0 0, .int .i64 1]) ∧ Fresh w w' := by
  have HG := Lib.hid hg
  have HN := Lib.hid h
  clear hg h
  go_enter Try.func13, Try.ntmps13
  go_wp2_with fail
  refine (rmay_any a r ca _ _ w HG.out false ⟨fun k => absurd k (by decide), fun k => absurd k HN.out⟩).mono ?_
  rintro e w' ⟨rfl, hf⟩
  have HF := Lib.hid hf
  clear hf
  go_wp2
  go_ret2
  exact ⟨rfl, HF.out⟩
set_option maxRecDepth 100000 in
set_option maxHeartbeats 4000000 in
theorem rinverse_b (a : Option Addr) (r ca : Nat) (L : Nat → Nat) (M : Nat → Nat → Nat) (w : World) (hg : Grid w a r L M) (h : May r L) (hne : L 0 ≠ r) : Calls Try.prog 13 #[.slice a r ca] w fun e w' => e = .returned (.tuple #[.slice none 0 0, .int .i64 1]) ∧ Fresh w w' := by
  have HG := Lib.hid hg
  have HN := Lib.hid h
  have h1 : 1 ≤ r := h.1
  have h2 : 1 ≤ L 0 := h.2.2.1
  obtain ⟨hr, b, o, A, C, B, O, ha, hc⟩ := hg
  have ha' := ha h1
  subst ha'
  have d0 := (hc 0 h1).1
  rw [Nat.add_zero] at d0
  have D0 := Lib.hid d0
  have r0 : 0 < r := h1
  have r1 : (0 : Int) < (r : Int) := by omega
  have q : ((L 0 : Int) != (r : Int)) = true := by simp; omega
  clear hr ha hc h hne d0
  go_enter Try.func13, Try.ntmps13
  go_wp2_with fail
  refine (rmay_y _ r ca _ _ w HG.out HN.out).mono ?_
  rintro e w' ⟨rfl, hf⟩
  have HF := Lib.hid hf
  have d1 := below_cell hf.below D0.out
  clear hf
  go_wp2
  go_ret2
  exact ⟨rfl, HF.out⟩
/-- refused -/
theorem rinverse_no (a : Option Addr) (r ca : Nat) (L : Nat → Nat) (M : Nat → Nat → Nat) (w : World) (hg : Grid w a r L M) (h : ¬ (May r L ∧ L 0 = r)) : Calls Try.prog 13 #[.slice a r ca] w fun e w' => e = .returned (.tuple #[.slice none 0 0, .int .i64 1]) ∧ Fresh w w' := by
  by_cases h1 : May r L
  · exact rinverse_b a r ca L M w hg h1 (fun e => h ⟨h1, e⟩)
  · exact rinverse_a a r ca L M w hg h1
end Go.Proofs.Ytlpmehnffdaobaa
