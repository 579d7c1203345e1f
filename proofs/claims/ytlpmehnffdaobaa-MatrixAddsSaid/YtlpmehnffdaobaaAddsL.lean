/- MatrixAdds: for every input the call returns true, and each argument reads behind it as before. Conditions: none. (Printed by matlaw.py, after the guide's own skeleton.) -/
import Derived.Test.YtlpmehnffdaobaaRows
import Derived.Test.YtlpmehnffdaobaaAddsN
import Derived.Test.YtlpmehnffdaobaaOpenM
import Derived.WalkKit
import Derived.ProofKit
import Derived.OpenShut
import Derived.ShutString
import Derived.ChangeOld
import Derived.Below
import Derived.Carry
namespace Go.Proofs.Ytlpmehnffdaobaa.matrixAdds
open Go.ChangeShapes Go.WideShapes Go.ChangeAt Go.RowKit
set_option linter.unusedVariables false
theorem own : ownKnob Try.prog.godebug = none := by kernel_rfl
theorem laidOut : laidOutB Try.prog = true := by kernel_rfl
theorem walk (a0 : Option Addr) (l0 c0 : Nat) (L0 : Nat → Nat) (M0 : Nat → Nat → Nat) (a1 : Option Addr) (l1 c1 : Nat) (L1 : Nat → Nat) (M1 : Nat → Nat → Nat) (a2 : Option Addr) (l2 c2 : Nat) (L2 : Nat → Nat) (M2 : Nat → Nat → Nat) (w : World) (w0 : Grid w a0 l0 L0 M0) (w1 : Grid w a1 l1 L1 M1) (w2 : Grid w a2 l2 L2 M2) :
    Calls Try.prog 9 #[.slice a0 l0 c0, .slice a1 l1 c1, .slice a2 l2 c2] w fun e w' => e = .returned (.bool true) ∧ Below w.heap.size w w' := adds_law a0 a1 a2 l0 l1 l2 c0 c1 c2 L0 L1 L2 M0 M1 M2 w w0 w1 w2
set_option maxRecDepth 100000 in
theorem lifted (os : Os) (started : os.Started) (H : Type) (enc : TypeId × Value → H) :
    ReturnsInHanded {} Try.checked os 9 .any (Rows.matrixAddsSpec.pre6 enc Try.prog Try.f9 Rows.matrixAddsRow.domain false) (Rows.matrixAddsSpec.post enc Try.prog Try.f9 false true false false) := by
  refine returnsInHanded_of_change (C := Try.checked) own started (by kernel_rfl) Try.func9
    (ChangeSpec.witness6 (enc := enc) (C := Try.checked) false ⟨#[], #[.slice none 0 0, .slice none 0 0, .slice none 0 0], []⟩ 8 (by kernel_rfl) (by kernel_rfl) (by kernel_rfl) (by kernel_rfl)) ?_
  intro W base args ds gs before hval0 hW hcnd _
  have hval : ∀ (j : Nat) t v, Try.f9.params[j]? = some t → args[j]? = some v → Value.okWide Try.prog W .any base t v := hval0
  have hW' := hW
  obtain ⟨p, q, hA0, hV, rfl, hfz, hnd⟩ := hW
  have hA : DataW.TrodAll enc Try.prog W 0 (fun _ => true) true Try.f9.params.toList args.toList ds p := hA0
  rw [Try.params9] at hA hval
  obtain ⟨v0, vs0, d0, ds0, p0, q0, hargs, rfl, rfl, h0, r0⟩ := trodAll_cons hA
  obtain ⟨v1, vs1, d1, ds1, p1, q1, rfl, rfl, rfl, h1, r1⟩ := trodAll_cons r0
  obtain ⟨v2, vs2, d2, ds2, p2, q2, rfl, rfl, rfl, h2, r2⟩ := trodAll_cons r1
  obtain ⟨rfl, rfl, rfl⟩ := trodAll_nil r2
  obtain rfl : args = #[v0, v1, v2] := by cases args; simp_all
  obtain ⟨rfl, rfl⟩ := trodVars_none hV
  obtain ⟨a0, l0, c0, rfl⟩ := okWide_slice Try.underlying22 (hval 0 22 v0 rfl rfl)
  have k0 := h0
  have lt0 : ∀ x ∈ p0, x.block < W.heap.size := by obtain ⟨m, hm⟩ := k0; exact DataW.trod_lt m _ _ _ hm
  obtain ⟨L0, M0, w0⟩ : ∃ L M, Grid W a0 l0 L M := by
    obtain ⟨fuel, hf⟩ := h0
    exact open_grid Try.underlying22 Try.underlying38 Try.underlying5 (by kernel_rfl) (by kernel_rfl) hf
  obtain ⟨a1, l1, c1, rfl⟩ := okWide_slice Try.underlying22 (hval 1 22 v1 rfl rfl)
  have k1 := h1
  have lt1 : ∀ x ∈ p1, x.block < W.heap.size := by obtain ⟨m, hm⟩ := k1; exact DataW.trod_lt m _ _ _ hm
  obtain ⟨L1, M1, w1⟩ : ∃ L M, Grid W a1 l1 L M := by
    obtain ⟨fuel, hf⟩ := h1
    exact open_grid Try.underlying22 Try.underlying38 Try.underlying5 (by kernel_rfl) (by kernel_rfl) hf
  obtain ⟨a2, l2, c2, rfl⟩ := okWide_slice Try.underlying22 (hval 2 22 v2 rfl rfl)
  have k2 := h2
  have lt2 : ∀ x ∈ p2, x.block < W.heap.size := by obtain ⟨m, hm⟩ := k2; exact DataW.trod_lt m _ _ _ hm
  obtain ⟨L2, M2, w2⟩ : ∃ L M, Grid W a2 l2 L M := by
    obtain ⟨fuel, hf⟩ := h2
    exact open_grid Try.underlying22 Try.underlying38 Try.underlying5 (by kernel_rfl) (by kernel_rfl) hf
  clear hA0 hval0
  refine (walk a0 l0 c0 L0 M0 a1 l1 c1 L1 M1 a2 l2 c2 L2 M2 W w0 w1 w2).mono fun e W' ⟨he, bel⟩ => ?_
  subst he
  exact ⟨_, rfl, _, _, _, [], _, [], hW', trodAll_mk1 (shut_bool Try.underlying4 _), (trodAll_cons_mk (Below.trod laidOut (by kernel_rfl) (of_decide_eq_true (by kernel_rfl)) k0 bel lt0) (trodAll_cons_mk (Below.trod laidOut (by kernel_rfl) (of_decide_eq_true (by kernel_rfl)) k1 bel lt1) (trodAll_cons_mk (Below.trod laidOut (by kernel_rfl) (of_decide_eq_true (by kernel_rfl)) k2 bel lt2) trodAll_mk0))), rfl, bel.frame _, fun h => by cases h⟩
theorem over : Rows.matrixAddsRow.holds Try.pinned (OpenSpec.ofChange Rows.matrixAddsSpec) :=
  OpenClaim.holds_of_wide 9 Try.f9 rfl rfl rfl rfl rfl rfl rfl ⟨rfl, rfl, rfl, rfl, rfl⟩ rfl rfl rfl rfl rfl (by kernel_rfl) Try.func9 (by kernel_rfl)
    (of_decide_eq_true (by kernel_rfl)) (by unfold Func.isWrapper; first | (rw [if_pos (by decide +kernel)]; kernel_rfl) | (rw [if_neg (by decide +kernel)]; exact ⟨rfl, rfl⟩))
    (fun os started H enc _ => lifted os started H enc)
/-- THE STATEMENT -/
theorem proved : Rows.MatrixAddsSaid := over
#print axioms proved
end Go.Proofs.Ytlpmehnffdaobaa.matrixAdds
