/- Matrices in memory: what is read of a slice of slices of bytes. -/
import Derived.Test.YtlpmehnffdaobaaRefX
import Derived.Deep.OwnRows
import Derived.Deep.LoopGhost
namespace Go.Proofs.Ytlpmehnffdaobaa
open Go.RowKit
/-- the slice at 'a' of r rows, row i of 'L i' bytes 'M i j' -/
def Grid (W : World) (a : Option Addr) (r : Nat) (L : Nat → Nat) (M : Nat → Nat → Nat) : Prop :=
  r ≤ maxLen ∧ ∃ (b o : Nat) (A : Nat → Option Addr) (C B O : Nat → Nat), (0 < r → a = some ⟨b, o, none⟩) ∧
    ∀ i, i < r → W.cell? ⟨b, o + i, none⟩ = some (.slice (A i) (L i) (C i)) ∧ L i ≤ maxLen ∧ (0 < L i → A i = some ⟨B i, O i, none⟩) ∧
      ∀ j, j < L i → W.cell? ⟨B i, O i + j, none⟩ = some (.int .u8 (M i j : Int)) ∧ M i j < 256
theorem below_cell {w W : World} (h : Below w.heap.size w W) {a : Addr} {v : Value} (hc : w.cell? a = some v) : W.cell? a = some v :=
  (h.cell (World.block_lt_of_cell? _ _ hc)).trans hc
theorem Grid.step {w W : World} {a : Option Addr} {r : Nat} {L : Nat → Nat} {M : Nat → Nat → Nat} (h : Grid w a r L M) (hb : Below w.heap.size w W) : Grid W a r L M := by
  obtain ⟨hr, b, o, A, C, B, O, ha, hc⟩ := h
  exact ⟨hr, b, o, A, C, B, O, ha, fun i hi => ⟨below_cell hb (hc i hi).1, (hc i hi).2.1, (hc i hi).2.2.1, fun j hj => ⟨below_cell hb ((hc i hi).2.2.2 j hj).1, ((hc i hi).2.2.2 j hj).2⟩⟩⟩
theorem Grid.congr {w : World} {a : Option Addr} {r : Nat} {L K : Nat → Nat} {M N : Nat → Nat → Nat} (h : Grid w a r L M) (hL : ∀ i, i < r → L i = K i) (hM : ∀ i, i < r → ∀ j, j < L i → M i j = N i j) : Grid w a r K N := by
  obtain ⟨hr, b, o, A, C, B, O, ha, hc⟩ := h
  refine ⟨hr, b, o, A, C, B, O, ha, fun i hi => ?_⟩
  rw [← hL i hi]
  exact ⟨(hc i hi).1, (hc i hi).2.1, (hc i hi).2.2.1, fun j hj => by rw [← hM i hi j hj]; exact (hc i hi).2.2.2 j hj⟩
/-- may a matrix be? -/
def May (r : Nat) (L : Nat → Nat) : Prop := 1 ≤ r ∧ r ≤ 32 ∧ 1 ≤ L 0 ∧ L 0 ≤ 32 ∧ ∀ i, i < r → L i = L 0
end Go.Proofs.Ytlpmehnffdaobaa
