/- A []byte and a []int that came in. -/
import Derived.Test.YtlpmehnffdaobaaOpenM
import Derived.ChangeSlices
namespace Go.Proofs.Ytlpmehnffdaobaa
open Go.ChangeShapes Go.WideShapes Go.ChangeAt Go.RowKit Go.Deep
set_option linter.unusedVariables false
/-- the slice at 'a' of n bytes f -/
def RowAt (W : World) (a : Option Addr) (n : Nat) (f : Nat → Nat) : Prop :=
  n ≤ maxLen ∧ ∃ b o : Nat, (0 < n → a = some ⟨b, o, none⟩) ∧ ∀ j, j < n → W.cell? ⟨b, o + j, none⟩ = some (.int .u8 (f j : Int)) ∧ f j < 256
/-- the slice at 'a' of n integers f -/
def IntsAt (W : World) (a : Option Addr) (n : Nat) (f : Nat → Int) : Prop :=
  n ≤ maxLen ∧ ∃ b o : Nat, (0 < n → a = some ⟨b, o, none⟩) ∧ ∀ j, j < n → W.cell? ⟨b, o + j, none⟩ = some (.int .i64 (f j)) ∧ (Lit.int .i64 (f j)).wf = true
theorem RowAt.step {w W : World} {a : Option Addr} {n : Nat} {f : Nat → Nat} (h : RowAt w a n f) (hb : Below w.heap.size w W) : RowAt W a n f := by
  obtain ⟨h1, b, o, h2, h3⟩ := h
  exact ⟨h1, b, o, h2, fun j hj => ⟨below_cell hb (h3 j hj).1, (h3 j hj).2⟩⟩
theorem IntsAt.step {w W : World} {a : Option Addr} {n : Nat} {f : Nat → Int} (h : IntsAt w a n f) (hb : Below w.heap.size w W) : IntsAt W a n f := by
  obtain ⟨h1, b, o, h2, h3⟩ := h
  exact ⟨h1, b, o, h2, fun j hj => ⟨below_cell hb (h3 j hj).1, (h3 j hj).2⟩⟩
theorem open_row {H : Type} {enc : TypeId × Value → H} {W : World} {fuel : Nat} {a : Option Addr} {len cap : Nat} {x : DataW H × List MemPlace}
    (u38 : Try.prog.underlying 38 = some (.slice 5)) (u5 : Try.prog.underlying 5 = some (.int .u8)) (c5 : Try.prog.cellsOf 5 = 1)
    (h : DataW.trod enc Try.prog W 0 (fun _ => true) true fuel 38 (Value.slice a len cap).cells.toList = some x) : ∃ f, RowAt W a len f := by
  rcases open_ints u38 u5 c5 h with ⟨hcs, _⟩ | ⟨b, l, c, zs, hcs, _, hl, hm, hz, _, hcell, hw⟩
  · simp [Value.cells] at hcs
    obtain ⟨rfl, rfl, rfl⟩ := hcs
    exact ⟨fun _ => 0, Nat.zero_le _, 0, 0, fun h => absurd h (Nat.lt_irrefl 0), fun i hi => absurd hi (Nat.not_lt_zero i)⟩
  · simp [Value.cells] at hcs
    obtain ⟨rfl, rfl, rfl⟩ := hcs
    have hzl : zs.length = cap := by simpa using hz
    refine ⟨fun j => (zs.getD j 0).toNat, by omega, b.block, b.off, fun h0 => congrArg some (cell_spot (hcell 0 (by omega))), fun j hj => ?_⟩
    have hb := cell_spot (hcell 0 (by omega))
    have hc := hcell j (by omega)
    rw [hb, add_plain] at hc
    have hj' : j < zs.length := by omega
    have hm : zs.getD j 0 ∈ zs := by
      rw [List.getD_eq_getElem?_getD, List.getElem?_eq_getElem hj']
      exact List.getElem_mem hj'
    have k := u8_wf (hw _ hm)
    exact ⟨hc.trans (congrArg (fun z => some (Value.int .u8 z)) (show zs.getD j 0 = ((zs.getD j 0).toNat : Int) by omega)), by show (zs.getD j 0).toNat < 256; omega⟩
theorem open_intsAt {H : Type} {enc : TypeId × Value → H} {W : World} {fuel : Nat} {t : TypeId} {a : Option Addr} {len cap : Nat} {x : DataW H × List MemPlace}
    (u : Try.prog.underlying t = some (.slice 3)) (u3 : Try.prog.underlying 3 = some (.int .i64)) (c3 : Try.prog.cellsOf 3 = 1)
    (h : DataW.trod enc Try.prog W 0 (fun _ => true) true fuel t (Value.slice a len cap).cells.toList = some x) : ∃ f, IntsAt W a len f := by
  rcases open_ints u u3 c3 h with ⟨hcs, _⟩ | ⟨b, l, c, zs, hcs, _, hl, hm, hz, _, hcell, hw⟩
  · simp [Value.cells] at hcs
    obtain ⟨rfl, rfl, rfl⟩ := hcs
    exact ⟨fun _ => 0, Nat.zero_le _, 0, 0, fun h => absurd h (Nat.lt_irrefl 0), fun i hi => absurd hi (Nat.not_lt_zero i)⟩
  · simp [Value.cells] at hcs
    obtain ⟨rfl, rfl, rfl⟩ := hcs
    have hzl : zs.length = cap := by simpa using hz
    refine ⟨fun j => zs.getD j 0, by omega, b.block, b.off, fun h0 => congrArg some (cell_spot (hcell 0 (by omega))), fun j hj => ?_⟩
    have hb := cell_spot (hcell 0 (by omega))
    have hc := hcell j (by omega)
    rw [hb, add_plain] at hc
    have hj' : j < zs.length := by omega
    have hm : zs.getD j 0 ∈ zs := by
      rw [List.getD_eq_getElem?_getD, List.getElem?_eq_getElem hj']
      exact List.getElem_mem hj'
    exact ⟨hc, hw _ hm⟩
end Go.Proofs.Ytlpmehnffdaobaa
