/- A [][]byte, a []byte and a []int that came in, as the walks read them. -/
import Derived.Test.YtlpmehnffdaobaaMem
import Derived.Deep.Matrix
import Derived.ProofKit
import Derived.OpenShut
namespace Go.Proofs.Ytlpmehnffdaobaa
open Go.ChangeShapes Go.WideShapes Go.ChangeAt Go.RowKit Go.Deep
set_option linter.unusedVariables false
theorem u8_wf {n : Int} (h : (Lit.int .u8 n).wf = true) : 0 ≤ n ∧ n < 256 := by
  have := bounds_u8 h
  omega
theorem spot_none {w : World} {a : Addr} {v : Value} (h : w.cell? a = some v) : a = ⟨a.block, a.off, none⟩ := by
  have hs := World.cell?_spot h
  cases a with
  | mk b o s => simp at hs; subst hs; rfl
theorem add_plain (b o j : Nat) : (⟨b, o, none⟩ : Addr).add j = ⟨b, o + j, none⟩ := by unfold Addr.add; split <;> simp_all
theorem cell_spot {w : World} {a : Addr} {v : Value} (h : w.cell? (a.add 0) = some v) : a = ⟨a.block, a.off, none⟩ := by
  have e : a.add 0 = a := by unfold Addr.add; rw [if_pos rfl]
  rw [e] at h
  exact spot_none h
theorem open_grid {H : Type} {enc : TypeId × Value → H} {W : World} {fuel : Nat} {a : Option Addr} {len cap : Nat} {x : DataW H × List MemPlace}
    (u22 : Try.prog.underlying 22 = some (.slice 38)) (u38 : Try.prog.underlying 38 = some (.slice 5)) (u5 : Try.prog.underlying 5 = some (.int .u8)) (c38 : Try.prog.cellsOf 38 = 1) (c5 : Try.prog.cellsOf 5 = 1)
    (h : DataW.trod enc Try.prog W 0 (fun _ => true) true fuel 22 (Value.slice a len cap).cells.toList = some x) : ∃ L M, Grid W a len L M := by
  rcases open_int_rows u22 u38 u5 c38 c5 h with ⟨hcs, _⟩ | ⟨b, l, c, A, L, C, Z, hcs, _, hl, hm, _, hr⟩
  · simp [Value.cells] at hcs
    obtain ⟨rfl, rfl, rfl⟩ := hcs
    exact ⟨fun _ => 0, fun _ _ => 0, Nat.zero_le _, 0, 0, fun _ => none, fun _ => 0, fun _ => 0, fun _ => 0, fun h => absurd h (Nat.lt_irrefl 0), fun i hi => absurd hi (Nat.not_lt_zero i)⟩
  · simp [Value.cells] at hcs
    obtain ⟨rfl, rfl, rfl⟩ := hcs
    refine ⟨L, fun i j => ((Z i).getD j 0).toNat, by omega, b.block, b.off, A, C, fun i => ((A i).getD ⟨0, 0, none⟩).block, fun i => ((A i).getD ⟨0, 0, none⟩).off, fun h0 => ?_, fun i hi => ?_⟩
    · exact congrArg some (cell_spot (hr 0 (by omega)).1)
    · obtain ⟨h1, h2, h3, h4, h5, h6, h7⟩ := hr i (by omega)
      have hb := cell_spot (hr 0 (by omega)).1
      rw [hb, add_plain] at h1
      have key : ∀ j, j < L i → A i = some ⟨((A i).getD ⟨0, 0, none⟩).block, ((A i).getD ⟨0, 0, none⟩).off, none⟩ ∧ W.cell? ⟨((A i).getD ⟨0, 0, none⟩).block, ((A i).getD ⟨0, 0, none⟩).off + j, none⟩ = some (.int .u8 ((Z i).getD j 0)) ∧ 0 ≤ (Z i).getD j 0 ∧ (Z i).getD j 0 < 256 := by
        intro j hj
        cases hA : A i with
        | none => have := h6 hA; omega
        | some a' =>
          have hc := (h7 a' hA).2 j (by omega)
          have ha := cell_spot ((h7 a' hA).2 0 (by omega))
          refine ⟨by simp only [Option.getD_some]; exact congrArg some ha, ?_, ?_⟩
          · simp only [Option.getD_some]
            rw [ha, add_plain] at hc
            exact hc
          · have hj' : j < (Z i).length := by omega
            have hm : (Z i).getD j 0 ∈ Z i := by
              rw [List.getD_eq_getElem?_getD, List.getElem?_eq_getElem hj']
              exact List.getElem_mem hj'
            exact u8_wf (h5 _ hm)
      refine ⟨h1, by omega, fun h0 => (key 0 h0).1, fun j hj => ?_⟩
      obtain ⟨_, k1, k2, k3⟩ := key j hj
      exact ⟨k1.trans (congrArg (fun z => some (Value.int .u8 z)) (show (Z i).getD j 0 = (((Z i).getD j 0).toNat : Int) by omega)), by show ((Z i).getD j 0).toNat < 256; omega⟩
end Go.Proofs.Ytlpmehnffdaobaa
