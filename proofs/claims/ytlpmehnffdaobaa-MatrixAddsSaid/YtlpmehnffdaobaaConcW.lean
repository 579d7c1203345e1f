/- slices.Grow from nil, slices.Concat of two rows, joined: walked. -/
import Derived.Test.YtlpmehnffdaobaaRPwW
import Derived.Lib.AppendZeros
namespace Go.Proofs.Ytlpmehnffdaobaa
open Go.RowKit Go.Deep
set_option linter.unusedVariables false
theorem zero_cells_size (n : Nat) : (Builtin.zeroCells (Value.int .u8 0).cells n).size = n := by
  simp [Builtin.zeroCells, Value.cells]
set_option maxRecDepth 100000 in
set_option maxHeartbeats 2000000 in
theorem grow_nil (n : Nat) (h1 : 1 ≤ n) (h2 : n ≤ 64) (f : Nat → Nat) (w : World) :
    Calls Try.prog 43 #[.slice none 0 0, .int .i64 (n : Int)] w fun e w' => ∃ v, e = .returned v ∧ RowOwn w w' v 0 f := by
  obtain ⟨j0, hj, hy0, hy1, hy2⟩ := infoB
  have t0 : (0 : Int) < (n : Int) := by omega
  have t1 : ¬ (n : Int) < 0 := by omega
  have t2 : (n : Int) ≤ 64 := by omega
  have hap := fun ty => Lib.run_append_nil_zeros (P := Try.prog) w 38 3 ty 5 j0 (.int .u8 0) .i64 .i64 Try.underlying38 Try.underlying3 hj hy0 n (by omega) (by omega) (by omega) (by rw [hy2]; omega)
  have hcap : n ≤ grownCap w n 0 5 := grownCap_ge w _ _ _
  have hmax : grownCap w n 0 5 ≤ maxLen := grownCap_le_maxLen w n 0 5 (by unfold maxLen; omega)
  have hsz : (Builtin.zeroCells (Value.int .u8 0).cells n ++ Builtin.zeroCells (Value.int .u8 0).cells (grownCap w n 0 5 - n)).size = grownCap w n 0 5 * 1 := by
    rw [Array.size_append, zero_cells_size, zero_cells_size]; omega
  generalize Builtin.zeroCells (Value.int .u8 0).cells n ++ Builtin.zeroCells (Value.int .u8 0).cells (grownCap w n 0 5 - n) = cur at *
  generalize grownCap w n 0 5 = G at *
  have HM := Lib.hid hmax
  have HZ := Lib.hid hsz
  have HA := Lib.hid hap
  unfold maxLen at hmax
  clear hsz hap
  have g0 : (0 : Int) ≤ (G : Int) := by omega
  go_enter Try.func43, Try.ntmps43
  go_wp2_with (first
    | (at_builtin; refine Lib.wpList_append_run _ rfl (.tmp 20) (.tmp 21) 38 3 rfl _ _ rfl rfl _ _ (HA.out _) ?_)
    | go_in)
  go_ret
  refine ⟨_, rfl, ?_, ?_⟩
  · exact ((Below.refl _ _).alloc (Nat.le_refl _) _).drew
  · exact World.ownsRow_made (e := 5) (size := 1) w cur G (Nat.le_refl _) HM.out HZ.out
/-- rows put one behind the other -/
def glue (n : Nat) (f g : Nat → Nat) (j : Nat) : Nat := if j < n then f j else g (j - n)
/-- a whole row is appended -/
theorem RowOwn.push2 {w W W1 W2 : World} {v v' : Value} {c m : Nat} {f g : Nat → Nat} (h : RowOwn w W v c f) (h1 : Below W.heap.size W W1)
    (ho : W2.ownsRow w.heap.size 5 1 v' (c + m) (((List.range c).map fun j => .int .u8 (f j : Int)) ++ ((List.range m).map fun j => .int .u8 (g j : Int)))) (hx : ∀ j, j < m → g j = f (c + j)) (hg : W1.grownBy W2 v.ownBlock) : RowOwn w W2 v' (c + m) f := by
  refine ⟨below_grown h.below h1 hg fun k e => (h.own.lt k e).1, ?_⟩
  have e : ((List.range (c + m)).map fun j => Value.int .u8 (f j : Int)) = ((List.range c).map fun j => .int .u8 (f j : Int)) ++ ((List.range m).map fun j => .int .u8 (g j : Int)) := by
    rw [List.range_add, List.map_append, List.map_map]
    congr 1
    refine List.map_congr_left fun j hj => ?_
    simp only [Function.comp]
    rw [hx j (List.mem_range.1 hj)]
  rw [e]
  exact ho
theorem row_slots {W : World} {B O n : Nat} {f : Nat → Nat} (h : ∀ j, j < n → W.cell? ⟨B, O + j, none⟩ = some (.int .u8 (f j : Int)) ∧ f j < 256) :
    ∀ j u, ((List.range n).map fun j => Value.int .u8 (f j : Int))[j]? = some u → W.cell? ((⟨B, O, none⟩ : Addr).add j) = some u := by
  intro j u hj
  have hadd : (⟨B, O, none⟩ : Addr).add j = ⟨B, O + j, none⟩ := by unfold Addr.add; split <;> simp_all
  rw [hadd]
  rw [List.getElem?_map] at hj
  by_cases hjn : j < n
  · rw [List.getElem?_range hjn] at hj
    simp at hj
    rw [← hj]
    exact (h j hjn).1
  · rw [List.getElem?_eq_none (by simpa using hjn)] at hj
    simp at hj
theorem row_ones (n : Nat) (f : Nat → Nat) : ∀ u ∈ ((List.range n).map fun j => Value.int .u8 (f j : Int)), u.oneCell' = true := by
  intro u hu
  obtain ⟨j, _, rfl⟩ := List.mem_map.1 hu
  rfl
end Go.Proofs.Ytlpmehnffdaobaa
