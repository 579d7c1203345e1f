/- What 'made' lays in memory: a row of rows, then a block a row (the relations of the worked proof DeepLife, turned to bytes). -/
import Derived.Test.YtlpmehnffdaobaaRMayW
import Derived.Deep.OwnRows
import Derived.Deep.LoopGhost
import Derived.Deep.RegionWith
import Derived.CellFam
import Derived.Deep.Light
namespace Go.Proofs.Ytlpmehnffdaobaa
open Go.RowKit
theorem info5 : (Try.prog.info? 5).map (fun i => (i.zero, i.size, i.bytes)) = some (some (.int .u8 0), 1, 1) := by kernel_rfl
theorem info38 : (Try.prog.info? 38).map (fun i => (i.zero, i.size, i.bytes)) = some (some (.slice none 0 0), 1, 24) := by kernel_rfl
/-- the row of rows, r of them made -/
def top (N : Nat) (L : Nat → Nat) (r : Nat) : Nat → Value := fun j => if j < r then .slice (some ⟨N + 1 + j, 0, none⟩) (L j) (L j) else .slice none 0 0

/-- r rows are made -/
structure Outer (w wr : World) (G : Nat) (L : Nat → Nat) (r : Nat) (Z : Nat → Nat → Nat) : Prop where
  fresh : Fresh w wr
  size : wr.heap.size = w.heap.size + 1 + r
  top : wr.rowIs w.heap.size 38 G (top w.heap.size L r)
  done : ∀ j, j < r → wr.rowIs (w.heap.size + 1 + j) 5 (L j) (fun c => .int .u8 (Z j c : Int))

/-- .. and c cells of the next one -/
structure Inner (w wi : World) (G : Nat) (L : Nat → Nat) (r c : Nat) (Z : Nat → Nat → Nat) : Prop where
  fresh : Fresh w wi
  size : wi.heap.size = w.heap.size + 1 + r + 1
  top : wi.rowIs w.heap.size 38 G (top w.heap.size L (r + 1))
  done : ∀ j, j < r → wi.rowIs (w.heap.size + 1 + j) 5 (L j) (fun c => .int .u8 (Z j c : Int))
  cur : wi.rowIs (w.heap.size + 1 + r) 5 (L r) (fun i => if i < c then .int .u8 (Z r i : Int) else .int .u8 0)

theorem outer_start (w : World) (G : Nat) (L : Nat → Nat) (Z : Nat → Nat → Nat) : Outer w (w.alloc (.cells (madeCells #[.slice none 0 0] G) 38)) G L 0 Z :=
  ⟨(Fresh.refl _).alloc _ _, by simp, (World.rowIs_made w _ G 38).congr (fun j _ => by simp [top]), fun j hj => absurd hj (Nat.not_lt_zero _)⟩

/-- 'next[r] = make([]bool, len(g[r]))'. -/
theorem inner_start {w wr : World} {G : Nat} {L : Nat → Nat} {r : Nat} {Z : Nat → Nat → Nat} (h : Outer w wr G L r Z) :
    Inner w ((wr.alloc (.cells (madeCells #[.int .u8 0] (L r)) 5)).setCell ⟨w.heap.size, r, none⟩ (.slice (some ⟨w.heap.size + 1 + r, 0, none⟩) (L r) (L r))) G L r 0 Z := by
  have hnew := World.rowIs_made wr (.int .u8 0) (L r) 5
  rw [h.size] at hnew
  refine ⟨(h.fresh.alloc _ _).setCell (Nat.le_refl _) _, by simp [h.size], ((h.top.alloc _).set r _).congr (fun j _ => ?_), fun j hj => ((h.done j hj).alloc _).setOther (by show w.heap.size + 1 + j ≠ w.heap.size; omega) _,
    (hnew.setOther (by show w.heap.size + 1 + r ≠ w.heap.size; omega) _).congr (fun i _ => by simp)⟩
  simp only [top]
  by_cases e : j = r
  · subst e; simp
  · rw [if_neg e]
    by_cases hlt : j < r
    · rw [if_pos hlt, if_pos (by omega)]
    · rw [if_neg hlt, if_neg (by omega)]

/-- 'next[r][c] = ..'. -/
theorem inner_step {w wi : World} {G : Nat} {L : Nat → Nat} {r c : Nat} {Z : Nat → Nat → Nat} (h : Inner w wi G L r c Z) :
    Inner w (wi.setCell ⟨w.heap.size + 1 + r, c, none⟩ (.int .u8 (Z r c : Int))).drew G L r (c + 1) Z := by
  refine ⟨(h.fresh.setCell (p := ⟨w.heap.size + 1 + r, c, none⟩) (by show w.heap.size ≤ w.heap.size + 1 + r; omega) _).drew, by simp [h.size], (h.top.setOther (by show w.heap.size ≠ w.heap.size + 1 + r; omega) _).drew,
    fun j hj => ((h.done j hj).setOther (by show w.heap.size + 1 + j ≠ w.heap.size + 1 + r; omega) _).drew, ((h.cur.set c _).congr (fun i _ => ?_)).drew⟩
  by_cases e : i = c
  · subst e; simp
  · rw [if_neg e]
    by_cases hlt : i < c
    · rw [if_pos hlt, if_pos (by omega)]
    · rw [if_neg hlt, if_neg (by omega)]

theorem inner_step' {w wi : World} {G : Nat} {L : Nat → Nat} {r c : Nat} {Z : Nat → Nat → Nat} (h : Inner w wi G L r c Z) {v : Int} (hv : v = (Z r c : Int)) :
    Inner w (wi.setCell ⟨w.heap.size + 1 + r, c, none⟩ (.int .u8 v)).drew G L r (c + 1) Z := by rw [hv]; exact inner_step h

/-- The row is full: one row more is made. -/
theorem inner_done {w wi : World} {G : Nat} {L : Nat → Nat} {r : Nat} {Z : Nat → Nat → Nat} (h : Inner w wi G L r (L r) Z) : Outer w wi G L (r + 1) Z :=
  ⟨h.fresh, by rw [h.size]; omega, h.top, fun j hj => by
    by_cases e : j = r
    · subst e
      exact h.cur.congr (fun i hi => by rw [if_pos hi])
    · exact h.done j (by omega)⟩

theorem inner_drewN {w wi : World} {G : Nat} {L : Nat → Nat} {r c : Nat} {Z : Nat → Nat → Nat} (h : Inner w wi G L r c Z) (n : Nat) : Inner w (wi.drewN n) G L r c Z := by
  induction n with
  | zero => exact h
  | succ n ih => exact ⟨ih.fresh.drew, ih.size, ih.top.drew, fun j hj => (ih.done j hj).drew, ih.cur.drew⟩
/-- a cell is stored, wherever the draws fell -/
theorem inner_put {w wi : World} {G : Nat} {L : Nat → Nat} {r c : Nat} {Z : Nat → Nat → Nat} (h : Inner w wi G L r c Z) :
    Inner w (wi.setCell ⟨w.heap.size + 1 + r, c, none⟩ (.int .u8 (Z r c : Int))) G L r (c + 1) Z := by
  refine ⟨h.fresh.setCell (p := ⟨w.heap.size + 1 + r, c, none⟩) (by show w.heap.size ≤ w.heap.size + 1 + r; omega) _, by simp [h.size], h.top.setOther (by show w.heap.size ≠ w.heap.size + 1 + r; omega) _,
    fun j hj => (h.done j hj).setOther (by show w.heap.size + 1 + j ≠ w.heap.size + 1 + r; omega) _, (h.cur.set c _).congr (fun i _ => ?_)⟩
  by_cases e : i = c
  · subst e; simp
  · rw [if_neg e]
    by_cases hlt : i < c
    · rw [if_pos hlt, if_pos (by omega)]
    · rw [if_neg hlt, if_neg (by omega)]
end Go.Proofs.Ytlpmehnffdaobaa
