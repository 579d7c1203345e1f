/- 'Fresh w w'': the world has at most new blocks, none of them frozen; of what was there nothing has turned. -/
import Derived.Below
import Derived.Laws.Tables
namespace Go
open Go.RowKit
structure Fresh (w w' : World) : Prop where
  below : Below w.heap.size w w'
  froz : ∀ a, w'.frozen? a = w.frozen? a

theorem Fresh.refl (w : World) : Fresh w w := ⟨Below.refl _ _, fun _ => rfl⟩
theorem Fresh.trans {a b c : World} (h : Fresh a b) (k : Fresh b c) : Fresh a c :=
  ⟨h.below.trans (k.below.mono h.below.size), fun x => (k.froz x).trans (h.froz x)⟩
theorem Fresh.drew {a b : World} (h : Fresh a b) : Fresh a b.drew := ⟨h.below.drew, h.froz⟩
theorem Fresh.alloc {a b : World} (h : Fresh a b) (c : Array Value) (t : TypeId) : Fresh a (b.alloc (.cells c t)) := by
  refine ⟨h.below.alloc h.below.size _, fun x => ?_⟩
  exact (Grown.alloc (Grown.refl b) c t).2.1 x |>.trans (h.froz x)
theorem Fresh.grown {a b : World} (h : Fresh a b) : Grown a b := ⟨h.below.frame _, h.froz, h.below.size⟩
theorem Fresh.setCell {a b : World} (h : Fresh a b) {p : Addr} (hp : a.heap.size ≤ p.block) (v : Value) : Fresh a (b.setCell p v) := by
  refine ⟨h.below.setCell hp v, fun x => ?_⟩
  have : (b.setCell p v).frozen? x = b.frozen? x := by simp
  exact this.trans (h.froz x)
theorem Below.setRow {B : Nat} {a w : World} (h : Below B a w) {g : Nat} (hg : B ≤ g) (cs : Array Value) : Below B a (w.setRow g cs) :=
  h.trans ⟨rfl, rfl, rfl, by simp [World.setRow], fun k hk => setRow_other _ _ _ _ (by omega)⟩
theorem frozen_setRow (w : World) (g : Nat) (cs : Array Value) (x : Addr) : (w.setRow g cs).frozen? x = w.frozen? x := by
  by_cases h : x.block = g
  · unfold World.frozen?
    subst h
    cases hb : w.heap[x.block]? with
    | none => simp [World.setRow, Array.getElem?_modify, hb]
    | some o => cases o <;> simp [World.setRow, Array.getElem?_modify, hb]
  · simp [World.frozen?, setRow_other w g x.block cs h]
theorem Fresh.setRow {a b : World} (h : Fresh a b) {g : Nat} (hg : a.heap.size ≤ g) (cs : Array Value) : Fresh a (b.setRow g cs) :=
  ⟨Below.setRow h.below hg cs, fun x => (frozen_setRow b g cs x).trans (h.froz x)⟩
end Go
