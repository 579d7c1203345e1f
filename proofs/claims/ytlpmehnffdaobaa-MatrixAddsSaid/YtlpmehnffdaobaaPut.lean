/- Stores into a matrix of the call's own. -/
import Derived.Test.YtlpmehnffdaobaaIdxW
namespace Go.Proofs.Ytlpmehnffdaobaa
open Go.RowKit Go.Deep
set_option linter.unusedVariables false
/-- a byte is stored -/
theorem Own.put {w W : World} {v : Value} {n m : Nat} {G C : Nat → Nat} {M : Nat → Nat → Nat} (h : Own w W v n m G C M) (r c b : Nat) (hr : r < n) (hb : b < 256) :
    Own w (W.setCell ⟨G r, c, none⟩ (.int .u8 (b : Int))) v n m G C (fun i j => if i = r ∧ j = c then b else M i j) := by
  have hG := (h.row r hr).1
  have hne := own_ne h.top (h.row r hr).2.2.2
  refine ⟨h.below.setCell (p := ⟨G r, c, none⟩) hG _, ⟨h.top.1, ?_⟩, fun i hi => ?_, h.inj⟩
  · rcases h.top.2 with hn | ⟨g, cap, cur, hv, hbb, hgg, rest⟩
    · exact .inl hn
    · refine .inr ⟨g, cap, cur, hv, hbb, ?_, rest⟩
      have : g ≠ G r := by
        intro e
        apply hne
        rw [hv]
        simp [Value.ownBlock, e]
      exact (blk_setCell_other W ⟨G r, c, none⟩ (.int .u8 (b : Int)) g this).trans hgg
  · obtain ⟨r1, r2, r3, r4⟩ := h.row i hi
    refine ⟨r1, r2, r3, ?_⟩
    by_cases e : i = r
    · subst e
      exact (r4.set c b hb).congr fun j hj => by
        by_cases ej : j = c
        · rw [if_pos ej, if_pos ⟨rfl, ej⟩]
        · rw [if_neg ej, if_neg (fun k => ej k.2)]
    · have hgi : G i ≠ G r := fun k => e (h.inj i r hi hr k)
      exact (r4.other (a := ⟨G r, c, none⟩) hgi _).congr fun j hj => by rw [if_neg (fun k => e k.1)]
end Go.Proofs.Ytlpmehnffdaobaa
