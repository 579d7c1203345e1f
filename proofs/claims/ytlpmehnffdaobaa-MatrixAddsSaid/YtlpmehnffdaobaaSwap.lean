/- Two rows of a matrix of the call's own are exchanged. -/
import Derived.Test.YtlpmehnffdaobaaClearW
namespace Go.Proofs.Ytlpmehnffdaobaa
open Go.RowKit Go.Deep
set_option linter.unusedVariables false
/-- a and b exchanged -/
def swp (a b i : Nat) : Nat := if i = a then b else if i = b then a else i
theorem swp_lt {a b n i : Nat} (ha : a < n) (hb : b < n) (hi : i < n) : swp a b i < n := by
  unfold swp
  split
  · exact hb
  · split
    · exact ha
    · exact hi
theorem swp_swp (a b i : Nat) : swp a b (swp a b i) = i := by
  unfold swp
  by_cases h1 : i = a
  · subst h1
    by_cases h2 : b = i
    · subst h2; simp
    · simp [h2]
  · by_cases h2 : i = b
    · subst h2; simp [h1]
    · simp [h1, h2]
theorem swp_inj {a b i j : Nat} (h : swp a b i = swp a b j) : i = j := by rw [← swp_swp a b i, h, swp_swp]
theorem Own.swap {w W : World} {n m g cap : Nat} {G C : Nat → Nat} {M : Nat → Nat → Nat} (h : Own w W (.slice (some ⟨g, 0, none⟩) n cap) n m G C M) (a b : Nat) (ha : a < n) (hb : b < n) :
    Own w ((W.setCell ⟨g, a, none⟩ (.slice (some ⟨G b, 0, none⟩) m (C b))).setCell ⟨g, b, none⟩ (.slice (some ⟨G a, 0, none⟩) m (C a))) (.slice (some ⟨g, 0, none⟩) n cap) n m (fun i => G (swp a b i)) (fun i => C (swp a b i)) (fun i => M (swp a b i)) := by
  obtain ⟨g', cap', he, hg, h1, h2, h3⟩ := h.at (by omega)
  obtain ⟨rfl, rfl⟩ : g = g' ∧ cap = cap' := by simpa using he
  refine ⟨(h.below.setCell (p := ⟨g, a, none⟩) hg _).setCell (p := ⟨g, b, none⟩) hg _, ⟨by simp, .inr ?_⟩, fun i hi => ?_, fun i j hi hj e => ?_⟩
  · rcases h.top.2 with ⟨hv, _⟩ | ⟨g2, cap2, cur, hv, hbb, hgg, k1, k2, k3, k4⟩
    · simp at hv
    · obtain ⟨rfl, rfl⟩ : g = g2 ∧ cap = cap2 := by simpa using hv
      refine ⟨g, cap, (cur.setIfInBounds a (.slice (some ⟨G b, 0, none⟩) m (C b))).setIfInBounds b (.slice (some ⟨G a, 0, none⟩) m (C a)), rfl, hbb, ?_, k1, k2, by simpa using k3, ?_⟩
      · simp [World.setCell, Array.getElem?_modify, hgg]
      · apply List.ext_getElem?
        intro i
        have hk := congrArg (fun l : List Value => l[i]?) k4
        simp only [List.getElem?_take, Nat.mul_one, List.getElem?_map] at hk ⊢
        by_cases hi : i < n
        · rw [if_pos hi] at hk ⊢
          rw [List.getElem?_range hi] at hk ⊢
          simp only [Array.toList_setIfInBounds, List.getElem?_set, Array.length_toList, List.length_set, Option.map_some] at hk ⊢
          have hsz : cur.size = cap := by simpa using k3
          unfold swp
          by_cases e1 : i = b
          · subst e1
            rw [if_pos rfl, if_pos (by omega)]
            by_cases e2 : i = a
            · rw [if_pos e2, e2]
            · rw [if_neg e2, if_pos rfl]
          · rw [if_neg (fun k => e1 k.symm)]
            by_cases e2 : i = a
            · subst e2
              rw [if_pos rfl, if_pos (by omega), if_pos rfl]
            · rw [if_neg (fun k => e2 k.symm), if_neg e2, if_neg e1]
              exact hk
        · rw [if_neg hi]
          rw [List.getElem?_eq_none (by simpa using hi)]
          rfl
  · obtain ⟨r1, r2, r3, r4⟩ := h.row (swp a b i) (swp_lt ha hb hi)
    have hne : G (swp a b i) ≠ g := (h3 _ (swp_lt ha hb hi)).2.2
    exact ⟨r1, r2, r3, (r4.other (a := ⟨g, a, none⟩) hne _).other (a := ⟨g, b, none⟩) hne _⟩
  · exact swp_inj (h.inj _ _ (swp_lt ha hb hi) (swp_lt ha hb hj) e)
end Go.Proofs.Ytlpmehnffdaobaa
