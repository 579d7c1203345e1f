/- A matrix of the call's own: the row of rows by 'ownsRow', each row a block of bytes. -/
import Derived.Test.YtlpmehnffdaobaaMem
import Derived.WalkKit
namespace Go.Proofs.Ytlpmehnffdaobaa
open Go.RowKit Go.Deep
set_option linter.unusedVariables false
/-- block g is a row of bytes: m of them read 'f j', and may be written -/
def RowB (W : World) (g m : Nat) (f : Nat → Nat) : Prop :=
  ∃ cs lo hi, W.heap[g]? = some (.cells cs 5 (lo, hi)) ∧ (∀ j, j < m → cs[j]? = some (.int .u8 (f j : Int)) ∧ f j < 256) ∧ (∀ j, j < m → W.frozen? ⟨g, j, none⟩ = false)
theorem RowB.cell {W : World} {g m : Nat} {f : Nat → Nat} (h : RowB W g m f) {j : Nat} (hj : j < m) : W.cell? ⟨g, j, none⟩ = some (.int .u8 (f j : Int)) := by
  obtain ⟨cs, lo, hi, hb, hc, hf⟩ := h
  simp [World.cell?, hb, (hc j hj).1]
theorem RowB.lt {W : World} {g m : Nat} {f : Nat → Nat} (h : RowB W g m f) {j : Nat} (hj : j < m) : f j < 256 := by
  obtain ⟨cs, lo, hi, hb, hc, hf⟩ := h
  exact (hc j hj).2
theorem RowB.frozen {W : World} {g m : Nat} {f : Nat → Nat} (h : RowB W g m f) {j : Nat} (hj : j < m) : W.frozen? ⟨g, j, none⟩ = false := by
  obtain ⟨cs, lo, hi, hb, hc, hf⟩ := h
  exact hf j hj
theorem RowB.size {W : World} {g m : Nat} {f : Nat → Nat} (h : RowB W g m f) : g < W.heap.size := by
  obtain ⟨cs, lo, hi, hb, hc, hf⟩ := h
  exact (Array.getElem?_eq_some_iff.1 hb).1
theorem RowB.of_block {W W' : World} {g m : Nat} {f : Nat → Nat} (h : RowB W g m f) (e : W'.heap[g]? = W.heap[g]?) : RowB W' g m f := by
  obtain ⟨cs, lo, hi, hb, hc, hf⟩ := h
  exact ⟨cs, lo, hi, e.trans hb, hc, fun j hj => (World.frozen?_of_block (w := W) (a := ⟨g, j, none⟩) e).trans (hf j hj)⟩
theorem RowB.congr {W : World} {g m : Nat} {f k : Nat → Nat} (h : RowB W g m f) (e : ∀ j, j < m → f j = k j) : RowB W g m k := by
  obtain ⟨cs, lo, hi, hb, hc, hf⟩ := h
  exact ⟨cs, lo, hi, hb, fun j hj => by rw [← e j hj]; exact hc j hj, hf⟩
theorem RowB.below {w W W' : World} {g m : Nat} {f : Nat → Nat} (h : RowB W g m f) (hb : Below W.heap.size W W') : RowB W' g m f := h.of_block (hb.block g h.size)
theorem RowB.drewN {W : World} {g m : Nat} {f : Nat → Nat} (h : RowB W g m f) (n : Nat) : RowB (W.drewN n) g m f := h
theorem RowB.other {W : World} {g m : Nat} {f : Nat → Nat} (h : RowB W g m f) {a : Addr} (ha : g ≠ a.block) (v : Value) : RowB (W.setCell a v) g m f := h.of_block (blk_setCell_other _ _ _ _ ha)
theorem RowB.set {W : World} {g m : Nat} {f : Nat → Nat} (h : RowB W g m f) (i b : Nat) (hb : b < 256) : RowB (W.setCell ⟨g, i, none⟩ (.int .u8 (b : Int))) g m (fun j => if j = i then b else f j) := by
  obtain ⟨cs, lo, hi, hbk, hc, hf⟩ := h
  refine ⟨cs.setIfInBounds i (.int .u8 (b : Int)), lo, hi, by simp [World.setCell, Array.getElem?_modify, hbk], fun j hj => ?_, fun j hj => by simpa using hf j hj⟩
  rw [Array.getElem?_setIfInBounds]
  by_cases e : i = j
  · subst e
    have := (Array.getElem?_eq_some_iff.1 (hc i hj).1).1
    rw [if_pos rfl, if_pos this]
    exact ⟨by simp, by simpa using hb⟩
  · rw [if_neg e]
    have e' : ¬ j = i := fun k => e k.symm
    simp only [if_neg e']
    exact hc j hj
/-- a matrix of the call's own -/
structure Own (w W : World) (v : Value) (n m : Nat) (G C : Nat → Nat) (M : Nat → Nat → Nat) : Prop where
  below : Below w.heap.size w W
  top : W.ownsRow w.heap.size 38 1 v n ((List.range n).map fun i => .slice (some ⟨G i, 0, none⟩) m (C i))
  row : ∀ i, i < n → w.heap.size ≤ G i ∧ m ≤ C i ∧ C i ≤ maxLen ∧ RowB W (G i) m (M i)
  inj : ∀ i j, i < n → j < n → G i = G j → i = j
theorem Own.start {w W : World} (h : Below w.heap.size w W) (m : Nat) (G C : Nat → Nat) (M : Nat → Nat → Nat) : Own w W (.slice none 0 0) 0 m G C M :=
  ⟨h, World.ownsRow_nil _ _ _ _, fun i hi => absurd hi (Nat.not_lt_zero _), fun i j hi => absurd hi (Nat.not_lt_zero _)⟩
/-- the row of rows is no row -/
theorem own_ne {W : World} {base n : Nat} {v : Value} {l : List Value} (h : W.ownsRow base 38 1 v n l) {g m : Nat} {f : Nat → Nat} (hr : RowB W g m f) : v.ownBlock ≠ some g := by
  intro e
  rcases h.2 with ⟨rfl, _⟩ | ⟨k, cap, cur, rfl, _, hg, _⟩
  · simp [Value.ownBlock] at e
  · simp [Value.ownBlock] at e
    subst e
    obtain ⟨cs, lo, hi, hb, _⟩ := hr
    rw [hg] at hb
    injection hb with hb
    injection hb with _ h2
    exact absurd h2 (by decide)
/-- the world goes on, and leaves what was there -/
theorem Own.step {w W W' : World} {v : Value} {n m : Nat} {G C : Nat → Nat} {M : Nat → Nat → Nat} (h : Own w W v n m G C M) (hb : Below W.heap.size W W') : Own w W' v n m G C M := by
  refine ⟨h.below.trans (hb.mono h.below.size), ?_, fun i hi => ⟨(h.row i hi).1, (h.row i hi).2.1, (h.row i hi).2.2.1, (h.row i hi).2.2.2.of_block (hb.block _ (h.row i hi).2.2.2.size)⟩, h.inj⟩
  refine ⟨h.top.1, ?_⟩
  rcases h.top.2 with hn | ⟨g, cap, cur, hv, hbb, hgg, rest⟩
  · exact .inl hn
  · exact .inr ⟨g, cap, cur, hv, hbb, (hb.block g (Array.getElem?_eq_some_iff.1 hgg).1).trans hgg, rest⟩
/-- a row is appended -/
theorem Own.push {w W W1 W2 : World} {v v' : Value} {n m : Nat} {G C : Nat → Nat} {M : Nat → Nat → Nat} (h : Own w W v n m G C M) (h1 : Below W.heap.size W W1) (g c : Nat) (hg : w.heap.size ≤ g) (hgn : ∀ i, i < n → G i ≠ g) (hc : m ≤ c ∧ c ≤ maxLen)
    (hr : RowB W1 g m (M n)) (ht : W2.ownsRow w.heap.size 38 1 v' (n + 1) (((List.range n).map fun i => .slice (some ⟨G i, 0, none⟩) m (C i)) ++ [.slice (some ⟨g, 0, none⟩) m c])) (hgr : W1.grownBy W2 v.ownBlock) :
    Own w W2 v' (n + 1) m (fun i => if i = n then g else G i) (fun i => if i = n then c else C i) M := by
  have hk := h.step h1
  have hne := own_ne hk.top hr
  refine ⟨?_, ?_, fun i hi => ?_, fun i j hi hj e => ?_⟩
  · refine hk.below.trans ⟨hgr.os, hgr.tape, hgr.output, hgr.size, fun k hkk => hgr.block k (Nat.lt_of_lt_of_le hkk hk.below.size) fun e => ?_⟩
    have := (hk.top.lt k e.symm).1
    omega
  · have e : ((List.range (n + 1)).map fun i => Value.slice (some ⟨(fun i => if i = n then g else G i) i, 0, none⟩) m ((fun i => if i = n then c else C i) i)) =
        ((List.range n).map fun i => .slice (some ⟨G i, 0, none⟩) m (C i)) ++ [.slice (some ⟨g, 0, none⟩) m c] := by
      rw [List.range_succ, List.map_append]
      congr 1
      · refine List.map_congr_left fun i hi => ?_
        have := List.mem_range.1 hi
        simp only [if_neg (show i ≠ n by omega)]
      · simp
    rw [e]
    exact ht
  · by_cases e : i = n
    · subst e
      simp only [if_true]
      exact ⟨hg, hc.1, hc.2, hr.of_block (hgr.block _ hr.size fun e => hne e.symm)⟩
    · simp only [if_neg e]
      have hi' : i < n := by omega
      obtain ⟨r1, r2, r3, r4⟩ := hk.row i hi'
      exact ⟨r1, r2, r3, r4.of_block (hgr.block _ r4.size fun e => own_ne hk.top r4 e.symm)⟩
  · by_cases e1 : i = n
    · by_cases e2 : j = n
      · omega
      · simp only [if_pos e1, if_neg e2] at e
        exact absurd e.symm (hgn j (by omega))
    · by_cases e2 : j = n
      · simp only [if_neg e1, if_pos e2] at e
        exact absurd e (hgn i (by omega))
      · simp only [if_neg e1, if_neg e2] at e
        exact h.inj i j (by omega) (by omega) e
theorem Own.congr {w W : World} {v : Value} {n m : Nat} {G C : Nat → Nat} {M N : Nat → Nat → Nat} (h : Own w W v n m G C M) (e : ∀ i, i < n → ∀ j, j < m → M i j = N i j) : Own w W v n m G C N :=
  ⟨h.below, h.top, fun i hi => ⟨(h.row i hi).1, (h.row i hi).2.1, (h.row i hi).2.2.1, (h.row i hi).2.2.2.congr (e i hi)⟩, h.inj⟩
/-- at plain addresses -/
theorem Own.at {w W : World} {v : Value} {n m : Nat} {G C : Nat → Nat} {M : Nat → Nat → Nat} (h : Own w W v n m G C M) (hn : 0 < n) :
    ∃ g cap, v = .slice (some ⟨g, 0, none⟩) n cap ∧ w.heap.size ≤ g ∧ n ≤ cap ∧ cap ≤ maxLen ∧ (∀ i, i < n → W.cell? ⟨g, i, none⟩ = some (.slice (some ⟨G i, 0, none⟩) m (C i)) ∧ W.frozen? ⟨g, i, none⟩ = false ∧ G i ≠ g) := by
  rcases h.top.2 with ⟨_, h0⟩ | ⟨g, cap, cur, hv, hb, hg, h1, h2, h3, h4⟩
  · omega
  · refine ⟨g, cap, hv, hb, h1, h2, fun i hi => ⟨?_, ?_, fun e => ?_⟩⟩
    · have := h.top.cells (g := g) (by rw [hv]; rfl) i (.slice (some ⟨G i, 0, none⟩) m (C i)) (by simp [hi])
      have hadd : (⟨g, 0, none⟩ : Addr).add i = ⟨g, i, none⟩ := by unfold Addr.add; split <;> simp_all
      rwa [hadd] at this
    · simp [World.frozen?, hg]
    · exact own_ne h.top (h.row i hi).2.2.2 (by rw [hv, e]; rfl)
/-- and read -/
theorem Own.grid {w W : World} {v : Value} {n m : Nat} {G C : Nat → Nat} {M : Nat → Nat → Nat} (h : Own w W v n m G C M) (hn : 0 < n) (hm : m ≤ maxLen) : ∃ g cap, v = .slice (some ⟨g, 0, none⟩) n cap ∧ Grid W (some ⟨g, 0, none⟩) n (fun _ => m) M := by
  obtain ⟨g, cap, hv, _, h1, h2, h3⟩ := h.at hn
  refine ⟨g, cap, hv, Nat.le_trans h1 h2, g, 0, fun i => some ⟨G i, 0, none⟩, C, G, fun _ => 0, fun _ => rfl, fun i hi => ⟨by rw [Nat.zero_add]; exact (h3 i hi).1, hm, fun _ => rfl, fun j hj => ⟨by rw [Nat.zero_add]; exact (h.row i hi).2.2.2.cell hj, (h.row i hi).2.2.2.lt hj⟩⟩⟩
end Go.Proofs.Ytlpmehnffdaobaa
