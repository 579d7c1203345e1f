/- Words for the walk of the document's Inverse: two matrices beside each other, and the steps place by place. -/
import Derived.Test.YtlpmehnffdaobaaInvM
import Derived.Test.YtlpmehnffdaobaaRMulW
import Derived.Test.YtlpmehnffdaobaaSameW
namespace Go.Proofs.Ytlpmehnffdaobaa
open Go.RowKit Go.Deep
set_option linter.unusedVariables false
/-- '[]byte(string(row))' -/
theorem run_row (W : World) (n : Nat) (f : Nat → Nat) (hn : n ≤ 32) (hf : ∀ j, j < n → f j < 256) :
    ∃ c W1, (convert 9 38 (.string (txt n f))).run Try.prog W = .ok (.slice (some ⟨W.heap.size, 0, none⟩) n c) W1 ∧ n ≤ c ∧ c ≤ maxLen ∧ Below W.heap.size W W1 ∧ RowB W1 W.heap.size n f := by
  have hs : (txt n f).size = n := by simp [txt, ByteArray.size]
  have hrun := run_bytes_of_string (P := Try.prog) W 9 38 5 (txt n f) (by kernel_rfl) (by kernel_rfl) (by kernel_rfl)
  rw [hs] at hrun
  refine ⟨_, _, hrun, grownCap_ge _ _ _ _, grownCap_le_maxLen _ _ _ _ (by unfold maxLen; omega), (Below.refl _ W).drew.alloc (Nat.le_refl _) _, _, _, _, heap_alloc_new W.drew _, fun j hj => ⟨?_, hf j hj⟩, fun j hj => ?_⟩
  · have h' : j < (txt n f).data.size := by rw [show (txt n f).data.size = n from hs]; exact hj
    unfold bytesRow
    rw [Array.getElem?_append_left (by simpa using h'), Array.getElem?_map, Array.getElem?_eq_getElem h']
    have := hf j hj
    simp [txt]
    omega
  · have h1 : n ≤ (bytesRow (txt n f) (grownCap W n 0 5)).size := by
      unfold bytesRow
      simp only [Array.size_append, Array.size_map]
      have : (txt n f).data.size = n := hs
      omega
    unfold World.frozen?
    rw [show (W.drew.alloc (.cells (bytesRow (txt n f) (grownCap W n 0 5)) 5 ((bytesRow (txt n f) (grownCap W n 0 5)).size, (bytesRow (txt n f) (grownCap W n 0 5)).size + 1))).heap[W.heap.size]? = some _ from heap_alloc_new W.drew _]
    simp
    omega
theorem Own.rebase {w w1 W : World} {v : Value} {n m : Nat} {G C : Nat → Nat} {M : Nat → Nat → Nat} (h : Own w1 W v n m G C M) (hb : Below w.heap.size w w1) : Own w W v n m G C M := by
  refine ⟨hb.trans (h.below.mono hb.size), ⟨h.top.1, ?_⟩, fun i hi => ⟨Nat.le_trans hb.size (h.row i hi).1, (h.row i hi).2⟩, h.inj⟩
  rcases h.top.2 with hn | ⟨g, cap, cur, hv, hbb, hgg, rest⟩
  · exact .inl hn
  · exact .inr ⟨g, cap, cur, hv, Nat.le_trans hb.size hbb, hgg, rest⟩
/-- two matrices of the call's own, the halves of one -/
structure Two (w W : World) (n g cap h cap2 : Nat) (G C H D : Nat → Nat) (M : Nat → Nat → Nat) : Prop where
  a : Own w W (.slice (some ⟨g, 0, none⟩) n cap) n n G C M
  b : Own w W (.slice (some ⟨h, 0, none⟩) n cap2) n n H D (LA.half n M)
  rows : ∀ i j, i < n → j < n → G i ≠ H j
  tops : g ≠ h
  base : w.heap.size ≤ g ∧ w.heap.size ≤ h
  two : ∀ i, i < n → G i ≠ h ∧ H i ≠ g
theorem Two.congr {w W : World} {n g cap h cap2 : Nat} {G C H D : Nat → Nat} {M N : Nat → Nat → Nat} (t : Two w W n g cap h cap2 G C H D M) (e : ∀ i, i < n → ∀ j, j < n + n → M i j = N i j) : Two w W n g cap h cap2 G C H D N :=
  ⟨t.a.congr fun i hi j hj => e i hi j (by omega), t.b.congr fun i hi j hj => e i hi (n + j) (by omega), t.rows, t.tops, t.base, t.two⟩
theorem Two.step {w W W' : World} {n g cap h cap2 : Nat} {G C H D : Nat → Nat} {M : Nat → Nat → Nat} (t : Two w W n g cap h cap2 G C H D M) (hb : Below W.heap.size W W') : Two w W' n g cap h cap2 G C H D M :=
  ⟨t.a.step hb, t.b.step hb, t.rows, t.tops, t.base, t.two⟩
def upd (M : Nat → Nat → Nat) (r c b i j : Nat) : Nat := if i = r ∧ j = c then b else M i j
theorem Two.putA {w W : World} {n g cap h cap2 : Nat} {G C H D : Nat → Nat} {M : Nat → Nat → Nat} (t : Two w W n g cap h cap2 G C H D M) (r c b : Nat) (hr : r < n) (hc : c < n) (hb : b < 256) :
    Two w (W.setCell ⟨G r, c, none⟩ (.int .u8 (b : Int))) n g cap h cap2 G C H D (upd M r c b) := by
  refine ⟨t.a.put r c b hr hb, ?_, t.rows, t.tops, t.base, t.two⟩
  refine (t.b.far (p := G r) (t.a.row r hr).1 (fun i hi e => t.rows r i hr hi e.symm) (fun e => (t.two r hr).1 ?_) c _).congr fun i hi j hj => ?_
  · simp [Value.ownBlock] at e
    exact e.symm
  · show M i (n + j) = if i = r ∧ n + j = c then b else M i (n + j)
    rw [if_neg (by omega)]
theorem Two.putB {w W : World} {n g cap h cap2 : Nat} {G C H D : Nat → Nat} {M : Nat → Nat → Nat} (t : Two w W n g cap h cap2 G C H D M) (r c b : Nat) (hr : r < n) (hc : c < n) (hb : b < 256) :
    Two w (W.setCell ⟨H r, c, none⟩ (.int .u8 (b : Int))) n g cap h cap2 G C H D (upd M r (n + c) b) := by
  refine ⟨?_, (t.b.put r c b hr hb).congr fun i hi j hj => ?_, t.rows, t.tops, t.base, t.two⟩
  · refine (t.a.far (p := H r) (t.b.row r hr).1 (fun i hi e => t.rows i r hi hr e) (fun e => (t.two r hr).2 ?_) c _).congr fun i hi j hj => ?_
    · simp [Value.ownBlock] at e
      exact e.symm
    · show M i j = if i = r ∧ j = n + c then b else M i j
      rw [if_neg (by omega)]
  · show (if i = r ∧ j = c then b else M i (n + j)) = if i = r ∧ n + j = n + c then b else M i (n + j)
    by_cases e : i = r ∧ j = c
    · rw [if_pos e, if_pos ⟨e.1, by omega⟩]
    · rw [if_neg e, if_neg (by omega)]
theorem swp_comm (a b i : Nat) : swp a b i = swp b a i := by
  unfold swp
  by_cases h1 : i = a
  · by_cases h2 : i = b
    · rw [if_pos h1, if_pos h2]; omega
    · rw [if_pos h1, if_neg h2, if_pos h1]
  · by_cases h2 : i = b
    · rw [if_neg h1, if_pos h2, if_pos h2]
    · rw [if_neg h1, if_neg h2, if_neg h2, if_neg h1]
theorem Two.swapA {w W : World} {n g cap h cap2 : Nat} {G C H D : Nat → Nat} {M : Nat → Nat → Nat} (t : Two w W n g cap h cap2 G C H D M) (a b : Nat) (ha : a < n) (hb : b < n) :
    Own w ((W.setCell ⟨g, a, none⟩ (.slice (some ⟨G b, 0, none⟩) n (C b))).setCell ⟨g, b, none⟩ (.slice (some ⟨G a, 0, none⟩) n (C a))) (.slice (some ⟨g, 0, none⟩) n cap) n n (fun i => G (swp a b i)) (fun i => C (swp a b i)) (fun i => M (swp a b i)) ∧
    Own w ((W.setCell ⟨g, a, none⟩ (.slice (some ⟨G b, 0, none⟩) n (C b))).setCell ⟨g, b, none⟩ (.slice (some ⟨G a, 0, none⟩) n (C a))) (.slice (some ⟨h, 0, none⟩) n cap2) n n H D (LA.half n M) := by
  have hne : Value.ownBlock (.slice (some ⟨h, 0, none⟩) n cap2) ≠ some g := fun e => by
    simp [Value.ownBlock] at e
    exact t.tops e.symm
  exact ⟨t.a.swap a b ha hb, (t.b.far (p := g) t.base.1 (fun i hi => (t.two i hi).2) hne a _).far (p := g) t.base.1 (fun i hi => (t.two i hi).2) hne b _⟩
/-- both matrices' rows a and b are exchanged; the parts under names of their own -/
theorem Two.swap {w W : World} {n g cap h cap2 t p : Nat} {G C H D : Nat → Nat} {M : Nat → Nat → Nat} {R : Option (Nat → Nat → Nat)} (T : Two w W n g cap h cap2 G C H D M) (ht : t < n) (hp : p < n) (hpv : LA.piv n t M = p) (hne : M p t ≠ 0) (hg : LA.gj n (n - t) t M = R) :
    ∃ (G2 C2 H2 D2 : Nat → Nat) (N : Nat → Nat → Nat), Two w ((((W.setCell ⟨g, p, none⟩ (.slice (some ⟨G t, 0, none⟩) n (C t))).setCell ⟨g, t, none⟩ (.slice (some ⟨G p, 0, none⟩) n (C p))).setCell ⟨h, p, none⟩ (.slice (some ⟨H t, 0, none⟩) n (D t))).setCell ⟨h, t, none⟩ (.slice (some ⟨H p, 0, none⟩) n (D p))) n g cap h cap2 G2 C2 H2 D2 N ∧
      N t t ≠ 0 ∧ LA.gj n (n - (t + 1)) (t + 1) (clr t (LA.scl t N)) = R := by
  obtain ⟨h1, h2⟩ := T.swapA p t hp ht
  have T1 : Two w ((W.setCell ⟨g, p, none⟩ (.slice (some ⟨G t, 0, none⟩) n (C t))).setCell ⟨g, t, none⟩ (.slice (some ⟨G p, 0, none⟩) n (C p))) n h cap2 g cap H D (fun i => G (swp p t i)) (fun i => C (swp p t i)) (fun i j => if j < n then M i (n + j) else M (swp p t i) (j - n)) :=
    ⟨h2.congr fun i hi j hj => by show M i (n + j) = _; rw [if_pos hj], h1.congr fun i hi j hj => by show M (swp p t i) j = (if n + j < n then M i (n + (n + j)) else M (swp p t i) (n + j - n)); rw [if_neg (by omega), Nat.add_sub_cancel_left], fun i j hi hj e => T.rows _ i (swp_lt hp ht hj) hi e.symm, T.tops.symm, ⟨T.base.2, T.base.1⟩, fun i hi => ⟨(T.two i hi).2, (T.two _ (swp_lt hp ht hi)).1⟩⟩
  obtain ⟨k1, k2⟩ := T1.swapA p t hp ht
  refine ⟨fun i => G (swp p t i), fun i => C (swp p t i), fun i => H (swp p t i), fun i => D (swp p t i), fun i j => M (swp t p i) j, ?_, ?_, ?_⟩
  · refine ⟨k2.congr fun i hi j hj => ?_, k1.congr fun i hi j hj => ?_, fun i j hi hj => T.rows _ _ (swp_lt hp ht hi) (swp_lt hp ht hj), T.tops, T.base, fun i hi => ⟨(T.two _ (swp_lt hp ht hi)).1, (T.two _ (swp_lt hp ht hi)).2⟩⟩
    · show (if n + j < n then _ else M (swp p t i) (n + j - n)) = M (swp t p i) j
      rw [if_neg (by omega), Nat.add_sub_cancel_left, swp_comm]
    · show (if j < n then M (swp p t i) (n + j) else _) = M (swp t p i) (n + j)
      rw [if_pos hj, swp_comm]
  · show M (swp t p t) t ≠ 0
    unfold swp
    rw [if_pos rfl]
    exact hne
  · rw [← hg, gj_next ht hpv hp]
    rfl
/-! ### place by place -/
def sc2 (n t I c d : Nat) (N : Nat → Nat → Nat) (i j : Nat) : Nat := if i = t ∧ (j < c ∨ (n ≤ j ∧ j < n + d)) then GF.mul (N t j) I else N i j
theorem sc2_zero (n t I : Nat) (N : Nat → Nat → Nat) (i j : Nat) : N i j = sc2 n t I 0 0 N i j := by unfold sc2; rw [if_neg (by omega)]
theorem sc2_full (n t : Nat) (N : Nat → Nat → Nat) (i j : Nat) (hj : j < n + n) : sc2 n t (GF.inv (N t t)) n n N i j = LA.scl t N i j := by
  unfold sc2 LA.scl
  by_cases h : i = t
  · rw [if_pos ⟨h, by omega⟩, if_pos h]
  · rw [if_neg (fun k => h k.1), if_neg h]
theorem sc2_a (n t I c d : Nat) (N : Nat → Nat → Nat) (hc : c < n) : sc2 n t I c d N t c = N t c := by unfold sc2; rw [if_neg (by omega)]
theorem sc2_b (n t I c d : Nat) (N : Nat → Nat → Nat) (hc : c ≤ n) : sc2 n t I c d N t (n + d) = N t (n + d) := by unfold sc2; rw [if_neg (by omega)]
theorem sc2_putA (n t I c d Q : Nat) (N : Nat → Nat → Nat) (h : GF.mul (N t c) I = Q) (i j : Nat) : upd (sc2 n t I c d N) t c Q i j = sc2 n t I (c + 1) d N i j := by
  unfold upd sc2
  by_cases e : i = t ∧ j = c
  · rw [if_pos e, if_pos ⟨e.1, .inl (by omega)⟩, ← h, e.2]
  · rw [if_neg e]
    by_cases h1 : i = t ∧ (j < c ∨ (n ≤ j ∧ j < n + d))
    · rw [if_pos h1, if_pos (by omega)]
    · rw [if_neg h1, if_neg (by omega)]
theorem sc2_putB (n t I c d Q : Nat) (N : Nat → Nat → Nat) (h : GF.mul (N t (n + d)) I = Q) (i j : Nat) : upd (sc2 n t I c d N) t (n + d) Q i j = sc2 n t I c (d + 1) N i j := by
  unfold upd sc2
  by_cases e : i = t ∧ j = n + d
  · rw [if_pos e, if_pos ⟨e.1, .inr (by omega)⟩, ← h, e.2]
  · rw [if_neg e]
    by_cases h1 : i = t ∧ (j < c ∨ (n ≤ j ∧ j < n + d))
    · rw [if_pos h1, if_pos (by omega)]
    · rw [if_neg h1, if_neg (by omega)]
def cl2 (n a : Nat) (M : Nat → Nat → Nat) (k c d i j : Nat) : Nat := if i < k ∨ (i = k ∧ (j < c ∨ (n ≤ j ∧ j < n + d))) then clr a M i j else M i j
theorem cl2_zero (n a : Nat) (M : Nat → Nat → Nat) (i j : Nat) : M i j = cl2 n a M 0 0 0 i j := by unfold cl2; rw [if_neg (by omega)]
theorem cl2_skip (n a : Nat) (M : Nat → Nat → Nat) (k i j : Nat) (h : k = a ∨ M k a = 0) (hb : M a j < 256) : cl2 n a M k 0 0 i j = cl2 n a M (k + 1) 0 0 i j := by
  unfold cl2
  by_cases h1 : i < k
  · rw [if_pos (.inl h1), if_pos (.inl (by omega))]
  · rw [if_neg (by omega)]
    by_cases h2 : i = k
    · rw [if_pos (.inl (by omega))]
      unfold clr
      subst h2
      rcases h with h | h
      · rw [if_pos h]
      · by_cases h3 : i = a
        · rw [if_pos h3]
        · rw [if_neg h3, h, GF.zero_mul _ hb, Nat.xor_zero]
    · rw [if_neg (by omega)]
theorem cl2_full (n a : Nat) (M : Nat → Nat → Nat) (k i j : Nat) (hj : j < n + n) : cl2 n a M k n n i j = cl2 n a M (k + 1) 0 0 i j := by
  unfold cl2
  by_cases h1 : i < k ∨ (i = k ∧ (j < n ∨ (n ≤ j ∧ j < n + n)))
  · rw [if_pos h1, if_pos (.inl (by omega))]
  · rw [if_neg h1, if_neg (by omega)]
theorem cl2_end (n a : Nat) (M : Nat → Nat → Nat) (i j : Nat) (hi : i < n) : cl2 n a M n 0 0 i j = clr a M i j := by unfold cl2; rw [if_pos (.inl hi)]
theorem cl2_a (n a : Nat) (M : Nat → Nat → Nat) (k c d : Nat) (hc : c < n) : cl2 n a M k c d k c = M k c := by unfold cl2; rw [if_neg (by omega)]
theorem cl2_b (n a : Nat) (M : Nat → Nat → Nat) (k c d : Nat) (hc : c ≤ n) : cl2 n a M k c d k (n + d) = M k (n + d) := by unfold cl2; rw [if_neg (by omega)]
theorem cl2_head (n a : Nat) (M : Nat → Nat → Nat) (k j : Nat) : cl2 n a M k 0 0 k j = M k j := by unfold cl2; rw [if_neg (by omega)]
theorem cl2_at (n a : Nat) (M : Nat → Nat → Nat) (k c d j : Nat) (h : ¬ k = a) : cl2 n a M k c d a j = M a j := by
  unfold cl2 clr
  split
  · rw [if_pos rfl]
  · rfl
theorem cl2_putA (n a : Nat) (M : Nat → Nat → Nat) (k c d Q : Nat) (h : clr a M k c = Q) (i j : Nat) : upd (cl2 n a M k c d) k c Q i j = cl2 n a M k (c + 1) d i j := by
  unfold upd cl2
  by_cases e : i = k ∧ j = c
  · rw [if_pos e, if_pos (.inr (by omega)), e.1, e.2, h]
  · rw [if_neg e]
    by_cases h1 : i < k ∨ (i = k ∧ (j < c ∨ (n ≤ j ∧ j < n + d)))
    · rw [if_pos h1, if_pos (by omega)]
    · rw [if_neg h1, if_neg (by omega)]
theorem cl2_putB (n a : Nat) (M : Nat → Nat → Nat) (k c d Q : Nat) (h : clr a M k (n + d) = Q) (i j : Nat) : upd (cl2 n a M k c d) k (n + d) Q i j = cl2 n a M k c (d + 1) i j := by
  unfold upd cl2
  by_cases e : i = k ∧ j = n + d
  · rw [if_pos e, if_pos (.inr (by omega)), e.1, e.2, h]
  · rw [if_neg e]
    by_cases h1 : i < k ∨ (i = k ∧ (j < c ∨ (n ≤ j ∧ j < n + d)))
    · rw [if_pos h1, if_pos (by omega)]
    · rw [if_neg h1, if_neg (by omega)]
theorem rinv_q (X I : Nat) (hX : X < 256) (h0 : X ≠ 0) (h : GF.inv X = I) (w : World) : Calls Try.prog 30 #[.int .u8 (X : Int)] w fun e w' => e = .returned (.tuple #[.int .u8 (I : Int), .int .i64 0]) ∧ w = w' :=
  (rinv_nat X hX h0 w).mono fun e w' k => ⟨by rw [k.1, h], k.2⟩
end Go.Proofs.Ytlpmehnffdaobaa
