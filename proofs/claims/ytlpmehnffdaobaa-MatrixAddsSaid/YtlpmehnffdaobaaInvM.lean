/- Words for the walk of matrix.Inverse: the augmented rows, the box of 'at', the steps as the loops make them. -/
import Derived.Test.YtlpmehnffdaobaaSwap
import Derived.Test.YtlpmehnffdaobaaMul2W
import Derived.Test.YtlpmehnffdaobaaLa2
import Derived.ScopeJumps
import Derived.OneCell
import Derived.Deep.AppendLies
namespace Go.Proofs.Ytlpmehnffdaobaa
open Go.RowKit Go.Deep
set_option linter.unusedVariables false
/-- a label that is jumped to: the code behind it is walked once -/
theorem wp_scope_label {P : Program} {Q : Exit → Act → World → Prop} {a : Act} {w : World} {c X : Code} (l : Nat) (J : Act → World → Prop) (μ : Act → World → Nat) (hf : findLabel c l = some (Code.skip.seq X))
    (pass : ∀ (K : Act → World → Prop) a w, J a w → (∀ a' w', J a' w' → μ a' w' < μ a w → K a' w') → X.wp P (Exit.jump l K Q) a w)
    (first : (∀ a w, J a w → X.wp P (Exit.jump l J Q) a w) → c.wp P (Exit.jump l J Q) a w) : (Code.scope c).wp P Q a w :=
  wp_scope_jumps l J μ hf (first fun a w h => pass J a w h (fun _ _ hj _ => hj)) (fun a w h => wp_seq (wp_skip (pass _ a w h fun _ _ hj hl => ⟨hj, hl⟩)))
def pk (x y i : Nat) : Nat := if i = 0 then x else y
def pkF (f g : Nat → Nat) (i : Nat) : Nat → Nat := if i = 0 then f else g
theorem pair_cells (W : World) (x y : Value) (t : TypeId) : (W.alloc (.cells #[x, y] t)).cell? ⟨W.heap.size, 0, none⟩ = some x ∧ (W.alloc (.cells #[x, y] t)).cell? ⟨W.heap.size, 1, none⟩ = some y := by
  have r1 : (W.alloc (.cells #[x, y] t)).rowIs W.heap.size t 2 (fun i => if i = 0 then x else y) := World.rowIs_alloc _ #[x, y] t _ (fun i hi => by
    match i, hi with
    | 0, _ => rfl
    | 1, _ => rfl)
  exact ⟨r1.cell (i := 0) (by omega), r1.cell (i := 1) (by omega)⟩
/-- a row beside a row, put into a slice of two -/
theorem two_rows {w1 wr : World} (hb : Below w1.heap.size w1 wr) {n BA OA CA BO CO : Nat} {f g : Nat → Nat} (hA : ∀ j, j < n → w1.cell? ⟨BA, OA + j, none⟩ = some (.int .u8 (f j : Int)) ∧ f j < 256)
    (hO : ∀ j, j < n → w1.cell? ⟨BO, 0 + j, none⟩ = some (.int .u8 (g j : Int)) ∧ g j < 256) (i : Nat) (hi : i < 2) :
    ((wr.alloc (.cells #[.slice (some ⟨BA, OA, none⟩) n CA, .slice (some ⟨BO, 0, none⟩) n CO] 38)).drew).cell? ⟨wr.heap.size, i, none⟩ = some (.slice (some ⟨pk BA BO i, pk OA 0 i, none⟩) n (pk CA CO i)) ∧
      ∀ j, j < n → ((wr.alloc (.cells #[.slice (some ⟨BA, OA, none⟩) n CA, .slice (some ⟨BO, 0, none⟩) n CO] 38)).drew).cell? ⟨pk BA BO i, pk OA 0 i + j, none⟩ = some (.int .u8 (pkF f g i j : Int)) ∧ pkF f g i j < 256 := by
  obtain ⟨p1, p2⟩ := pair_cells wr (.slice (some ⟨BA, OA, none⟩) n CA) (.slice (some ⟨BO, 0, none⟩) n CO) 38
  have hb' : Below w1.heap.size w1 (wr.alloc (.cells #[.slice (some ⟨BA, OA, none⟩) n CA, .slice (some ⟨BO, 0, none⟩) n CO] 38)) := hb.alloc hb.size _
  match i, hi with
  | 0, _ => exact ⟨p1, fun j hj => ⟨below_cell hb' (hA j hj).1, (hA j hj).2⟩⟩
  | 1, _ => exact ⟨p2, fun j hj => ⟨below_cell hb' (hO j hj).1, (hO j hj).2⟩⟩
theorem cat_aug (n : Nat) (A : Nat → Nat → Nat) (k j : Nat) (hj : j < 2 * n) : cat n (pkF (A k) (idm k)) j = LA.aug n A k j := by
  unfold cat LA.aug pkF
  by_cases h : j < n
  · rw [Nat.div_eq_of_lt h, Nat.mod_eq_of_lt h, if_pos rfl, if_pos h]
  · have e : j / n = 1 := by
      apply Nat.div_eq_of_lt_le <;> omega
    have e2 : j % n = j - n := by
      rw [Nat.mod_eq_sub_mod (by omega), Nat.mod_eq_of_lt (by omega)]
    rw [e, e2, if_neg (by omega), if_neg h]
    rfl
theorem alloc_le {k : Nat} {W : World} (h : k ≤ W.heap.size) (o : Obj) : k ≤ (W.alloc o).heap.size := by
  show k ≤ (W.heap.push _).size
  simp
  omega
theorem alloc_size (W : World) (o : Obj) : (W.alloc o).heap.size = W.heap.size + 1 := by
  show (W.heap.push _).size = _
  simp
theorem one_ones {a : Option Addr} {n c : Nat} : ∀ u ∈ ([.slice a n c] : List Value), u.oneCell' = true := by
  intro u hu
  simp at hu
  subst hu
  rfl
theorem RowB.old {W : World} {g m : Nat} {f : Nat → Nat} (h : RowB W g m f) (o : Obj) : RowB (W.alloc o) g m f := h.below (w := W) ((Below.refl _ _).alloc (Nat.le_refl _) o)
theorem joined_arm {w1 wr w4 : World} {c : Array Value} {v : Value} {m : Nat} {F f : Nat → Nat} (hb : Below w1.heap.size w1 wr) (hR : RowOwn ((wr.alloc (.cells c 38)).drew) w4 v m F) (hm : 0 < m) (hF : ∀ j, j < m → F j = f j) (hf : ∀ j, j < m → f j < 256) :
    ∃ g cap, v = .slice (some ⟨g, 0, none⟩) m cap ∧ Below w1.heap.size w1 w4 ∧ Below wr.heap.size wr w4 ∧ w1.heap.size ≤ g ∧ wr.heap.size ≤ g ∧ m ≤ cap ∧ cap ≤ maxLen ∧ RowB w4 g m f := by
  obtain ⟨g3, cap3, e, r3, r4, r5, r6⟩ := hR.row hm (fun j hj => by rw [hF j hj]; exact hf j hj)
  have h1 : w1.heap.size ≤ ((wr.alloc (.cells c 38)).drew).heap.size := alloc_le hb.size _
  have h2 : wr.heap.size ≤ ((wr.alloc (.cells c 38)).drew).heap.size := alloc_le (Nat.le_refl _) _
  exact ⟨g3, cap3, e, ((hb.alloc hb.size (.cells c 38)).drew).trans (hR.below.mono h1), (((Below.refl wr.heap.size wr).alloc (Nat.le_refl _) (.cells c 38)).drew).trans (hR.below.mono h2), Nat.le_trans h1 r3, Nat.le_trans h2 r3, r4, r5, r6.congr hF⟩
theorem push_arm {w1 wr w4 w5 : World} {v : Value} {k m g3 cap3 g5 cap5 : Nat} {G C : Nat → Nat} {M : Nat → Nat → Nat} (h : Own w1 wr v k m G C M) (hb : Below wr.heap.size wr w4) (h1 : w1.heap.size ≤ g3) (h2 : wr.heap.size ≤ g3) (h3 : m ≤ cap3) (h4 : cap3 ≤ maxLen) (hr : RowB w4 g3 m (M k))
    (hown : w5.ownsRow w1.heap.size 38 1 (.slice (some ⟨g5, 0, none⟩) (k + 1) cap5) (k + 1) (((List.range k).map fun i => .slice (some ⟨G i, 0, none⟩) m (C i)) ++ [.slice (some ⟨g3, 0, none⟩) m cap3]))
    (hg : (w4.alloc (.cells #[.slice (some ⟨g3, 0, none⟩) m cap3] 38)).grownBy w5 v.ownBlock) : ∃ G' C' : Nat → Nat, Own w1 w5 (.slice (some ⟨g5, 0, none⟩) (k + 1) cap5) (k + 1) m G' C' M :=
  ⟨_, _, h.push (hb.alloc hb.size (.cells #[.slice (some ⟨g3, 0, none⟩) m cap3] 38)) g3 cap3 h1 (fun i hi => Nat.ne_of_lt (Nat.lt_of_lt_of_le (h.row i hi).2.2.2.size h2)) ⟨h3, h4⟩ (hr.old _) hown hg⟩
/-! ### the box of 'at' -/
def BoxAt (W : World) (p : Nat) (t : Nat) : Prop := W.heap[p]? = some (.cells #[.int .i64 (t : Int)] 3 (0, 0))
theorem BoxAt.cell {W : World} {p t : Nat} (h : BoxAt W p t) : W.cell? ⟨p, 0, none⟩ = some (.int .i64 (t : Int)) := cell_of_one h
theorem BoxAt.free {W : World} {p t : Nat} (h : BoxAt W p t) : W.frozen? ⟨p, 0, none⟩ = false := free_of_one h
theorem BoxAt.put {W : World} {p t : Nat} (h : BoxAt W p t) (s : Nat) : BoxAt (W.setCell ⟨p, 0, none⟩ (.int .i64 (s : Int))) p s := one_setCell h
theorem BoxAt.put1 {W : World} {p t : Nat} (h : BoxAt W p t) : BoxAt (W.setCell ⟨p, 0, none⟩ (.int .i64 ((t : Int) + 1))) p (t + 1) := h.put (t + 1)
theorem BoxAt.start (W : World) : BoxAt (W.alloc (.cells #[.int .i64 0] 3)) W.heap.size 0 := heap_alloc_new W _
theorem BoxAt.row_ne {W : World} {p t g m : Nat} {f : Nat → Nat} (h : BoxAt W p t) (hr : RowB W g m f) : g ≠ p := by
  intro e
  subst e
  obtain ⟨cs, lo, hi, hb, _⟩ := hr
  rw [h] at hb
  injection hb with hb
  injection hb with _ h2
  exact absurd h2 (by decide)
theorem BoxAt.top_ne {W : World} {p t base n : Nat} {v : Value} {l : List Value} (h : BoxAt W p t) (hr : W.ownsRow base 38 1 v n l) : v.ownBlock ≠ some p := by
  intro e
  rcases hr.2 with ⟨rfl, _⟩ | ⟨k, cap, cur, rfl, _, hg, _⟩
  · simp [Value.ownBlock] at e
  · simp [Value.ownBlock] at e
    subst e
    rw [h] at hg
    injection hg with hb
    injection hb with _ h2
    exact absurd h2 (by decide)
theorem BoxAt.kept {W W' : World} {p t n m : Nat} {G : Nat → Nat} {M : Nat → Nat → Nat} (h : BoxAt W p t) (hr : ∀ i, i < n → RowB W (G i) m (M i)) (hk : Kept n G W W') : BoxAt W' p t :=
  (hk p fun i hi => h.row_ne (hr i hi)).trans h
theorem BoxAt.far {W : World} {p t : Nat} (h : BoxAt W p t) {a : Addr} (ha : p ≠ a.block) (v : Value) : BoxAt (W.setCell a v) p t := (blk_setCell_other _ _ _ _ ha).trans h
/-- a store into another block -/
theorem Own.far {w W : World} {v : Value} {n m : Nat} {G C : Nat → Nat} {M : Nat → Nat → Nat} (h : Own w W v n m G C M) {p : Nat} (hp : w.heap.size ≤ p) (h1 : ∀ i, i < n → G i ≠ p) (h2 : v.ownBlock ≠ some p) (o : Nat) (x : Value) :
    Own w (W.setCell ⟨p, o, none⟩ x) v n m G C M := by
  refine ⟨h.below.setCell (p := ⟨p, o, none⟩) hp _, ⟨h.top.1, ?_⟩, fun i hi => ?_, h.inj⟩
  · rcases h.top.2 with hn | ⟨g, cap, cur, hv, hbb, hgg, rest⟩
    · exact .inl hn
    · refine .inr ⟨g, cap, cur, hv, hbb, ?_, rest⟩
      have : g ≠ p := by
        intro e
        apply h2
        rw [hv]
        simp [Value.ownBlock, e]
      exact (blk_setCell_other W ⟨p, o, none⟩ x g this).trans hgg
  · obtain ⟨r1, r2, r3, r4⟩ := h.row i hi
    exact ⟨r1, r2, r3, r4.other (a := ⟨p, o, none⟩) (h1 i hi) _⟩
theorem Own.atc {w W : World} {n m g cap : Nat} {G C : Nat → Nat} {M : Nat → Nat → Nat} (h : Own w W (.slice (some ⟨g, 0, none⟩) n cap) n m G C M) (i : Nat) (hi : i < n) :
    W.cell? ⟨g, i, none⟩ = some (.slice (some ⟨G i, 0, none⟩) m (C i)) ∧ W.frozen? ⟨g, i, none⟩ = false ∧ G i ≠ g := by
  obtain ⟨g', cap', he, _, _, _, h3⟩ := h.at (Nat.lt_of_le_of_lt (Nat.zero_le _) hi)
  obtain ⟨rfl, rfl⟩ : g = g' ∧ cap = cap' := by simpa using he
  exact h3 i hi
/-! ### the scaling -/
/-- c places of row t are scaled -/
def sclAt (t c : Nat) (N : Nat → Nat → Nat) (i j : Nat) : Nat := if i = t ∧ j < c then GF.mul (N t j) (GF.inv (N t t)) else N i j
theorem sclAt_zero (t : Nat) (N : Nat → Nat → Nat) (i j : Nat) : N i j = sclAt t 0 N i j := by unfold sclAt; rw [if_neg (by omega)]
theorem sclAt_full (t m : Nat) (N : Nat → Nat → Nat) (i j : Nat) (hj : j < m) : sclAt t m N i j = LA.scl t N i j := by
  unfold sclAt LA.scl
  by_cases h : i = t
  · rw [if_pos ⟨h, hj⟩, if_pos h]
  · rw [if_neg (fun k => h k.1), if_neg h]
theorem sclAt_here (t c : Nat) (N : Nat → Nat → Nat) : sclAt t c N t c = N t c := by unfold sclAt; rw [if_neg (by omega)]
theorem sclAt_put (t c Q : Nat) (N : Nat → Nat → Nat) (h : GF.mul (N t c) (GF.inv (N t t)) = Q) (i j : Nat) : (if i = t ∧ j = c then Q else sclAt t c N i j) = sclAt t (c + 1) N i j := by
  unfold sclAt
  by_cases e : i = t ∧ j = c
  · rw [if_pos e, if_pos ⟨e.1, by omega⟩, ← h, e.2]
  · rw [if_neg e]
    by_cases h1 : i = t ∧ j < c
    · rw [if_pos h1, if_pos (by omega)]
    · rw [if_neg h1, if_neg (by omega)]
/-! ### the right halves -/
/-- k rows of the top begin at n -/
structure Fin (w1 W : World) (g n m : Nat) (G C : Nat → Nat) (M : Nat → Nat → Nat) (k : Nat) : Prop where
  below : Below w1.heap.size w1 W
  base : w1.heap.size ≤ g
  done : ∀ i, i < k → W.cell? ⟨g, i, none⟩ = some (.slice (some ⟨G i, n, none⟩) (m - n) (C i - n))
  todo : ∀ i, k ≤ i → i < n → W.cell? ⟨g, i, none⟩ = some (.slice (some ⟨G i, 0, none⟩) m (C i))
  free : ∀ i, i < n → W.frozen? ⟨g, i, none⟩ = false
  row : ∀ i, i < n → RowB W (G i) m (M i) ∧ G i ≠ g ∧ m ≤ C i ∧ C i ≤ maxLen
theorem Fin.start {w1 W : World} {g n m cap : Nat} {G C : Nat → Nat} {M : Nat → Nat → Nat} (h : Own w1 W (.slice (some ⟨g, 0, none⟩) n cap) n m G C M) (hn : 0 < n) : Fin w1 W g n m G C M 0 := by
  obtain ⟨g', cap', he, hg, h1, h2, h3⟩ := h.at hn
  obtain ⟨rfl, rfl⟩ : g = g' ∧ cap = cap' := by simpa using he
  exact ⟨h.below, hg, fun i hi => absurd hi (Nat.not_lt_zero i), fun i _ hi => (h3 i hi).1, fun i hi => (h3 i hi).2.1, fun i hi => ⟨(h.row i hi).2.2.2, (h3 i hi).2.2, (h.row i hi).2.1, (h.row i hi).2.2.1⟩⟩
theorem Fin.put {w1 W : World} {g n m : Nat} {G C : Nat → Nat} {M : Nat → Nat → Nat} {k : Nat} (h : Fin w1 W g n m G C M k) (hk : k < n) : Fin w1 (W.setCell ⟨g, k, none⟩ (.slice (some ⟨G k, n, none⟩) (m - n) (C k - n))) g n m G C M (k + 1) := by
  have hfar : ∀ i, i ≠ k → (W.setCell ⟨g, k, none⟩ (.slice (some ⟨G k, n, none⟩) (m - n) (C k - n))).cell? ⟨g, i, none⟩ = W.cell? ⟨g, i, none⟩ := fun i hi =>
    World.cell?_setCell_other _ _ _ _ (fun e => hi (by injection e with _ e2 _; first | exact e2 | exact e2.symm))
  refine ⟨h.below.setCell (p := ⟨g, k, none⟩) h.base _, h.base, fun i hi => ?_, fun i hi hin => ?_, fun i hi => by simpa using h.free i hi, fun i hi => ⟨(h.row i hi).1.other (a := ⟨g, k, none⟩) (h.row i hi).2.1 _, (h.row i hi).2⟩⟩
  · by_cases e : i = k
    · subst e
      exact World.cell?_setCell_same' _ _ _ (by rw [h.todo i (Nat.le_refl _) hk]; rfl)
    · rw [hfar i e]; exact h.done i (by omega)
  · rw [hfar i (by omega)]; exact h.todo i (by omega) hin
theorem Fin.grid {w1 W : World} {g n m : Nat} {G C : Nat → Nat} {M : Nat → Nat → Nat} (h : Fin w1 W g n m G C M n) (hm : m = 2 * n) (hn : n ≤ 32) : Grid W (some ⟨g, 0, none⟩) n (fun _ => n) (LA.half n M) := by
  refine ⟨by unfold maxLen; omega, g, 0, fun i => some ⟨G i, n, none⟩, fun i => C i - n, G, fun _ => n, fun _ => rfl, fun i hi => ⟨?_, (by show n ≤ maxLen; unfold maxLen; omega), fun _ => rfl, fun j hj => have hj' : j < n := hj; ⟨(h.row i hi).1.cell (j := n + j) (by omega), (h.row i hi).1.lt (j := n + j) (by omega)⟩⟩⟩
  have := h.done i hi
  rw [show m - n = n by omega] at this
  rw [Nat.zero_add]
  exact this
/-! ### the steps -/
theorem stp_eq (t p : Nat) (M : Nat → Nat → Nat) : clr t (LA.scl t fun i => M (swp t p i)) = LA.stp t p M := rfl
theorem gj_next {n t p : Nat} {M : Nat → Nat → Nat} (ht : t < n) (hp : LA.piv n t M = p) (hpn : p < n) : LA.gj n (n - t) t M = LA.gj n (n - (t + 1)) (t + 1) (LA.stp t p M) := by
  rw [show n - t = (n - (t + 1)) + 1 by omega]
  show (if LA.piv n t M = n then none else _) = _
  rw [hp, if_neg (by omega)]
theorem gj_stop {n t : Nat} {M : Nat → Nat → Nat} (ht : t < n) (hp : LA.piv n t M = n) : LA.gj n (n - t) t M = none := by
  rw [show n - t = (n - (t + 1)) + 1 by omega]
  show (if LA.piv n t M = n then none else _) = _
  rw [if_pos hp]
theorem gj_end (n : Nat) (M : Nat → Nat → Nat) : LA.gj n (n - n) n M = some M := by rw [Nat.sub_self]; rfl
/-- the exchange, its parts under names of their own -/
theorem swap_pack {w1 W : World} {n m g cap t i : Nat} {G C : Nat → Nat} {M : Nat → Nat → Nat} {R : Option (Nat → Nat → Nat)} (h : Own w1 W (.slice (some ⟨g, 0, none⟩) n cap) n m G C M) (t1 : t < n) (hin : t + i < n) (hpv : LA.piv n t M = t + i) (hne : M (t + i) t ≠ 0) (hg : LA.gj n (n - t) t M = R) :
    ∃ (G2 C2 : Nat → Nat) (N : Nat → Nat → Nat), Own w1 ((W.setCell ⟨g, t, none⟩ (.slice (some ⟨G (t + i), 0, none⟩) m (C (t + i)))).setCell ⟨g, t + i, none⟩ (.slice (some ⟨G t, 0, none⟩) m (C t))).drew (.slice (some ⟨g, 0, none⟩) n cap) n m G2 C2 N ∧ N t t ≠ 0 ∧
      LA.gj n (n - (t + 1)) (t + 1) (clr t (LA.scl t N)) = R := by
  refine ⟨_, _, fun j => M (swp t (t + i) j), (h.swap t (t + i) t1 hin).step (Below.refl _ _).drew, ?_, ?_⟩
  · show M (swp t (t + i) t) t ≠ 0
    unfold swp
    rw [if_pos rfl]
    exact hne
  · rw [← hg, gj_next t1 hpv hin, stp_eq]
/-- what IndexFunc answers is the pivot -/
theorem idx_piv {n t : Nat} {M : Nat → Nat → Nat} {r : Int} (ht : t < n) (h : Idx (fun i => M (t + i) t) (n - t) r) :
    (r = -1 ∧ LA.piv n t M = n) ∨ ∃ i : Nat, r = (i : Int) ∧ t + i < n ∧ LA.piv n t M = t + i ∧ M (t + i) t ≠ 0 := by
  rcases h with ⟨i, h1, h2, h3, h4⟩ | ⟨h1, h2⟩
  · refine .inr ⟨i, h2, by omega, LA.piv_eq (by omega) (by omega) (fun j hj1 hj2 => ?_) (fun _ => h3), h3⟩
    have : M (t + (j - t)) t = 0 := h4 (j - t) (by omega)
    rwa [show t + (j - t) = j by omega] at this
  · refine .inl ⟨h1, LA.piv_eq (by omega) (Nat.le_refl _) (fun j hj1 hj2 => ?_) (fun hh => absurd hh (Nat.lt_irrefl _))⟩
    have : M (t + (j - t)) t = 0 := h2 (j - t) (by omega)
    rwa [show t + (j - t) = j by omega] at this
end Go.Proofs.Ytlpmehnffdaobaa
