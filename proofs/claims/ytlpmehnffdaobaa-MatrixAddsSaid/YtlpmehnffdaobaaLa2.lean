/- The inverse that the steps make turns round from both sides; its inverse is the matrix; different numbers' powers have one. -/
import Derived.Test.YtlpmehnffdaobaaLa
namespace Go.Proofs.Ytlpmehnffdaobaa
namespace LA
/-- x above y -/
def two (n : Nat) (x y : Nat → Nat) (j : Nat) : Nat := if j < n then x j else y (j - n)
/-- the right half -/
def half (n : Nat) (M : Nat → Nat → Nat) (i j : Nat) : Nat := M i (n + j)
theorem two_lt {n : Nat} {x y : Nat → Nat} (hx : ∀ j, j < n → x j < 256) (hy : ∀ j, j < n → y j < 256) (j : Nat) (hj : j < n + n) : two n x y j < 256 := by
  unfold two
  split
  · rename_i h; exact hx j h
  · exact hy _ (by omega)
theorem xor_zero_eq {a b : Nat} (h : a ^^^ b = 0) : a = b := by
  have : (a ^^^ b) ^^^ b = b := by rw [h, Nat.zero_xor]
  rwa [Nat.xor_assoc, Nat.xor_self, Nat.xor_zero] at this
theorem aug_bytes {n : Nat} {A : Nat → Nat → Nat} (h : Bytes n n A) : Bytes n (n + n) (aug n A) := fun i hi j _ => by
  unfold aug
  split
  · rename_i hj; exact h i hi j hj
  · exact one_lt _ _
theorem rv_aug {n : Nat} {A : Nat → Nat → Nat} (z : Nat → Nat) (hz : ∀ j, j < n + n → z j < 256) (i : Nat) (hi : i < n) : rv (n + n) (aug n A) z i = sum (fun j => GF.mul (A i j) (z j)) n ^^^ z (n + i) := by
  unfold rv
  rw [sum_add]
  congr 1
  · exact sum_congr fun j hj => by simp only [aug, if_pos hj]
  · rw [sum_one _ n i hi fun j hj hne => by simp only [aug, if_neg (show ¬ n + j < n by omega), one, if_neg (show ¬ i = n + j - n by omega)]; exact GF.zero_mul _ (hz _ (by omega))]
    simp only [aug, if_neg (show ¬ n + i < n by omega), one, if_pos (show i = n + i - n by omega)]
    exact GF.one_mul (hz _ (by omega))
theorem rv_done {n : Nat} {M : Nat → Nat → Nat} (hl : Left n n M) (z : Nat → Nat) (hz : ∀ j, j < n + n → z j < 256) (i : Nat) (hi : i < n) : rv (n + n) M z i = z i ^^^ sum (fun j => GF.mul (half n M i j) (z (n + j))) n := by
  unfold rv
  rw [sum_add]
  congr 1
  rw [sum_one _ n i hi fun j hj hne => by rw [hl i hi j hj]; simp only [one, if_neg (show ¬ i = j by omega)]; exact GF.zero_mul _ (hz _ (by omega))]
  rw [hl i hi i hi]
  simp only [one, if_pos]
  exact GF.one_mul (hz _ (by omega))
theorem sol_aug {n : Nat} {A : Nat → Nat → Nat} {x y : Nat → Nat} (hx : ∀ j, j < n → x j < 256) (hy : ∀ j, j < n → y j < 256) : Sol n (n + n) (aug n A) (two n x y) ↔ ∀ i, i < n → sum (fun j => GF.mul (A i j) (x j)) n = y i := by
  have e : ∀ i, i < n → rv (n + n) (aug n A) (two n x y) i = sum (fun j => GF.mul (A i j) (x j)) n ^^^ y i := fun i hi => by
    rw [rv_aug _ (two_lt hx hy) i hi, sum_congr (g := fun j => GF.mul (A i j) (x j)) fun j hj => by simp only [two, if_pos hj]]
    simp only [two, if_neg (show ¬ n + i < n by omega), Nat.add_sub_cancel_left]
  constructor
  · intro h i hi
    have := h i hi
    rw [e i hi] at this
    exact xor_zero_eq this
  · intro h i hi
    rw [e i hi, h i hi, Nat.xor_self]
theorem sol_done {n : Nat} {M : Nat → Nat → Nat} (hl : Left n n M) {x y : Nat → Nat} (hx : ∀ j, j < n → x j < 256) (hy : ∀ j, j < n → y j < 256) : Sol n (n + n) M (two n x y) ↔ ∀ i, i < n → sum (fun j => GF.mul (half n M i j) (y j)) n = x i := by
  have e : ∀ i, i < n → rv (n + n) M (two n x y) i = x i ^^^ sum (fun j => GF.mul (half n M i j) (y j)) n := fun i hi => by
    rw [rv_done hl _ (two_lt hx hy) i hi, sum_congr (g := fun j => GF.mul (half n M i j) (y j)) fun j _ => by simp only [two, if_neg (show ¬ n + j < n by omega), Nat.add_sub_cancel_left]]
    simp only [two, if_pos hi]
  constructor
  · intro h i hi
    have := h i hi
    rw [e i hi] at this
    exact (xor_zero_eq this).symm
  · intro h i hi
    rw [e i hi, h i hi, Nat.xor_self]
/-- the inverse from both sides -/
theorem inverse {n : Nat} {A M : Nat → Nat → Nat} (hA : Bytes n n A) (h : gj n n 0 (aug n A) = some M) :
    Bytes n n (half n M) ∧ (∀ i, i < n → ∀ j, j < n → mp n A (half n M) i j = one i j) ∧ (∀ i, i < n → ∀ j, j < n → mp n (half n M) A i j = one i j) := by
  obtain ⟨h1, h2, h3⟩ := gj_some (Nat.le_add_right n n) n 0 (aug n A) M (by omega) (aug_bytes hA) (fun _ _ c hc => absurd hc (Nat.not_lt_zero c)) h
  have hB : Bytes n n (half n M) := fun i hi j hj => h1 i hi (n + j) (by omega)
  refine ⟨hB, fun i hi c hc => ?_, fun i hi c hc => ?_⟩
  · have hx : ∀ j, j < n → half n M j c < 256 := fun j hj => hB j hj c hc
    have hy : ∀ j, j < n → one j c < 256 := fun j _ => one_lt j c
    have := (sol_aug (A := A) hx hy).1 ((h3 _ (two_lt hx hy)).1 ((sol_done h2 hx hy).2 fun i hi => mp_one hB i c hi hc))
    exact this i hi
  · have hx : ∀ j, j < n → one j c < 256 := fun j _ => one_lt j c
    have hy : ∀ j, j < n → A j c < 256 := fun j hj => hA j hj c hc
    have := (sol_done h2 hx hy).1 ((h3 _ (two_lt hx hy)).2 ((sol_aug (A := A) hx hy).2 fun i hi => mp_one hA i c hi hc))
    exact this i hi
/-- no pivot: something is sent to 0 -/
theorem singular {n : Nat} {A : Nat → Nat → Nat} (hA : Bytes n n A) (h : gj n n 0 (aug n A) = none) : ∃ x : Nat → Nat, (∀ j, x j < 256) ∧ (∃ j, j < n ∧ x j ≠ 0) ∧ ∀ i, i < n → sum (fun j => GF.mul (A i j) (x j)) n = 0 := by
  obtain ⟨z, z1, z2, z3, z4⟩ := gj_none (Nat.le_add_right n n) n 0 (aug n A) (by omega) (aug_bytes hA) (fun _ _ c hc => absurd hc (Nat.not_lt_zero c)) h
  refine ⟨z, z1, z3, fun i hi => ?_⟩
  have := z4 i hi
  rw [rv_aug z (fun j _ => z1 j) i hi, z2 _ (by omega), Nat.xor_zero] at this
  exact this
/-- a matrix that sends nothing else to 0 has an inverse -/
theorem regular {n : Nat} {A : Nat → Nat → Nat} (hA : Bytes n n A) (h : ∀ x : Nat → Nat, (∀ j, x j < 256) → (∀ i, i < n → sum (fun j => GF.mul (A i j) (x j)) n = 0) → ∀ j, j < n → x j = 0) : ∃ M, gj n n 0 (aug n A) = some M := by
  cases e : gj n n 0 (aug n A) with
  | some M => exact ⟨M, rfl⟩
  | none =>
    obtain ⟨x, x1, ⟨j, hj, x2⟩, x3⟩ := singular hA e
    exact absurd (h x x1 x3 j hj) x2
theorem of_left {n : Nat} {A L : Nat → Nat → Nat} (hA : Bytes n n A) (hL : Bytes n n L) (h : ∀ i, i < n → ∀ j, j < n → mp n L A i j = one i j) : ∃ M, gj n n 0 (aug n A) = some M := by
  refine regular hA fun x hx h0 j hj => ?_
  have hX : Bytes n 1 (fun i _ => x i) := fun i _ _ _ => hx i
  have e1 : mp n (mp n L A) (fun i _ => x i) j 0 = x j := by
    rw [mp_congr (C := one) (D := fun i _ => x i) j 0 (fun k hk => h j hj k hk) fun _ _ => rfl]
    exact one_mp hX j 0 hj (by omega)
  rw [mp_assoc hL hA hX j 0 hj (by omega)] at e1
  rw [← e1]
  unfold mp
  refine sum_none fun k hk => ?_
  rw [h0 k hk]
  exact GF.mul_zero _ (hL j hj k hk)
/-- the inverse is one only -/
theorem uniq {n : Nat} {A B C : Nat → Nat → Nat} (hA : Bytes n n A) (hB : Bytes n n B) (hC : Bytes n n C) (h1 : ∀ i, i < n → ∀ j, j < n → mp n B A i j = one i j) (h2 : ∀ i, i < n → ∀ j, j < n → mp n A C i j = one i j) (i j : Nat) (hi : i < n) (hj : j < n) : B i j = C i j := by
  have e := mp_assoc hB hA hC i j hi hj
  rw [mp_congr (C := one) (D := C) i j (fun k hk => h1 i hi k hk) fun _ _ => rfl, mp_congr (A := B) (C := B) (D := one) i j (fun _ _ => rfl) (fun k hk => h2 k hk j hj), one_mp hC i j hi hj, mp_one hB i j hi hj] at e
  exact e.symm
/-- the inverse's inverse -/
theorem back {n : Nat} {A M : Nat → Nat → Nat} (hA : Bytes n n A) (h : gj n n 0 (aug n A) = some M) : ∃ N, gj n n 0 (aug n (half n M)) = some N ∧ ∀ i, i < n → ∀ j, j < n → half n N i j = A i j := by
  obtain ⟨hB, h1, h2⟩ := inverse hA h
  obtain ⟨N, hN⟩ := of_left hB hA h1
  obtain ⟨hC, h3, _⟩ := inverse hB hN
  exact ⟨N, hN, fun i hi j hj => (uniq hB hA hC h1 h3 i j hi hj).symm⟩
/-- a row that the product takes to 0 is 0 -/
theorem row_zero {n : Nat} {A M : Nat → Nat → Nat} (hA : Bytes n n A) (h : gj n n 0 (aug n A) = some M) (x : Nat → Nat → Nat) (hx : Bytes 1 n x) (h0 : ∀ j, j < n → mp n x A 0 j = 0) (j : Nat) (hj : j < n) : x 0 j = 0 := by
  obtain ⟨hB, h1, _⟩ := inverse hA h
  have e := mp_assoc hx hA hB 0 j (by omega) hj
  rw [mp_congr (A := x) (C := x) (D := one) 0 j (fun _ _ => rfl) (fun k hk => h1 k hk j hj), mp_one hx 0 j (by omega) hj] at e
  rw [← e]
  unfold mp at h0 ⊢
  refine sum_none fun k hk => ?_
  rw [h0 k hk]
  exact GF.zero_mul _ (hB k hk j hj)
theorem zero_row {n : Nat} {A : Nat → Nat → Nat} (hA : Bytes n n A) (x : Nat → Nat → Nat) (h0 : ∀ j, j < n → x 0 j = 0) (j : Nat) (hj : j < n) : mp n x A 0 j = 0 := by
  unfold mp
  refine sum_none fun k hk => ?_
  rw [h0 k hk]
  exact GF.zero_mul _ (hA k hk j hj)

/-! ### different numbers' powers -/
/-- a polynomial of n coefficients at r -/
def hor (r : Nat) : Nat → (Nat → Nat) → Nat
  | 0, _ => 0
  | n + 1, x => x 0 ^^^ GF.mul r (hor r n fun i => x (i + 1))
theorem hor_lt (r : Nat) (hr : r < 256) (n : Nat) : ∀ x : Nat → Nat, (∀ i, x i < 256) → hor r n x < 256 := by
  induction n with
  | zero => intro x _; show 0 < 256; omega
  | succ n ih => intro x hx; exact GF.xor_lt (hx 0) (GF.mul_lt _ _ hr)
theorem hor_sum (r : Nat) (hr : r < 256) (n : Nat) : ∀ x : Nat → Nat, (∀ i, x i < 256) → hor r n x = sum (fun j => GF.mul (GF.npow r j) (x j)) n := by
  induction n with
  | zero => intro x _; rfl
  | succ n ih =>
    intro x hx
    rw [sum_head]
    show x 0 ^^^ GF.mul r (hor r n fun i => x (i + 1)) = GF.mul 1 (x 0) ^^^ _
    rw [GF.one_mul (hx 0), ih _ fun i => hx (i + 1), sum_mul _ _ _ hr]
    congr 1
    refine sum_congr fun j _ => ?_
    show GF.mul r (GF.mul (GF.npow r j) (x (j + 1))) = GF.mul (GF.mul (GF.npow r j) r) (x (j + 1))
    rw [GF.mul_comm (GF.npow_lt r j hr) hr, GF.mul_assoc hr (GF.npow_lt r j hr) (hx _)]
/-- the quotient by (r - a) -/
def quo (a n : Nat) (x : Nat → Nat) (j : Nat) : Nat := hor a (n - j) fun i => x (i + j + 1)
theorem quo_head (a n : Nat) (x : Nat → Nat) : quo a (n + 1) x 0 = hor a (n + 1) fun i => x (i + 1) := rfl
theorem quo_tail (a n : Nat) (x : Nat → Nat) (j : Nat) : quo a (n + 1) x (j + 1) = quo a n (fun i => x (i + 1)) j := by
  unfold quo
  rw [show n + 1 - (j + 1) = n - j by omega]
  congr 1
theorem quo_lt (a : Nat) (ha : a < 256) (n : Nat) (x : Nat → Nat) (hx : ∀ i, x i < 256) (j : Nat) : quo a n x j < 256 := hor_lt a ha _ _ fun _ => hx _
theorem hor_congr (r n : Nat) : ∀ x y : Nat → Nat, (∀ i, x i = y i) → hor r n x = hor r n y := by
  intro x y h
  have : x = y := funext h
  rw [this]
theorem divide (a : Nat) (ha : a < 256) (n : Nat) : ∀ (x : Nat → Nat), (∀ i, x i < 256) → ∀ r, r < 256 → hor r (n + 1) x = hor a (n + 1) x ^^^ GF.mul (r ^^^ a) (hor r n (quo a n x)) := by
  induction n with
  | zero =>
    intro x _ r hr
    show x 0 ^^^ GF.mul r 0 = (x 0 ^^^ GF.mul a 0) ^^^ GF.mul (r ^^^ a) 0
    rw [GF.mul_zero r hr, GF.mul_zero a ha, GF.mul_zero _ (GF.xor_lt hr ha), Nat.xor_zero, Nat.xor_zero]
  | succ n ih =>
    intro x hx r hr
    have hx1 : ∀ i, x (i + 1) < 256 := fun i => hx (i + 1)
    have hq := quo_lt a ha n (fun i => x (i + 1)) hx1
    show x 0 ^^^ GF.mul r (hor r (n + 1) fun i => x (i + 1)) = (x 0 ^^^ GF.mul a (hor a (n + 1) fun i => x (i + 1))) ^^^ GF.mul (r ^^^ a) (quo a (n + 1) x 0 ^^^ GF.mul r (hor r n fun i => quo a (n + 1) x (i + 1)))
    rw [hor_congr r n (fun i => quo a (n + 1) x (i + 1)) (quo a n fun i => x (i + 1)) (quo_tail a n x), quo_head, ih (fun i => x (i + 1)) hx1 r hr]
    have hE := hor_lt a ha (n + 1) (fun i => x (i + 1)) hx1
    have hQ := hor_lt r hr n (quo a n fun i => x (i + 1)) hq
    generalize hor a (n + 1) (fun i => x (i + 1)) = E at hE ⊢
    generalize hor r n (quo a n fun i => x (i + 1)) = Q at hQ ⊢
    have hra := GF.xor_lt hr ha
    have hrQ := GF.mul_lt r Q hr
    rw [GF.mul_add, GF.mul_add, GF.add_mul hr ha hE, ← GF.mul_assoc hr hra hQ, ← GF.mul_assoc hra hr hQ, GF.mul_comm hr hra]
    generalize GF.mul (GF.mul (r ^^^ a) r) Q = T
    generalize GF.mul r E = U
    generalize GF.mul a E = V
    have h1 : (x 0 ^^^ V) ^^^ ((U ^^^ V) ^^^ T) = x 0 ^^^ (U ^^^ T) := by
      rw [Nat.xor_comm U V, Nat.xor_assoc V U T, Nat.xor_assoc (x 0) V, ← Nat.xor_assoc V V, Nat.xor_self, Nat.zero_xor]
    exact h1.symm
theorem quo_zero (a : Nat) (ha : a < 256) (n : Nat) : ∀ (x : Nat → Nat), (∀ i, x i < 256) → hor a (n + 1) x = 0 → (∀ j, j < n → quo a n x j = 0) → ∀ j, j < n + 1 → x j = 0 := by
  induction n with
  | zero =>
    intro x _ h _ j hj
    have h' : x 0 ^^^ GF.mul a 0 = 0 := h
    rw [GF.mul_zero a ha, Nat.xor_zero] at h'
    rw [show j = 0 by omega]; exact h'
  | succ n ih =>
    intro x hx h hq j hj
    have q0 := hq 0 (by omega)
    rw [quo_head] at q0
    have h' : x 0 ^^^ GF.mul a (hor a (n + 1) fun i => x (i + 1)) = 0 := h
    rw [q0, GF.mul_zero a ha, Nat.xor_zero] at h'
    have := ih (fun i => x (i + 1)) (fun i => hx (i + 1)) q0 fun j hj => by rw [← quo_tail]; exact hq (j + 1) (by omega)
    cases j with
    | zero => exact h'
    | succ j => exact this j (by omega)
theorem roots (n : Nat) : ∀ (r x : Nat → Nat), (∀ i, i < n → r i < 256) → (∀ i, x i < 256) → (∀ i j, i < n → j < n → r i = r j → i = j) → (∀ i, i < n → hor (r i) n x = 0) → ∀ j, j < n → x j = 0 := by
  induction n with
  | zero => intro r x _ _ _ _ j hj; exact absurd hj (Nat.not_lt_zero j)
  | succ n ih =>
    intro r x hr hx hi h
    have ha := hr n (by omega)
    refine quo_zero (r n) ha n x hx (h n (by omega)) (ih r (quo (r n) n x) (fun i hin => hr i (by omega)) (quo_lt _ ha n x hx) (fun i j hin hjn e => hi i j (by omega) (by omega) e) fun i hin => ?_)
    have hri := hr i (by omega)
    have := divide (r n) ha n x hx (r i) hri
    rw [h i (by omega), h n (by omega), Nat.zero_xor] at this
    rcases (GF.mul_eq_zero (GF.xor_lt hri ha) (hor_lt _ hri n _ (quo_lt _ ha n x hx))).1 this.symm with k | k
    · exact absurd (hi i n (by omega) (by omega) (xor_zero_eq k)) (by omega)
    · exact k
theorem powers_inverse (n : Nat) (r : Nat → Nat) (hr : ∀ i, i < n → r i < 256) (hi : ∀ i j, i < n → j < n → r i = r j → i = j) : ∃ M, gj n n 0 (aug n fun i j => GF.npow (r i) j) = some M := by
  refine regular (fun i hi j _ => GF.npow_lt _ _ (hr i hi)) fun x hx h j hj => roots n r x hr hx hi (fun i hin => ?_) j hj
  rw [hor_sum _ (hr i hin) n x hx]
  exact h i hin
end LA
end Go.Proofs.Ytlpmehnffdaobaa
