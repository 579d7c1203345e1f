/- Gauss and Jordan over the field, in plain Lean: a matrix of n rows of 2n places, its left half beside its right half. -/
import Derived.Test.YtlpmehnffdaobaaGf
namespace Go.Proofs.Ytlpmehnffdaobaa
namespace LA
/-- a sum of n numbers -/
def sum (f : Nat → Nat) : Nat → Nat
  | 0 => 0
  | n + 1 => sum f n ^^^ f n
theorem sum_lt (f : Nat → Nat) (n : Nat) (h : ∀ i, i < n → f i < 256) : sum f n < 256 := by
  induction n with
  | zero => show 0 < 256; omega
  | succ n ih => exact GF.xor_lt (ih fun i hi => h i (by omega)) (h n (by omega))
theorem sum_congr {f g : Nat → Nat} {n : Nat} (h : ∀ i, i < n → f i = g i) : sum f n = sum g n := by
  induction n with
  | zero => rfl
  | succ n ih => show sum f n ^^^ f n = sum g n ^^^ g n; rw [ih fun i hi => h i (by omega), h n (by omega)]
theorem sum_none {f : Nat → Nat} {n : Nat} (h : ∀ i, i < n → f i = 0) : sum f n = 0 := by
  induction n with
  | zero => rfl
  | succ n ih => show sum f n ^^^ f n = 0; rw [ih fun i hi => h i (by omega), h n (by omega)]; rfl
theorem sum_xor (f g : Nat → Nat) (n : Nat) : sum (fun i => f i ^^^ g i) n = sum f n ^^^ sum g n := by
  induction n with
  | zero => show 0 = 0 ^^^ 0; simp
  | succ n ih => show sum _ n ^^^ (f n ^^^ g n) = (sum f n ^^^ f n) ^^^ (sum g n ^^^ g n); rw [ih, GF.xor4]
theorem sum_one (f : Nat → Nat) (n k : Nat) (hk : k < n) (h : ∀ i, i < n → i ≠ k → f i = 0) : sum f n = f k := by
  induction n with
  | zero => omega
  | succ n ih =>
    show sum f n ^^^ f n = f k
    by_cases e : k = n
    · subst e
      rw [sum_none fun i hi => h i (by omega) (by omega), Nat.zero_xor]
    · rw [ih (by omega) fun i hi hne => h i (by omega) hne, h n (by omega) (by omega), Nat.xor_zero]
theorem sum_add (f : Nat → Nat) (m n : Nat) : sum f (m + n) = sum f m ^^^ sum (fun i => f (m + i)) n := by
  induction n with
  | zero => show sum f m = sum f m ^^^ 0; simp
  | succ n ih => show sum f (m + n) ^^^ f (m + n) = sum f m ^^^ (sum _ n ^^^ f (m + n)); rw [ih, Nat.xor_assoc]
theorem sum_mul (c : Nat) (f : Nat → Nat) (n : Nat) (hc : c < 256) : GF.mul c (sum f n) = sum (fun i => GF.mul c (f i)) n := by
  induction n with
  | zero => exact GF.mul_zero c hc
  | succ n ih => show GF.mul c (sum f n ^^^ f n) = sum _ n ^^^ GF.mul c (f n); rw [GF.mul_add, ih]
theorem mul_sum (c : Nat) (f : Nat → Nat) (n : Nat) (hc : c < 256) (hf : ∀ i, i < n → f i < 256) : GF.mul (sum f n) c = sum (fun i => GF.mul (f i) c) n := by
  induction n with
  | zero => exact GF.zero_mul c hc
  | succ n ih =>
    show GF.mul (sum f n ^^^ f n) c = sum _ n ^^^ GF.mul (f n) c
    rw [GF.add_mul (sum_lt f n fun i hi => hf i (by omega)) (hf n (by omega)) hc, ih fun i hi => hf i (by omega)]
theorem sum_swap (f : Nat → Nat → Nat) (m n : Nat) : sum (fun i => sum (fun j => f i j) n) m = sum (fun j => sum (fun i => f i j) m) n := by
  induction m with
  | zero => exact (sum_none fun _ _ => rfl).symm
  | succ m ih =>
    show sum _ m ^^^ sum (fun j => f m j) n = sum (fun j => sum (fun i => f i j) m ^^^ f m j) n
    rw [ih, sum_xor]
theorem sum_head (f : Nat → Nat) (n : Nat) : sum f (n + 1) = f 0 ^^^ sum (fun i => f (i + 1)) n := by
  induction n with
  | zero => show 0 ^^^ f 0 = f 0 ^^^ 0; simp
  | succ n ih => show sum f (n + 1) ^^^ f (n + 1) = f 0 ^^^ (sum _ n ^^^ f (n + 1)); rw [ih, Nat.xor_assoc]

/-! ### products of matrices -/
/-- the product's place -/
def mp (n : Nat) (A B : Nat → Nat → Nat) (r c : Nat) : Nat := sum (fun k => GF.mul (A r k) (B k c)) n
/-- the identity -/
def one (r c : Nat) : Nat := if r = c then 1 else 0
/-- m rows of n bytes -/
def Bytes (m n : Nat) (A : Nat → Nat → Nat) : Prop := ∀ i, i < m → ∀ j, j < n → A i j < 256
theorem one_lt (r c : Nat) : one r c < 256 := by unfold one; split <;> omega
theorem mp_lt {l m n : Nat} {A B : Nat → Nat → Nat} (hA : Bytes l m A) : Bytes l n (mp m A B) := fun i hi _ _ => sum_lt _ _ fun k hk => GF.mul_lt _ _ (hA i hi k hk)
theorem mp_assoc {l m n o : Nat} {A B C : Nat → Nat → Nat} (hA : Bytes l m A) (hB : Bytes m n B) (hC : Bytes n o C) (i j : Nat) (hi : i < l) (hj : j < o) : mp n (mp m A B) C i j = mp m A (mp n B C) i j := by
  unfold mp
  have e1 : ∀ k, k < n → GF.mul (sum (fun q => GF.mul (A i q) (B q k)) m) (C k j) = sum (fun q => GF.mul (GF.mul (A i q) (B q k)) (C k j)) m := fun k hk =>
    mul_sum _ _ _ (hC k hk j hj) fun q hq => GF.mul_lt _ _ (hA i hi q hq)
  have e2 : ∀ q, q < m → GF.mul (A i q) (sum (fun k => GF.mul (B q k) (C k j)) n) = sum (fun k => GF.mul (GF.mul (A i q) (B q k)) (C k j)) n := fun q hq => by
    rw [sum_mul _ _ _ (hA i hi q hq)]
    exact sum_congr fun k hk => (GF.mul_assoc (hA i hi q hq) (hB q hq k hk) (hC k hk j hj)).symm
  rw [sum_congr e1, sum_congr e2, sum_swap]
theorem mp_one {l n : Nat} {A : Nat → Nat → Nat} (hA : Bytes l n A) (i j : Nat) (hi : i < l) (hj : j < n) : mp n A one i j = A i j := by
  unfold mp
  rw [sum_one _ n j hj fun k hk hne => by simp only [one, if_neg hne]; exact GF.mul_zero _ (hA i hi k hk)]
  simp only [one, if_pos]
  exact GF.mul_one _ (hA i hi j hj)
theorem one_mp {m n : Nat} {A : Nat → Nat → Nat} (hA : Bytes m n A) (i j : Nat) (hi : i < m) (hj : j < n) : mp m one A i j = A i j := by
  unfold mp
  rw [sum_one _ m i hi fun k hk hne => by simp only [one, if_neg (Ne.symm hne)]; exact GF.zero_mul _ (hA k hk j hj)]
  simp only [one, if_pos]
  exact GF.one_mul (hA i hi j hj)
theorem mp_add {l m n : Nat} {A B C : Nat → Nat → Nat} (_hA : Bytes l m A) (i j : Nat) (_hi : i < l) (_hj : j < n) : mp m A (fun r c => B r c ^^^ C r c) i j = mp m A B i j ^^^ mp m A C i j := by
  unfold mp
  rw [← sum_xor]
  exact sum_congr fun k _ => GF.mul_add _ _ _
theorem mp_congr {m : Nat} {A B C D : Nat → Nat → Nat} (i j : Nat) (h1 : ∀ k, k < m → A i k = C i k) (h2 : ∀ k, k < m → B k j = D k j) : mp m A B i j = mp m C D i j := by
  unfold mp
  exact sum_congr fun k hk => by rw [h1 k hk, h2 k hk]

/-! ### the steps -/
/-- a and b exchanged -/
def sw (a b i : Nat) : Nat := if i = a then b else if i = b then a else i
/-- row t times what makes its place t to 1 -/
def scl (t : Nat) (M : Nat → Nat → Nat) (i j : Nat) : Nat := if i = t then GF.mul (M t j) (GF.inv (M t t)) else M i j
/-- row t taken away from the others -/
def cl (a : Nat) (M : Nat → Nat → Nat) (i j : Nat) : Nat := if i = a then M i j else M i j ^^^ GF.mul (M i a) (M a j)
def stp (t p : Nat) (M : Nat → Nat → Nat) : Nat → Nat → Nat := cl t (scl t fun i => M (sw t p i))
/-- the first place from t on where f isn't 0 -/
def fst (f : Nat → Nat) : Nat → Nat → Nat
  | 0, t => t
  | d + 1, t => if f t = 0 then fst f d (t + 1) else t
def piv (n t : Nat) (M : Nat → Nat → Nat) : Nat := fst (fun i => M i t) (n - t) t
/-- the steps from t on -/
def gj (n : Nat) : Nat → Nat → (Nat → Nat → Nat) → Option (Nat → Nat → Nat)
  | 0, _, M => some M
  | d + 1, t, M => if piv n t M = n then none else gj n d (t + 1) (stp t (piv n t M) M)
/-- A beside the identity -/
def aug (n : Nat) (A : Nat → Nat → Nat) (i j : Nat) : Nat := if j < n then A i j else one i (j - n)
theorem fst_spec (f : Nat → Nat) (d : Nat) : ∀ t, t ≤ fst f d t ∧ fst f d t ≤ t + d ∧ (∀ i, t ≤ i → i < fst f d t → f i = 0) ∧ (fst f d t < t + d → f (fst f d t) ≠ 0) := by
  induction d with
  | zero => intro t; exact ⟨Nat.le_refl _, Nat.le_refl _, fun i h1 h2 => absurd h2 (Nat.not_lt.2 h1), fun h => absurd h (Nat.lt_irrefl _)⟩
  | succ d ih =>
    intro t
    show t ≤ (if f t = 0 then fst f d (t + 1) else t) ∧ (if f t = 0 then fst f d (t + 1) else t) ≤ t + (d + 1) ∧ (∀ i, t ≤ i → i < (if f t = 0 then fst f d (t + 1) else t) → f i = 0) ∧ ((if f t = 0 then fst f d (t + 1) else t) < t + (d + 1) → f (if f t = 0 then fst f d (t + 1) else t) ≠ 0)
    by_cases h : f t = 0
    · simp only [if_pos h]
      obtain ⟨h1, h2, h3, h4⟩ := ih (t + 1)
      refine ⟨by omega, by omega, fun i hi hlt => ?_, fun hlt => h4 (by omega)⟩
      by_cases e : i = t
      · rw [e]; exact h
      · exact h3 i (by omega) hlt
    · simp only [if_neg h]
      exact ⟨Nat.le_refl _, by omega, fun i h1 h2 => absurd h2 (Nat.not_lt.2 h1), fun _ => h⟩
/-- the first place, from its marks -/
theorem fst_eq (f : Nat → Nat) (d : Nat) : ∀ t p, t ≤ p → p ≤ t + d → (∀ i, t ≤ i → i < p → f i = 0) → (p < t + d → f p ≠ 0) → fst f d t = p := by
  intro t p h1 h2 h3 h4
  obtain ⟨k1, k2, k3, k4⟩ := fst_spec f d t
  rcases Nat.lt_trichotomy (fst f d t) p with h | h | h
  · exact absurd (h3 _ k1 h) (k4 (by omega))
  · exact h
  · exact absurd (k3 _ h1 h) (h4 (by omega))
theorem piv_spec {n t : Nat} (M : Nat → Nat → Nat) (h : t ≤ n) : t ≤ piv n t M ∧ piv n t M ≤ n ∧ (∀ i, t ≤ i → i < piv n t M → M i t = 0) ∧ (piv n t M < n → M (piv n t M) t ≠ 0) := by
  have := fst_spec (fun i => M i t) (n - t) t
  rw [show t + (n - t) = n by omega] at this
  exact this
theorem piv_eq {n t p : Nat} {M : Nat → Nat → Nat} (h1 : t ≤ p) (h2 : p ≤ n) (h3 : ∀ i, t ≤ i → i < p → M i t = 0) (h4 : p < n → M p t ≠ 0) : piv n t M = p :=
  fst_eq _ _ _ _ h1 (by omega) h3 fun h => h4 (by omega)
theorem sw_lt {a b n i : Nat} (ha : a < n) (hb : b < n) (hi : i < n) : sw a b i < n := by
  unfold sw
  split
  · exact hb
  · split
    · exact ha
    · exact hi
theorem sw_sw (a b i : Nat) : sw a b (sw a b i) = i := by
  unfold sw
  by_cases h1 : i = a
  · subst h1
    by_cases h2 : b = i
    · subst h2; simp
    · simp [h2]
  · by_cases h2 : i = b
    · subst h2; simp [h1]
    · simp [h1, h2]
theorem sw_left (a b : Nat) : sw a b a = b := by unfold sw; rw [if_pos rfl]

/-! ### what every step keeps -/
/-- row i's sum with z -/
def rv (m : Nat) (M : Nat → Nat → Nat) (z : Nat → Nat) (i : Nat) : Nat := sum (fun j => GF.mul (M i j) (z j)) m
/-- z is sent to 0 by each row -/
def Sol (n m : Nat) (M : Nat → Nat → Nat) (z : Nat → Nat) : Prop := ∀ i, i < n → rv m M z i = 0
theorem rv_lt {n m : Nat} {M : Nat → Nat → Nat} (h : Bytes n m M) (z : Nat → Nat) (i : Nat) (hi : i < n) : rv m M z i < 256 := sum_lt _ _ fun j hj => GF.mul_lt _ _ (h i hi j hj)
theorem sw_bytes {n m t p : Nat} {M : Nat → Nat → Nat} (h : Bytes n m M) (ht : t < n) (hp : p < n) : Bytes n m (fun i => M (sw t p i)) := fun _ hi j hj => h _ (sw_lt ht hp hi) j hj
theorem scl_bytes {n m t : Nat} {M : Nat → Nat → Nat} (h : Bytes n m M) (ht : t < n) : Bytes n m (scl t M) := fun i hi j hj => by
  unfold scl
  split
  · exact GF.mul_lt _ _ (h t ht j hj)
  · exact h i hi j hj
theorem cl_bytes {n m t : Nat} {M : Nat → Nat → Nat} (h : Bytes n m M) (_ht : t < n) (htm : t < m) : Bytes n m (cl t M) := fun i hi j hj => by
  unfold cl
  split
  · exact h i hi j hj
  · exact GF.xor_lt (h i hi j hj) (GF.mul_lt _ _ (h i hi t htm))
theorem stp_bytes {n m t p : Nat} {M : Nat → Nat → Nat} (h : Bytes n m M) (ht : t < n) (htm : t < m) (hp : p < n) : Bytes n m (stp t p M) := cl_bytes (scl_bytes (sw_bytes h ht hp) ht) ht htm
theorem sw_sol {n m t p : Nat} {M : Nat → Nat → Nat} (z : Nat → Nat) (ht : t < n) (hp : p < n) : Sol n m (fun i => M (sw t p i)) z ↔ Sol n m M z := by
  constructor
  · intro h i hi
    have := h _ (sw_lt ht hp hi)
    unfold rv at this ⊢
    simpa only [sw_sw] using this
  · intro h i hi
    exact h _ (sw_lt ht hp hi)
theorem scl_rv {n m t : Nat} {M : Nat → Nat → Nat} (z : Nat → Nat) (h : Bytes n m M) (hz : ∀ j, j < m → z j < 256) (ht : t < n) (htm : t < m) : rv m (scl t M) z t = GF.mul (GF.inv (M t t)) (rv m M z t) := by
  have hI := GF.inv_lt _ (h t ht t htm)
  unfold rv
  rw [sum_mul _ _ _ hI]
  refine sum_congr fun j hj => ?_
  unfold scl
  rw [if_pos rfl, GF.mul_comm (h t ht j hj) hI, GF.mul_assoc hI (h t ht j hj) (hz j hj)]
theorem scl_other (m : Nat) {t i : Nat} {M : Nat → Nat → Nat} (z : Nat → Nat) (hi : i ≠ t) : rv m (scl t M) z i = rv m M z i := by
  unfold rv
  refine sum_congr fun j _ => ?_
  unfold scl
  rw [if_neg hi]
theorem scl_sol {n m t : Nat} {M : Nat → Nat → Nat} (z : Nat → Nat) (h : Bytes n m M) (hz : ∀ j, j < m → z j < 256) (ht : t < n) (htm : t < m) (h0 : M t t ≠ 0) : Sol n m (scl t M) z ↔ Sol n m M z := by
  have hb := h t ht t htm
  constructor
  · intro hs i hi
    by_cases e : i = t
    · subst e
      have := hs i hi
      rw [scl_rv z h hz hi htm] at this
      rcases (GF.mul_eq_zero (GF.inv_lt _ hb) (rv_lt h z i hi)).1 this with k | k
      · exact absurd k (GF.inv_ne hb h0)
      · exact k
    · rw [← scl_other m z e]; exact hs i hi
  · intro hs i hi
    by_cases e : i = t
    · subst e
      rw [scl_rv z h hz hi htm, hs i hi]
      exact GF.mul_zero _ (GF.inv_lt _ hb)
    · rw [scl_other m z e]; exact hs i hi
theorem cl_rv {n m t i : Nat} {M : Nat → Nat → Nat} (z : Nat → Nat) (h : Bytes n m M) (hz : ∀ j, j < m → z j < 256) (ht : t < n) (htm : t < m) (hi : i < n) (e : i ≠ t) : rv m (cl t M) z i = rv m M z i ^^^ GF.mul (M i t) (rv m M z t) := by
  have hb := h i hi t htm
  unfold rv
  rw [sum_mul _ _ _ hb, ← sum_xor]
  refine sum_congr fun j hj => ?_
  unfold cl
  rw [if_neg e, GF.add_mul (h i hi j hj) (GF.mul_lt _ _ hb) (hz j hj), GF.mul_assoc hb (h t ht j hj) (hz j hj)]
theorem cl_same (m t : Nat) (M : Nat → Nat → Nat) (z : Nat → Nat) : rv m (cl t M) z t = rv m M z t := by
  unfold rv
  refine sum_congr fun j _ => ?_
  unfold cl
  rw [if_pos rfl]
theorem cl_sol {n m t : Nat} {M : Nat → Nat → Nat} (z : Nat → Nat) (h : Bytes n m M) (hz : ∀ j, j < m → z j < 256) (ht : t < n) (htm : t < m) : Sol n m (cl t M) z ↔ Sol n m M z := by
  constructor
  · intro hs
    have h0 := hs t ht
    rw [cl_same] at h0
    intro i hi
    by_cases e : i = t
    · rw [e]; exact h0
    · have := hs i hi
      rw [cl_rv z h hz ht htm hi e, h0, GF.mul_zero _ (h i hi t htm), Nat.xor_zero] at this
      exact this
  · intro hs i hi
    by_cases e : i = t
    · subst e
      rw [cl_same]; exact hs i hi
    · rw [cl_rv z h hz ht htm hi e, hs i hi, hs t ht, GF.mul_zero _ (h i hi t htm)]; rfl
theorem stp_sol {n m t p : Nat} {M : Nat → Nat → Nat} (z : Nat → Nat) (h : Bytes n m M) (hz : ∀ j, j < m → z j < 256) (ht : t < n) (htm : t < m) (hp : p < n) (h0 : M p t ≠ 0) : Sol n m (stp t p M) z ↔ Sol n m M z := by
  unfold stp
  rw [cl_sol z (scl_bytes (sw_bytes h ht hp) ht) hz ht htm, scl_sol z (sw_bytes h ht hp) hz ht htm (by simpa only [sw_left] using h0), sw_sol z ht hp]
/-- the first t columns are the identity's -/
def Left (n t : Nat) (M : Nat → Nat → Nat) : Prop := ∀ i, i < n → ∀ c, c < t → M i c = one i c
theorem stp_left {n m t p : Nat} {M : Nat → Nat → Nat} (h : Bytes n m M) (hl : Left n t M) (ht : t < n) (htm : t < m) (htp : t ≤ p) (hp : p < n) (h0 : M p t ≠ 0) : Left n (t + 1) (stp t p M) := by
  have hs : Left n t (fun i => M (sw t p i)) := fun i hi c hc => by
    show M (sw t p i) c = one i c
    rw [hl _ (sw_lt ht hp hi) c hc]
    unfold one sw
    by_cases e1 : i = t
    · subst e1
      rw [if_pos rfl, if_neg (by omega), if_neg (by omega)]
    · rw [if_neg e1]
      by_cases e2 : i = p
      · rw [if_pos e2, if_neg (by omega), if_neg (by omega)]
      · rw [if_neg e2]
  have hb := sw_bytes h ht hp
  have h0' : (fun i => M (sw t p i)) t t ≠ 0 := by simpa only [sw_left] using h0
  generalize hN : (fun i => M (sw t p i)) = N at hs hb h0'
  have e : stp t p M = cl t (scl t N) := by unfold stp; rw [hN]
  rw [e]
  have hbt := hb t ht t htm
  have hI := GF.inv_lt _ hbt
  have r1 : scl t N t t = 1 := by unfold scl; rw [if_pos rfl, GF.mul_inv hbt h0']
  have r2 : ∀ c, c < t → scl t N t c = 0 := fun c hc => by
    unfold scl
    rw [if_pos rfl, hs t ht c hc, one, if_neg (by omega), GF.zero_mul _ hI]
  intro i hi c hc
  unfold cl
  by_cases ei : i = t
  · rw [if_pos ei, ei]
    by_cases ec : c = t
    · rw [ec, r1]; simp [one]
    · rw [r2 c (by omega), one, if_neg (by omega)]
  · rw [if_neg ei]
    have hu : ∀ j, scl t N i j = N i j := fun j => by unfold scl; rw [if_neg ei]
    by_cases ec : c = t
    · rw [ec, r1, GF.mul_one _ (by rw [hu]; exact hb i hi t htm), Nat.xor_self, one, if_neg ei]
    · rw [r2 c (by omega), GF.mul_zero _ (by rw [hu]; exact hb i hi t htm), Nat.xor_zero, hu]
      exact hs i hi c (by omega)
/-- what comes out -/
theorem gj_some {n m : Nat} (hm : n ≤ m) (d : Nat) : ∀ t M N, t + d = n → Bytes n m M → Left n t M → gj n d t M = some N → Bytes n m N ∧ Left n n N ∧ ∀ z : Nat → Nat, (∀ j, j < m → z j < 256) → (Sol n m N z ↔ Sol n m M z) := by
  induction d with
  | zero =>
    intro t M N e hb hl h
    have : M = N := Option.some.inj h
    subst this
    exact ⟨hb, by rw [show n = t by omega] at hl ⊢; exact hl, fun z _ => Iff.rfl⟩
  | succ d ih =>
    intro t M N e hb hl h
    obtain ⟨p1, p2, p3, p4⟩ := piv_spec M (show t ≤ n by omega)
    unfold gj at h
    by_cases hp : piv n t M = n
    · rw [if_pos hp] at h; exact absurd h (by simp)
    · rw [if_neg hp] at h
      have h0 := p4 (by omega)
      obtain ⟨k1, k2, k3⟩ := ih (t + 1) _ N (by omega) (stp_bytes hb (by omega) (by omega) (by omega)) (stp_left hb hl (by omega) (by omega) p1 (by omega) h0) h
      exact ⟨k1, k2, fun z hz => (k3 z hz).trans (stp_sol z hb hz (by omega) (by omega) (by omega) h0)⟩
/-- what is sent to 0 where no pivot is -/
theorem stuck {n m t : Nat} {M : Nat → Nat → Nat} (hm : n ≤ m) (hb : Bytes n m M) (hl : Left n t M) (ht : t < n) (h0 : ∀ i, t ≤ i → i < n → M i t = 0) : Sol n m M (fun j => if j = t then 1 else if j < t then M j t else 0) := by
  intro i hi
  unfold rv
  have e : ∀ j, j < m → GF.mul (M i j) (if j = t then 1 else if j < t then M j t else 0) = (if j = i ∧ i < t then M i t else 0) ^^^ (if j = t then M i t else 0) := by
    intro j hj
    by_cases e1 : j = t
    · subst e1
      rw [if_pos rfl, if_pos rfl, if_neg (by omega), Nat.zero_xor, GF.mul_one _ (hb i hi j hj)]
    · rw [if_neg e1, if_neg e1, Nat.xor_zero]
      by_cases e2 : j < t
      · rw [if_pos e2, hl i hi j e2]
        unfold one
        by_cases e3 : i = j
        · subst e3
          rw [if_pos rfl, if_pos ⟨rfl, e2⟩, GF.one_mul (hb i hi t (by omega))]
        · rw [if_neg e3, if_neg (fun k => e3 k.1.symm), GF.zero_mul _ (hb j (by omega) t (by omega))]
      · rw [if_neg e2, if_neg (by omega), GF.mul_zero _ (hb i hi j hj)]
  rw [sum_congr e, sum_xor, sum_one (fun j => if j = t then M i t else 0) m t (by omega) fun j _ hne => if_neg hne, if_pos rfl]
  by_cases hit : i < t
  · rw [sum_one _ m i (by omega) fun j _ hne => if_neg (fun k => hne k.1), if_pos ⟨rfl, hit⟩, Nat.xor_self]
  · rw [sum_none fun j _ => if_neg (fun k => hit k.2), h0 i (by omega) hi]; rfl
theorem gj_none {n m : Nat} (hm : n ≤ m) (d : Nat) : ∀ t M, t + d = n → Bytes n m M → Left n t M → gj n d t M = none → ∃ z : Nat → Nat, (∀ j, z j < 256) ∧ (∀ j, n ≤ j → z j = 0) ∧ (∃ j, j < n ∧ z j ≠ 0) ∧ Sol n m M z := by
  induction d with
  | zero => intro t M e hb hl h; exact absurd h (by simp [gj])
  | succ d ih =>
    intro t M e hb hl h
    obtain ⟨p1, p2, p3, p4⟩ := piv_spec M (show t ≤ n by omega)
    unfold gj at h
    by_cases hp : piv n t M = n
    · rw [hp] at p3
      refine ⟨_, fun j => ?_, fun j hj => ?_, ⟨t, by omega, ?_⟩, stuck hm hb hl (by omega) p3⟩
      · show (if j = t then 1 else if j < t then M j t else 0) < 256
        split
        · omega
        · split
          · exact hb j (by omega) t (by omega)
          · omega
      · show (if j = t then 1 else if j < t then M j t else 0) = 0
        rw [if_neg (by omega), if_neg (by omega)]
      · show (if t = t then 1 else _) ≠ 0
        rw [if_pos rfl]; omega
    · rw [if_neg hp] at h
      have h0 := p4 (by omega)
      obtain ⟨z, z1, z2, z3, z4⟩ := ih (t + 1) _ (by omega) (stp_bytes hb (by omega) (by omega) (by omega)) (stp_left hb hl (by omega) (by omega) p1 (by omega) h0) h
      exact ⟨z, z1, z2, z3, (stp_sol z hb (fun j _ => z1 j) (by omega) (by omega) (by omega) h0).1 z4⟩
end LA
end Go.Proofs.Ytlpmehnffdaobaa
