/- The document's product of two bytes, the polynomials' product and then its rest, is GF's: by the rest 'rd' of a number below 2^16. -/
import Derived.Test.YtlpmehnffdaobaaGf
namespace GF
/-- the rest of a polynomial of 16 bits -/
def rd (p : Nat) : Nat := mulAux 16 1 p
theorem rd_add (p q : Nat) : rd (p ^^^ q) = rd p ^^^ rd q := mulAux_add 16 1 p q
theorem mulAux_xt (k : Nat) : ∀ x y, x < 256 → mulAux k (xt x) y = xt (mulAux k x y) := by
  induction k with
  | zero => intro x y _; exact (by decide : 0 = xt 0)
  | succ k ih =>
    intro x y hx
    show (y % 2 * xt x) ^^^ mulAux k (xt (xt x)) (y / 2) = xt ((y % 2 * x) ^^^ mulAux k (xt x) (y / 2))
    have hb : y % 2 * x < 256 := by rcases Nat.mod_two_eq_zero_or_one y with h | h <;> rw [h] <;> omega
    rw [xt_add hb (mulAux_lt k _ _ (xt_lt x hx)), ih (xt x) (y / 2) (xt_lt x hx)]
    congr 1
    rcases Nat.mod_two_eq_zero_or_one y with h | h <;> rw [h]
    · rw [Nat.zero_mul, Nat.zero_mul]; decide
    · rw [Nat.one_mul, Nat.one_mul]
theorem mulAux_less (k : Nat) : ∀ x y, y < 2 ^ k → mulAux (k + 1) x y = mulAux k x y := by
  induction k with
  | zero =>
    intro x y h
    have : y = 0 := by simpa using h
    subst this
    show (0 % 2 * x) ^^^ 0 = 0
    simp
  | succ k ih =>
    intro x y h
    show (y % 2 * x) ^^^ mulAux (k + 1) (xt x) (y / 2) = (y % 2 * x) ^^^ mulAux k (xt x) (y / 2)
    rw [ih (xt x) (y / 2) (by rw [Nat.pow_succ] at h; omega)]
theorem rd_two (a : Nat) (h : a < 32768) : rd (a * 2) = xt (rd a) := by
  unfold rd
  rw [← mulAux_xt 16 1 a (by omega), mulAux_less 15 (xt 1) a h]
  show (a * 2 % 2 * 1) ^^^ mulAux 15 (xt 1) (a * 2 / 2) = _
  rw [show a * 2 % 2 = 0 by omega, show a * 2 / 2 = a by omega]
  simp
theorem rd_small : ∀ p, p < 256 → rd p = p := by decide +kernel
theorem rd_poly : ∀ j, j < 8 → rd (285 * 2 ^ j) = 0 := by decide +kernel
theorem xor_top (n a b : Nat) (ha : 2 ^ n ≤ a) (ha' : a < 2 ^ (n + 1)) (hb : 2 ^ n ≤ b) (hb' : b < 2 ^ (n + 1)) : a ^^^ b < 2 ^ n := by
  have h : (a ^^^ b) / 2 ^ n = 0 := by
    rw [Nat.xor_div_two_pow]
    have e1 : a / 2 ^ n = 1 := by
      apply Nat.div_eq_of_lt_le
      · omega
      · rw [Nat.pow_succ] at ha'; omega
    have e2 : b / 2 ^ n = 1 := by
      apply Nat.div_eq_of_lt_le
      · omega
      · rw [Nat.pow_succ] at hb'; omega
    rw [e1, e2]; rfl
  have hp : 0 < 2 ^ n := Nat.two_pow_pos n
  rcases Nat.div_eq_zero_iff.1 h with h | h
  · omega
  · exact h
/-- a round of the rest -/
theorem rest_step (p j : Nat) (hj : j < 8) (hp : p < 2 ^ (9 + j)) (hk : 2 ^ j ≤ p / 256) : p ^^^ 285 * 2 ^ j < 2 ^ (8 + j) ∧ rd (p ^^^ 285 * 2 ^ j) = rd p := by
  refine ⟨?_, by rw [rd_add, rd_poly j hj, Nat.xor_zero]⟩
  have h8 : 2 ^ (8 + j) = 256 * 2 ^ j := by rw [Nat.pow_add]
  have h9 : 2 ^ (8 + j + 1) = 512 * 2 ^ j := by rw [Nat.pow_succ, h8]; omega
  have hp0 : 0 < 2 ^ j := Nat.two_pow_pos j
  refine xor_top (8 + j) _ _ ?_ ?_ ?_ ?_
  · rw [h8]; omega
  · rw [show 8 + j + 1 = 9 + j by omega]; exact hp
  · rw [h8]; omega
  · rw [h9]; omega
theorem rest_skip (p j : Nat) (hk : ¬ 2 ^ j ≤ p / 256) : p < 2 ^ (8 + j) := by
  have h8 : 2 ^ (8 + j) = 256 * 2 ^ j := by rw [Nat.pow_add]
  rw [h8]; omega
/-- a round of the product -/
theorem prod_step (p a b k X Y : Nat) (ha : a < 32768) (hp : p < 65536) (h : rd p ^^^ mulAux (k + 1) (rd a) b = mul X Y) :
    (if b % 2 = 1 then p ^^^ a else p) < 65536 ∧ rd (if b % 2 = 1 then p ^^^ a else p) ^^^ mulAux k (rd (a * 2)) (b / 2) = mul X Y := by
  have hs : mulAux (k + 1) (rd a) b = (b % 2 * rd a) ^^^ mulAux k (xt (rd a)) (b / 2) := rfl
  rw [hs, ← Nat.xor_assoc] at h
  rw [rd_two a ha]
  split
  · rename_i hb
    rw [hb, Nat.one_mul] at h
    exact ⟨Nat.xor_lt_two_pow (n := 16) hp (by omega), by rw [rd_add]; exact h⟩
  · rename_i hb
    rw [show b % 2 = 0 by omega, Nat.zero_mul, Nat.xor_zero] at h
    exact ⟨hp, h⟩
theorem prod_start (X Y : Nat) (hX : X < 256) : rd 0 ^^^ mulAux 8 (rd X) Y = mul X Y := by
  rw [rd_small 0 (by omega), rd_small X hX, Nat.zero_xor]; rfl
theorem mulAux_zero (k : Nat) : ∀ x, mulAux k x 0 = 0 := by
  induction k with
  | zero => intro x; rfl
  | succ k ih =>
    intro x
    show (0 % 2 * x) ^^^ mulAux k (xt x) (0 / 2) = 0
    rw [ih]; simp
end GF
