/- The bits of a whole number's double word: its exponent, its fraction, its sign; 'Is b n': the word b is the whole number n. -/
import Derived.Test.YtgealgjmplmmoaaFl
import Derived.Laws.BitsAllLaws
import Derived.Laws.Bits64b
import Derived.Laws.ComplexArith
namespace FL
open Ieee Go

/-- the significand of N, 53 bits -/
def sig (N : Nat) : Nat := N * 2 ^ (52 - N.log2)
theorem wd_false {N : Nat} (h : N ≠ 0) : wd false N = (N.log2 + 1022) * 4503599627370496 + sig N := by
  unfold wd sig Format.word
  rw [if_neg h, if_neg (by decide)]
theorem wd_zero : wd false 0 = 0 := rfl
theorem wd_true (N : Nat) : wd true N = 9223372036854775808 + wd false N := by
  unfold wd Format.word
  rw [sgW]
  simp only [if_true, Bool.false_eq_true, if_false]
theorem wd_false_lt (N : Nat) (hN : N < 9007199254740992) : wd false N < 9218868437227405312 := by
  by_cases h : N = 0
  · subst h; rw [wd_zero]; omega
  · have hl := log2_le h hN
    have hs := sig_bounds h hN
    rw [wd_false h]; unfold sig; omega
theorem wd_lt (s : Bool) (N : Nat) (hN : N < 9007199254740992) : wd s N < 18446744073709551616 := by
  have := wd_false_lt N hN
  cases s
  · omega
  · rw [wd_true]; omega
theorem abs_wd (s : Bool) (N : Nat) (hN : N < 9007199254740992) : bits .andNot .u64 ((wd s N : Nat) : Int) 9223372036854775808 = ((wd false N : Nat) : Int) := by
  have h1 := wd_lt s N hN
  have h2 := wd_false_lt N hN
  rw [show (9223372036854775808 : Int) = ((9223372036854775808 : Nat) : Int) from rfl, u64_andNot_nat _ _ h1 (by omega)]
  have e := Nat.and_two_pow_sub_one_eq_mod (wd s N) 63
  have e2 : (2 ^ 63 - 1 : Nat) = 18446744073709551615 - 9223372036854775808 := by decide
  rw [e2] at e
  rw [e]
  cases s
  · omega
  · rw [wd_true]; omega
theorem neg_wd (s : Bool) (N : Nat) (hN : N < 9007199254740992) : wd s N ^^^ 2 ^ (double.exponentBits + double.fractionBits) = wd (!s) N := by
  have h2 := wd_false_lt N hN
  have e : (2 ^ (double.exponentBits + double.fractionBits) : Nat) = 2 ^ 63 := rfl
  rw [e]
  have hx : wd false N ^^^ 2 ^ 63 = wd true N := by
    rw [wd_true]
    have h := Nat.two_pow_add_eq_or_of_lt (i := 63) (b := wd false N) (by omega) 1
    rw [Nat.mul_one] at h
    rw [show (9223372036854775808 : Nat) = 2 ^ 63 from rfl, h]
    apply Nat.eq_of_testBit_eq
    intro j
    rw [Nat.testBit_xor, Nat.testBit_or, Nat.testBit_two_pow]
    by_cases hj : 63 = j
    · subst hj
      rw [Nat.testBit_lt_two_pow (by omega : wd false N < 2 ^ 63)]
      simp
    · simp [hj]
  cases s
  · exact hx
  · show wd true N ^^^ 2 ^ 63 = wd false N
    rw [← hx, Nat.xor_assoc, Nat.xor_self, Nat.xor_zero]
theorem exp_wd {N : Nat} (h : N ≠ 0) (hN : N < 9007199254740992) : wd false N / 4503599627370496 = N.log2 + 1023 := by
  have hs := sig_bounds h hN
  rw [wd_false h]; unfold sig; omega
theorem frac_wd {N : Nat} (h : N ≠ 0) (hN : N < 9007199254740992) : wd false N % 4503599627370496 = sig N - 4503599627370496 := by
  have hs := sig_bounds h hN
  rw [wd_false h]; unfold sig; omega
theorem mask_exp (E : Nat) (h : E < 2048) : bits .and .u64 ((E : Nat) : Int) 2047 = (E : Int) := by
  rw [show (2047 : Int) = ((2047 : Nat) : Int) from rfl, bits_and_u64_nat _ _ (by omega) (by omega)]
  have e := Nat.and_two_pow_sub_one_eq_mod E 11
  rw [show (2 ^ 11 - 1 : Nat) = 2047 by decide] at e
  rw [e]; omega
theorem clear_exp (x : Nat) (h : x < 9223372036854775808) : bits .andNot .u64 (x : Int) 9218868437227405312 = ((x % 4503599627370496 : Nat) : Int) := by
  rw [show (9218868437227405312 : Int) = ((9218868437227405312 : Nat) : Int) from rfl, u64_andNot_nat _ _ (by omega) (by omega)]
  have e : (18446744073709551615 - 9218868437227405312 : Nat) = 2 ^ 63 ||| (2 ^ 52 - 1) := by decide
  have z : x &&& 2 ^ 63 = 0 := by
    apply Nat.eq_of_testBit_eq
    intro j
    rw [Nat.testBit_and, Nat.testBit_two_pow, Nat.zero_testBit]
    by_cases hj : 63 = j
    · subst hj
      rw [Nat.testBit_lt_two_pow (by omega : x < 2 ^ 63)]
      rfl
    · simp [hj]
  rw [e, Nat.and_or_distrib_left, Nat.and_two_pow_sub_one_eq_mod, z, Nat.zero_or]
theorem set_exp (f E : Nat) (h : f < 4503599627370496) (hE : E < 2048) : bits .or .u64 (f : Int) ((E * 4503599627370496 : Nat) : Int) = ((E * 4503599627370496 + f : Nat) : Int) := by
  rw [bits_or_u64_nat _ _ (by omega) (by omega)]
  have e := Nat.two_pow_add_eq_or_of_lt (i := 52) (b := f) (by omega) E
  rw [show (2 ^ 52 : Nat) = 4503599627370496 by decide] at e
  rw [Nat.or_comm, Nat.mul_comm E, ← e]
/-- the fraction that Frexp hands back: in [1/2, 1) -/
def fr (N : Nat) : Nat := 1022 * 4503599627370496 + (sig N - 4503599627370496)
theorem read_fr {N : Nat} (h : N ≠ 0) (hN : N < 9007199254740992) : double.read (fr N) = .number false (sig N) (-53) := by
  have hs := sig_bounds h hN
  unfold fr sig
  generalize N * 2 ^ (52 - N.log2) = M at *
  unfold Format.read
  rw [bin, infR, sgW, lp]
  have e1 : (1022 * 4503599627370496 + (M - 4503599627370496)) % 9223372036854775808 = 1022 * 4503599627370496 + (M - 4503599627370496) := by omega
  have e2 : ((1022 * 4503599627370496 + (M - 4503599627370496)) / 9223372036854775808 % 2 == 1) = false := by rw [beq_eq_false_iff_ne]; omega
  have e3 : 4503599627370496 + (1022 * 4503599627370496 + (M - 4503599627370496)) % 4503599627370496 = M := by omega
  have e4 : (-1074 : Int) + (((1022 * 4503599627370496 + (M - 4503599627370496)) / 4503599627370496 - 1 : Nat) : Int) = -53 := by omega
  simp only [e1, e2, e3, e4]
  rw [if_neg (by omega), if_pos (by omega)]
theorem order_fr {N K : Nat} (h : N ≠ 0) (hN : N < 9007199254740992) (hk : K ≠ 0) (hK : K < 9007199254740992) :
    double.order (fr N) (fr K) = some (compare ((sig N : Nat) : Int) ((sig K : Nat) : Int)) := by
  unfold Format.order
  rw [read_fr h hN, read_fr hk hK]
  unfold Datum.order signed
  simp
/-- no whole number below 2^53 is above the greatest double -/
theorem order_max (N : Nat) (hN : N < 9007199254740992) : (double.order (wd false N) 9218868437227405311 == some .gt) = false := by
  obtain ⟨a, ha⟩ := read_wd false N hN
  have hr : double.read 9218868437227405311 = .number false 9007199254740991 971 := by decide +kernel
  unfold Format.order
  rw [ha, hr]
  unfold Datum.order
  have hm : min (-(a : Int)) 971 = -(a : Int) := by omega
  have ea : (-(a : Int) - -(a : Int)).toNat = 0 := by omega
  have eb : (971 - -(a : Int)).toNat = 971 + a := by omega
  simp only [hm, ea, eb]
  unfold signed
  simp only [Bool.false_eq_true, if_false, Nat.shiftLeft_eq]
  have h1 : N * 2 ^ a * 2 ^ 0 ≤ 9007199254740991 * 2 ^ (971 + a) := by
    rw [Nat.pow_zero, Nat.mul_one]
    exact Nat.mul_le_mul (by omega) (Nat.pow_le_pow_right (by omega) (by omega))
  generalize N * 2 ^ a * 2 ^ 0 = u at *
  generalize 9007199254740991 * 2 ^ (971 + a) = v at *
  have hc : compare (u : Int) (v : Int) ≠ .gt := by
    show compareOfLessAndEq _ _ ≠ _
    unfold compareOfLessAndEq
    split
    · decide
    · split
      · decide
      · omega
  rw [beq_eq_false_iff_ne]
  intro e
  exact hc (Option.some.inj e)
/-- no whole number but 0 is subnormal -/
theorem order_norm (N : Nat) (h : N ≠ 0) (hN : N < 9007199254740992) : (double.order (wd false N) 4503599627370496 == some .lt) = false := by
  obtain ⟨a, ha⟩ := read_wd false N hN
  have hr : double.read 4503599627370496 = .number false 4503599627370496 (-1074) := by decide +kernel
  obtain ⟨K, hK⟩ : ∃ K, K = max a 1074 := ⟨_, rfl⟩
  unfold Format.order
  rw [ha, hr]
  unfold Datum.order
  have hm : min (-(a : Int)) (-1074) = -(K : Int) := by omega
  have ea : (-(a : Int) - -(K : Int)).toNat = K - a := by omega
  have eb : (-1074 - -(K : Int)).toNat = K - 1074 := by omega
  simp only [hm, ea, eb]
  unfold signed
  simp only [Bool.false_eq_true, if_false, Nat.shiftLeft_eq]
  have h1 : 4503599627370496 * 2 ^ (K - 1074) ≤ N * 2 ^ a * 2 ^ (K - a) := by
    rw [Nat.mul_assoc, ← Nat.pow_add, show a + (K - a) = K by omega, show (4503599627370496 : Nat) = 2 ^ 52 by decide, ← Nat.pow_add]
    exact Nat.le_trans (Nat.pow_le_pow_right (by omega) (by omega : 52 + (K - 1074) ≤ K)) (Nat.le_mul_of_pos_left _ (by omega))
  generalize N * 2 ^ a * 2 ^ (K - a) = u at *
  generalize 4503599627370496 * 2 ^ (K - 1074) = v at *
  have hc : compare (u : Int) (v : Int) ≠ .lt := by
    show compareOfLessAndEq _ _ ≠ _
    unfold compareOfLessAndEq
    rw [if_neg (by omega)]
    split <;> decide
  rw [beq_eq_false_iff_ne]
  intro e
  exact hc (Option.some.inj e)
theorem compare_lt (u v : Int) : (some (compare u v) == some Ordering.lt) = decide (u < v) := by
  show (some (compareOfLessAndEq u v) == _) = _
  unfold compareOfLessAndEq
  by_cases h : u < v
  · rw [if_pos h, decide_eq_true h]; rfl
  · rw [if_neg h, decide_eq_false h]; split <;> rfl
theorem compare_eq (u v : Int) : (some (compare u v) == some Ordering.eq) = decide (u = v) := by
  show (some (compareOfLessAndEq u v) == _) = _
  unfold compareOfLessAndEq
  by_cases h : u < v
  · rw [if_pos h, decide_eq_false (by omega)]; rfl
  · rw [if_neg h]
    by_cases h2 : u = v
    · rw [if_pos h2, decide_eq_true h2]; rfl
    · rw [if_neg h2, decide_eq_false h2]; rfl
theorem compare_ge (u v : Int) : ((some (compare u v) == some Ordering.gt) || (some (compare u v) == some Ordering.eq)) = decide (v ≤ u) := by
  show ((some (compareOfLessAndEq u v) == _) || (some (compareOfLessAndEq u v) == _)) = _
  unfold compareOfLessAndEq
  by_cases h : u < v
  · rw [if_pos h, decide_eq_false (by omega)]; rfl
  · rw [if_neg h, decide_eq_true (by omega)]
    by_cases h2 : u = v
    · rw [if_pos h2]; rfl
    · rw [if_neg h2]; rfl
/-- Ldexp of 8191 -/
theorem log2_8191 (k : Nat) : (8191 * 2 ^ k).log2 = 12 + k := by
  rw [log2_shift (by omega)]; congr 1
theorem sig_8191 (k : Nat) (h : k ≤ 40) : sig (8191 * 2 ^ k) = 8191 * 1099511627776 := by
  unfold sig
  rw [log2_8191, Nat.mul_assoc, ← Nat.pow_add, show k + (52 - (12 + k)) = 40 by omega]
theorem lt_8191 (k : Nat) (h : k ≤ 40) : 8191 * 2 ^ k < 9007199254740992 := by
  have := Nat.pow_le_pow_right (show 0 < 2 by omega) h
  have e : (2 : Nat) ^ 40 = 1099511627776 := by decide
  omega
theorem wd_8191 (k : Nat) (h : k ≤ 40) : wd false (8191 * 2 ^ k) = (k + 1035) * 4503599627370496 + (8191 * 1099511627776 - 4503599627370496) := by
  have hp := Nat.two_pow_pos k
  rw [wd_false (by omega), sig_8191 k h, log2_8191]
  omega
/-- a step of the rest: how far 8191 goes up below R -/
theorem step_lo (R : Nat) (hR : 8191 ≤ R) (h : ¬ sig R < 8191 * 1099511627776) (hlt : R < 9007199254740992) : 12 ≤ R.log2 ∧ R.log2 ≤ 52 ∧ 8191 * 2 ^ (R.log2 - 12) ≤ R := by
  have h0 : R ≠ 0 := by omega
  have hl := log2_le h0 hlt
  have h12 : 12 ≤ R.log2 := (Nat.le_log2 h0).2 (by omega)
  refine ⟨h12, hl, ?_⟩
  unfold sig at h
  have e : 1099511627776 = 2 ^ (R.log2 - 12) * 2 ^ (52 - R.log2) := by
    rw [← Nat.pow_add, show R.log2 - 12 + (52 - R.log2) = 40 by omega]
  rw [e, ← Nat.mul_assoc] at h
  exact Nat.le_of_mul_le_mul_right (by omega) (Nat.two_pow_pos (52 - R.log2))
theorem step_hi (R : Nat) (hR : 8191 ≤ R) (h : sig R < 8191 * 1099511627776) (hlt : R < 9007199254740992) : 13 ≤ R.log2 ∧ R.log2 ≤ 52 ∧ 8191 * 2 ^ (R.log2 - 13) ≤ R := by
  have h0 : R ≠ 0 := by omega
  have hl := log2_le h0 hlt
  have hb := log2_bounds h0
  have h12 : 12 ≤ R.log2 := (Nat.le_log2 h0).2 (by omega)
  have h13 : 13 ≤ R.log2 := by
    rcases Nat.lt_or_ge 12 R.log2 with h' | h'
    · omega
    · have e12 : R.log2 = 12 := by omega
      rw [e12] at hb
      have hR1 : R = 8191 := by have := hb.2; omega
      subst hR1
      unfold sig at h
      rw [e12] at h
      omega
  refine ⟨h13, hl, ?_⟩
  have e : 2 ^ R.log2 = 8192 * 2 ^ (R.log2 - 13) := by
    rw [show (8192 : Nat) = 2 ^ 13 by decide, ← Nat.pow_add]; congr 1; omega
  have hp := Nat.two_pow_pos (R.log2 - 13)
  have := hb.1
  omega
theorem rest_mod (R T : Nat) (h : 8191 * T ≤ R) : (R - 8191 * T) % 8191 = R % 8191 := by
  have e : R = 8191 * T + (R - 8191 * T) := by omega
  conv => rhs; rw [e]
  rw [Nat.mul_add_mod]

/-- the word b is the whole number n -/
def Is (b : Nat) (n : Int) : Prop := n.natAbs < 9007199254740992 ∧ ∃ s, b = wd s n.natAbs ∧ V s n.natAbs = n
theorem Is.mk' (s : Bool) (N : Nat) (h : N < 9007199254740992) : Is (wd s N) (V s N) := ⟨by rw [V_natAbs]; exact h, s, by rw [V_natAbs], by rw [V_natAbs]⟩
theorem is_int (n : Int) (h : n.natAbs < 9007199254740992) : Is (floatOfInt .f64 n) n := by
  refine ⟨h, decide (n < 0), ?_, ?_⟩
  · have := near (decide (n < 0)) n.natAbs 0 h
    rw [Nat.pow_zero, Nat.mul_one] at this
    exact this
  · unfold V
    by_cases hn : n < 0
    · rw [decide_eq_true hn, if_pos rfl]; omega
    · rw [decide_eq_false hn, if_neg (by decide)]; omega
theorem is_add {x y : Nat} {m n : Int} (hx : Is x m) (hy : Is y n) (h : (m + n).natAbs < 9007199254740992) : ∃ r, floatBits .add .f64 x y = some r ∧ Is r (m + n) := by
  obtain ⟨hm, s, rfl, es⟩ := hx
  obtain ⟨hn, t, rfl, et⟩ := hy
  have := add_wd s t m.natAbs n.natAbs hm hn (by rw [es, et]; exact h)
  rw [es, et] at this
  exact ⟨_, this, h, _, rfl, V_sg s t (m + n)⟩
theorem V_not (t : Bool) (N : Nat) : V (!t) N = -V t N := by cases t <;> simp [V]
theorem is_sub {x y : Nat} {m n : Int} (hx : Is x m) (hy : Is y n) (h : (m - n).natAbs < 9007199254740992) : ∃ r, floatBits .sub .f64 x y = some r ∧ Is r (m - n) := by
  obtain ⟨hm, s, rfl, es⟩ := hx
  obtain ⟨hn, t, rfl, et⟩ := hy
  have e : V s m.natAbs + V (!t) n.natAbs = m - n := by rw [V_not, es, et]; omega
  have := sub_wd s t m.natAbs n.natAbs hm hn (by rw [e]; exact h)
  rw [e] at this
  exact ⟨_, this, h, _, rfl, V_sg s (!t) (m - n)⟩
theorem V_mul (s t : Bool) (M N : Nat) : V (s ^^ t) (M * N) = V s M * V t N := by
  cases s <;> cases t <;> simp [V, Int.neg_mul, Int.mul_neg]
theorem is_mul {x y : Nat} {m n : Int} (hx : Is x m) (hy : Is y n) (h : (m * n).natAbs < 9007199254740992) : ∃ r, floatBits .mul .f64 x y = some r ∧ Is r (m * n) := by
  obtain ⟨hm, s, rfl, es⟩ := hx
  obtain ⟨hn, t, rfl, et⟩ := hy
  have h' : m.natAbs * n.natAbs < 9007199254740992 := by rw [← Int.natAbs_mul]; exact h
  refine ⟨_, mul_wd s t m.natAbs n.natAbs hm hn h', h, s ^^ t, by rw [Int.natAbs_mul], ?_⟩
  rw [Int.natAbs_mul, V_mul, es, et]
/-- complex sums, differences and products of whole parts -/
theorem is_csum {a b c d : Nat} {p q u v : Int} (ha : Is a p) (hb : Is b q) (hc : Is c u) (hd : Is d v) (h1 : (p + u).natAbs < 9007199254740992) (h2 : (q + v).natAbs < 9007199254740992) :
    ∃ re im, cSumBits .add .f64 a b c d = some (re, im) ∧ Is re (p + u) ∧ Is im (q + v) := by
  obtain ⟨re, e1, i1⟩ := is_add ha hc h1
  obtain ⟨im, e2, i2⟩ := is_add hb hd h2
  exact ⟨re, im, by simp [cSumBits, e1, e2], i1, i2⟩
theorem is_cdiff {a b c d : Nat} {p q u v : Int} (ha : Is a p) (hb : Is b q) (hc : Is c u) (hd : Is d v) (h1 : (p - u).natAbs < 9007199254740992) (h2 : (q - v).natAbs < 9007199254740992) :
    ∃ re im, cSumBits .sub .f64 a b c d = some (re, im) ∧ Is re (p - u) ∧ Is im (q - v) := by
  obtain ⟨re, e1, i1⟩ := is_sub ha hc h1
  obtain ⟨im, e2, i2⟩ := is_sub hb hd h2
  exact ⟨re, im, by simp [cSumBits, e1, e2], i1, i2⟩
theorem natAbs_mul_lt {m n : Int} (hm : m.natAbs ≤ 67108864) (hn : n.natAbs ≤ 16777216) : (m * n).natAbs ≤ 1125899906842624 := by
  rw [Int.natAbs_mul]
  exact Nat.le_trans (Nat.mul_le_mul hm hn) (by omega)
theorem is_cmul {a b c d : Nat} {p q u v : Int} (ha : Is a p) (hb : Is b q) (hc : Is c u) (hd : Is d v) (hp : p.natAbs ≤ 67108864) (hq : q.natAbs ≤ 67108864) (hu : u.natAbs ≤ 16777216) (hv : v.natAbs ≤ 16777216) :
    ∃ re im, cMulBits a b c d = some (re, im) ∧ Is re (p * u - q * v) ∧ Is im (p * v + q * u) := by
  have b1 := natAbs_mul_lt hp hu
  have b2 := natAbs_mul_lt hq hv
  have b3 := natAbs_mul_lt hp hv
  have b4 := natAbs_mul_lt hq hu
  obtain ⟨ac, e1, i1⟩ := is_mul ha hc (by omega)
  obtain ⟨bd, e2, i2⟩ := is_mul hb hd (by omega)
  obtain ⟨re, e3, i3⟩ := is_sub i1 i2 (by omega)
  obtain ⟨ad, e4, i4⟩ := is_mul ha hd (by omega)
  obtain ⟨bc, e5, i5⟩ := is_mul hb hc (by omega)
  obtain ⟨im, e6, i6⟩ := is_add i4 i5 (by omega)
  exact ⟨re, im, by simp [cMulBits, e1, e2, e3, e4, e5, e6], i3, i6⟩
/-- the way back to an integer -/
theorem is_toInt {b : Nat} {n : Int} (h : Is b n) : floatToIntVal .f64 b .i64 = some n := by
  obtain ⟨hn, s, rfl, es⟩ := h
  have := toInt_wd s n.natAbs hn
  unfold floatToIntVal FloatKind.decode
  have e : FloatKind.f64.format.read (wd s n.natAbs) = double.read (wd s n.natAbs) := rfl
  rw [e, this, es]
  have hmin : IntKind.i64.min = -9223372036854775808 := by decide
  have hmax : IntKind.i64.max = 9223372036854775807 := by decide
  rw [hmin, hmax]
  show (if -9223372036854775808 ≤ n ∧ n ≤ 9223372036854775807 then some n else none) = some n
  rw [if_pos (by omega)]
end FL
