/- Whole numbers below 2^53 as double words: sums, products, comparisons and the way back to integers are exact. -/
import Ieee.Arith
namespace FL
open Ieee

theorem lp : double.leastPlace = -1074 := by decide
theorem bin : double.binade = 4503599627370496 := by decide
theorem infR : double.infRung = 9218868437227405312 := by decide
theorem sgW : double.signWeight = 9223372036854775808 := by decide

/-- the word of a sign and a whole number -/
def wd (s : Bool) (N : Nat) : Nat := double.word s (if N = 0 then 0 else (N.log2 + 1022) * 4503599627370496 + N * 2 ^ (52 - N.log2))
/-- the number of a sign and a whole number -/
def V (s : Bool) (N : Nat) : Int := if s then -(N : Int) else (N : Int)

theorem log2_bounds {N : Nat} (h : N ≠ 0) : 2 ^ N.log2 ≤ N ∧ N < 2 ^ (N.log2 + 1) := ⟨Nat.log2_self_le h, Nat.lt_log2_self⟩
theorem log2_le {N : Nat} (h : N ≠ 0) (hN : N < 9007199254740992) : N.log2 ≤ 52 := by
  have h1 := (Nat.log2_lt h (k := 53)).2 (by simpa using hN)
  omega
theorem log2_shift {N : Nat} (h : N ≠ 0) (k : Nat) : (N * 2 ^ k).log2 = N.log2 + k := by
  have hb := log2_bounds h
  have hp := Nat.two_pow_pos k
  have hne : N * 2 ^ k ≠ 0 := Nat.mul_ne_zero h (by omega)
  rw [Nat.log2_eq_iff hne]
  constructor
  · rw [Nat.pow_add]; exact Nat.mul_le_mul_right _ hb.1
  · rw [show N.log2 + k + 1 = (N.log2 + 1) + k by omega, Nat.pow_add]
    exact Nat.mul_lt_mul_of_pos_right hb.2 hp
/-- the significand: 53 bits -/
theorem sig_bounds {N : Nat} (h : N ≠ 0) (hN : N < 9007199254740992) : 4503599627370496 ≤ N * 2 ^ (52 - N.log2) ∧ N * 2 ^ (52 - N.log2) < 9007199254740992 := by
  have hb := log2_bounds h
  have hl := log2_le h hN
  have hp := Nat.two_pow_pos (52 - N.log2)
  constructor
  · have := Nat.mul_le_mul_right (2 ^ (52 - N.log2)) hb.1
    rw [← Nat.pow_add, show N.log2 + (52 - N.log2) = 52 by omega] at this
    exact this
  · have := Nat.mul_lt_mul_of_pos_right hb.2 hp
    rw [← Nat.pow_add, show N.log2 + 1 + (52 - N.log2) = 53 by omega] at this
    exact this
theorem cut_exact (way : Toward) (s : Bool) (q d : Nat) (hq : q ≠ 0) : way.cut s (q * 2 ^ d) d = q := by
  have hp := Nat.two_pow_pos d
  unfold Toward.cut
  rw [log2_shift hq, show min d (q.log2 + d + 2) = d by omega]
  simp only [Nat.shiftLeft_eq, Nat.one_mul, Nat.mul_div_cancel _ hp, Nat.mul_mod_left]
  cases way <;> simp <;> omega
theorem near (s : Bool) (N k : Nat) (hN : N < 9007199254740992) : double.nearest s (N * 2 ^ k) (-(k : Int)) = wd s N := by
  unfold Format.nearest wd
  by_cases h : N = 0
  · subst h; simp
  · have hp := Nat.two_pow_pos k
    have hne : N * 2 ^ k ≠ 0 := Nat.mul_ne_zero h (by omega)
    have hl := log2_le h hN
    have hs := sig_bounds h hN
    have hf : ((double.fractionBits : Nat) : Int) = 52 := rfl
    rw [if_neg hne, if_neg h, log2_shift h, lp, bin, infR, hf]
    have hlast : max (-(k : Int) + ((N.log2 + k : Nat) : Int) - 52) (-1074) = (N.log2 : Int) - 52 := by omega
    simp only [hlast]
    have e1 : (-(k : Int) - ((N.log2 : Int) - 52)).toNat = 52 - N.log2 - k := by omega
    have e2 : ((N.log2 : Int) - 52 - -(k : Int)).toNat = N.log2 + k - 52 := by omega
    have e3 : ((N.log2 : Int) - 52 - -1074).toNat = N.log2 + 1022 := by omega
    rw [e1, e2, e3, Nat.shiftLeft_eq, Nat.mul_assoc, ← Nat.pow_add]
    have e4 : N * 2 ^ (k + (52 - N.log2 - k)) = (N * 2 ^ (52 - N.log2)) * 2 ^ (N.log2 + k - 52) := by
      rw [Nat.mul_assoc, ← Nat.pow_add]; congr 2; omega
    rw [e4, cut_exact _ _ _ _ (by omega), Nat.min_eq_left (by omega)]
theorem read_wd (s : Bool) (N : Nat) (hN : N < 9007199254740992) : ∃ k : Nat, double.read (wd s N) = .number s (N * 2 ^ k) (-(k : Int)) := by
  by_cases h : N = 0
  · subst h
    obtain ⟨k, hk⟩ : ∃ k : Nat, k = 1074 := ⟨_, rfl⟩
    refine ⟨k, ?_⟩
    rw [Nat.zero_mul, hk]
    cases s <;> decide
  · have hl := log2_le h hN
    have hs := sig_bounds h hN
    refine ⟨52 - N.log2, ?_⟩
    unfold wd
    rw [if_neg h]
    generalize hM : N * 2 ^ (52 - N.log2) = M at *
    have hr : (N.log2 + 1022) * 4503599627370496 + M < 9218868437227405312 := by omega
    unfold Format.read Format.word
    rw [bin, infR, sgW, lp]
    have hsign : ((if s = true then 9223372036854775808 + ((N.log2 + 1022) * 4503599627370496 + M) else (N.log2 + 1022) * 4503599627370496 + M) / 9223372036854775808 % 2 == 1) = s := by
      cases s
      · rw [if_neg (by decide), beq_eq_false_iff_ne]; omega
      · rw [if_pos rfl, beq_iff_eq]; omega
    have hrung : (if s = true then 9223372036854775808 + ((N.log2 + 1022) * 4503599627370496 + M) else (N.log2 + 1022) * 4503599627370496 + M) % 9223372036854775808 = (N.log2 + 1022) * 4503599627370496 + M := by
      cases s
      · rw [if_neg (by decide)]; omega
      · rw [if_pos rfl]; omega
    simp only [hsign, hrung]
    rw [if_neg (by omega), if_pos hr]
    congr 1
    · omega
    · omega
theorem signed_V (s : Bool) (N a K : Nat) (h : a ≤ K) : signed s (N * 2 ^ a) (K - a) = V s N * ((2 ^ K : Nat) : Int) := by
  unfold signed V
  have e : (N * 2 ^ a) <<< (K - a) = N * 2 ^ K := by
    rw [Nat.shiftLeft_eq, Nat.mul_assoc, ← Nat.pow_add]; congr 2; omega
  rw [e]
  cases s <;> simp [Int.neg_mul]
theorem V_natAbs (s : Bool) (N : Nat) : (V s N).natAbs = N := by unfold V; cases s <;> simp
/-- the sign of a sum: a sum that cancels is +0, but of two negative ones -/
def sg (s t : Bool) (v : Int) : Bool := if v = 0 then s && t else decide (v < 0)
theorem V_sg (s t : Bool) (v : Int) : V (sg s t v) v.natAbs = v := by
  unfold V sg
  by_cases h : v = 0
  · subst h; simp
  · rw [if_neg h]
    by_cases h2 : v < 0
    · simp [h2]; omega
    · simp [h2]; omega
theorem sum_num (s t : Bool) (M N a b : Nat) (h : (V s M + V t N).natAbs < 9007199254740992) :
    ((Datum.number s (M * 2 ^ a) (-(a : Int))).sum (.number t (N * 2 ^ b) (-(b : Int)))).map double.write = some (wd (sg s t (V s M + V t N)) (V s M + V t N).natAbs) := by
  obtain ⟨K, hK⟩ : ∃ K, K = max a b := ⟨_, rfl⟩
  have hb : min (-(a : Int)) (-(b : Int)) = -(K : Int) := by omega
  have ea : (-(a : Int) - -(K : Int)).toNat = K - a := by omega
  have eb : (-(b : Int) - -(K : Int)).toNat = K - b := by omega
  unfold Datum.sum
  simp only [hb, ea, eb]
  rw [signed_V s M a K (by omega), signed_V t N b K (by omega), ← Int.add_mul]
  have hp : (0 : Int) < ((2 ^ K : Nat) : Int) := by exact_mod_cast Nat.two_pow_pos K
  generalize hv : V s M + V t N = v at *
  simp only [Option.map_some, Option.some.injEq]
  show double.nearest _ _ _ = _
  rw [Int.natAbs_mul, Int.natAbs_natCast, near _ _ _ h]
  congr 1
  unfold sg
  by_cases h0 : v = 0
  · subst h0; simp
  · have hne : v * ((2 ^ K : Nat) : Int) ≠ 0 := Int.mul_ne_zero h0 (by omega)
    rw [if_neg hne, if_neg h0]
    by_cases h2 : v < 0
    · have := Int.mul_neg_of_neg_of_pos h2 hp
      rw [decide_eq_true this, decide_eq_true h2]
    · have := Int.mul_nonneg (by omega : 0 ≤ v) (by omega : (0 : Int) ≤ ((2 ^ K : Nat) : Int))
      simp only [decide_eq_decide]
      constructor <;> intro <;> omega
theorem add_wd (s t : Bool) (M N : Nat) (hM : M < 9007199254740992) (hN : N < 9007199254740992) (h : (V s M + V t N).natAbs < 9007199254740992) :
    double.add (wd s M) (wd t N) = some (wd (sg s t (V s M + V t N)) (V s M + V t N).natAbs) := by
  obtain ⟨a, ha⟩ := read_wd s M hM
  obtain ⟨b, hb⟩ := read_wd t N hN
  unfold Format.add
  rw [ha, hb]
  exact sum_num s t M N a b h
theorem sub_wd (s t : Bool) (M N : Nat) (hM : M < 9007199254740992) (hN : N < 9007199254740992) (h : (V s M + V (!t) N).natAbs < 9007199254740992) :
    double.sub (wd s M) (wd t N) = some (wd (sg s (!t) (V s M + V (!t) N)) (V s M + V (!t) N).natAbs) := by
  obtain ⟨a, ha⟩ := read_wd s M hM
  obtain ⟨b, hb⟩ := read_wd t N hN
  unfold Format.sub
  rw [ha, hb]
  exact sum_num s (!t) M N a b h
theorem mul_wd (s t : Bool) (M N : Nat) (hM : M < 9007199254740992) (hN : N < 9007199254740992) (h : M * N < 9007199254740992) :
    double.mul (wd s M) (wd t N) = some (wd (s ^^ t) (M * N)) := by
  obtain ⟨a, ha⟩ := read_wd s M hM
  obtain ⟨b, hb⟩ := read_wd t N hN
  unfold Format.mul
  rw [ha, hb]
  unfold Datum.product
  simp only [Option.map_some, Option.some.injEq]
  show double.nearest _ _ _ = _
  have e : M * 2 ^ a * (N * 2 ^ b) = (M * N) * 2 ^ (a + b) := by
    rw [Nat.pow_add]; simp only [Nat.mul_assoc, Nat.mul_left_comm]
  rw [e, show -(a : Int) + -(b : Int) = -((a + b : Nat) : Int) by omega, near _ _ _ h]
theorem compare_scale (u v p : Int) (hp : 0 < p) : compare (u * p) (v * p) = compare u v := by
  have h1 : u * p < v * p ↔ u < v := Int.mul_lt_mul_right hp
  have h2 : u * p = v * p ↔ u = v := Int.mul_eq_mul_right_iff (by omega)
  show compareOfLessAndEq _ _ = compareOfLessAndEq _ _
  unfold compareOfLessAndEq
  simp only [h1, h2]
theorem order_wd (s t : Bool) (M N : Nat) (hM : M < 9007199254740992) (hN : N < 9007199254740992) :
    double.order (wd s M) (wd t N) = some (compare (V s M) (V t N)) := by
  obtain ⟨a, ha⟩ := read_wd s M hM
  obtain ⟨b, hb⟩ := read_wd t N hN
  obtain ⟨K, hK⟩ : ∃ K, K = max a b := ⟨_, rfl⟩
  have hm : min (-(a : Int)) (-(b : Int)) = -(K : Int) := by omega
  have ea : (-(a : Int) - -(K : Int)).toNat = K - a := by omega
  have eb : (-(b : Int) - -(K : Int)).toNat = K - b := by omega
  unfold Format.order
  rw [ha, hb]
  unfold Datum.order
  simp only [hm, ea, eb]
  rw [signed_V s M a K (by omega), signed_V t N b K (by omega), compare_scale _ _ _ (by exact_mod_cast Nat.two_pow_pos K)]
theorem toInt_wd (s : Bool) (N : Nat) (hN : N < 9007199254740992) : (double.read (wd s N)).toInt .zero = some (V s N) := by
  obtain ⟨a, ha⟩ := read_wd s N hN
  rw [ha]
  unfold Datum.toInt Datum.integral
  have e1 : (-(a : Int)).toNat = 0 := by omega
  have e2 : (- -(a : Int)).toNat = a := by omega
  simp only [e1, e2, Nat.shiftLeft_zero]
  have hc : Toward.zero.cut s (N * 2 ^ a) a = N := by
    by_cases h : N = 0
    · subst h; simp [Toward.cut]
    · exact cut_exact _ _ _ _ h
  rw [hc]
  unfold signed V
  simp
end FL
