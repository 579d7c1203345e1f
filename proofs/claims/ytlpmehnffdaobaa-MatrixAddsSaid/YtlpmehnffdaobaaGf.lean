/- The field of 256 elements over the natural numbers below 256: products, powers of the generator, logarithms, inverses. -/
namespace GF
/-- times the generator -/
def xt (x : Nat) : Nat := ((2 * x) % 256) ^^^ (x / 128 * 29)
def mulAux : Nat → Nat → Nat → Nat
  | 0, _, _ => 0
  | k + 1, x, y => (y % 2 * x) ^^^ mulAux k (xt x) (y / 2)
def mul (x y : Nat) : Nat := mulAux 8 x y
def npow (x : Nat) : Nat → Nat
  | 0 => 1
  | n + 1 => mul (npow x n) x
/-- the powers of the generator -/
def ex : Nat → Nat
  | 0 => 1
  | n + 1 => xt (ex n)
def exAt : Nat → Nat → Nat
  | 0, a => a
  | n + 1, a => exAt n (xt a)
def lgTab : List Nat := [0, 0, 1, 25, 2, 50, 26, 198, 3, 223, 51, 238, 27, 104, 199, 75, 4, 100, 224, 14, 52, 141, 239, 129, 28, 193, 105, 248, 200, 8, 76, 113, 5, 138, 101, 47, 225, 36, 15, 33, 53, 147, 142, 218, 240, 18, 130, 69, 29, 181, 194, 125, 106, 39, 249, 185, 201, 154, 9, 120, 77, 228, 114, 166, 6, 191, 139, 98, 102, 221, 48, 253, 226, 152, 37, 179, 16, 145, 34, 136, 54, 208, 148, 206, 143, 150, 219, 189, 241, 210, 19, 92, 131, 56, 70, 64, 30, 66, 182, 163, 195, 72, 126, 110, 107, 58, 40, 84, 250, 133, 186, 61, 202, 94, 155, 159, 10, 21, 121, 43, 78, 212, 229, 172, 115, 243, 167, 87, 7, 112, 192, 247, 140, 128, 99, 13, 103, 74, 222, 237, 49, 197, 254, 24, 227, 165, 153, 119, 38, 184, 180, 124, 17, 68, 146, 217, 35, 32, 137, 46, 55, 63, 209, 91, 149, 188, 207, 205, 144, 135, 151, 178, 220, 252, 190, 97, 242, 86, 211, 171, 20, 42, 93, 158, 132, 60, 57, 83, 71, 109, 65, 162, 31, 45, 67, 216, 183, 123, 164, 118, 196, 23, 73, 236, 127, 12, 111, 246, 108, 161, 59, 82, 41, 157, 85, 170, 251, 96, 134, 177, 187, 204, 62, 90, 203, 89, 95, 176, 156, 169, 160, 81, 11, 245, 22, 235, 122, 117, 44, 215, 79, 174, 213, 233, 230, 231, 173, 232, 116, 214, 244, 234, 168, 80, 88, 175]
def lg (x : Nat) : Nat := lgTab.getD x 0
def inv (x : Nat) : Nat := npow x 254

theorem xt_lt : ∀ x, x < 256 → xt x < 256 := by decide +kernel
theorem xor_lt {a b : Nat} (ha : a < 256) (hb : b < 256) : a ^^^ b < 256 := Nat.xor_lt_two_pow (n := 8) ha hb
theorem mulAux_lt (k : Nat) : ∀ x y, x < 256 → mulAux k x y < 256 := by
  induction k with
  | zero => intro x y _; exact Nat.zero_lt_of_lt (by omega : (0 : Nat) < 256)
  | succ k ih =>
    intro x y hx
    refine xor_lt ?_ (ih _ _ (xt_lt x hx))
    rcases Nat.mod_two_eq_zero_or_one y with h | h <;> rw [h] <;> omega
theorem mul_lt (x y : Nat) (hx : x < 256) : mul x y < 256 := mulAux_lt 8 x y hx

theorem xor4 (a b c d : Nat) : (a ^^^ b) ^^^ (c ^^^ d) = (a ^^^ c) ^^^ (b ^^^ d) := by
  rw [Nat.xor_assoc, Nat.xor_assoc, ← Nat.xor_assoc b, ← Nat.xor_assoc c, Nat.xor_comm b c]
theorem xor_mod2 (y z : Nat) : (y ^^^ z) % 2 = (y % 2) ^^^ (z % 2) := by
  have := Nat.xor_mod_two_pow (a := y) (b := z) (n := 1)
  simpa using this
theorem xor_div2 (y z : Nat) : (y ^^^ z) / 2 = (y / 2) ^^^ (z / 2) := by
  have := Nat.xor_div_two_pow (a := y) (b := z) (n := 1)
  simpa using this
theorem bit_mul (y z x : Nat) : (y % 2 ^^^ z % 2) * x = (y % 2 * x) ^^^ (z % 2 * x) := by
  rcases Nat.mod_two_eq_zero_or_one y with h | h <;> rcases Nat.mod_two_eq_zero_or_one z with h' | h' <;> rw [h, h'] <;> simp
theorem mulAux_add (k : Nat) : ∀ x y z, mulAux k x (y ^^^ z) = mulAux k x y ^^^ mulAux k x z := by
  induction k with
  | zero => intro x y z; exact (Nat.xor_self 0).symm
  | succ k ih =>
    intro x y z
    show ((y ^^^ z) % 2 * x) ^^^ mulAux k (xt x) ((y ^^^ z) / 2) = _
    rw [xor_mod2, xor_div2, bit_mul, ih, xor4]
    rfl
theorem mul_add (x y z : Nat) : mul x (y ^^^ z) = mul x y ^^^ mul x z := mulAux_add 8 x y z

theorem mul_zero : ∀ x, x < 256 → mul x 0 = 0 := by decide +kernel
theorem zero_mul : ∀ x, x < 256 → mul 0 x = 0 := by decide +kernel
theorem mul_one : ∀ x, x < 256 → mul x 1 = x := by decide +kernel
theorem two_xor (a b : Nat) : 2 * (a ^^^ b) = (2 * a) ^^^ (2 * b) := by
  have := Nat.shiftLeft_xor_distrib (a := a) (b := b) (i := 1)
  simpa [Nat.shiftLeft_eq, Nat.mul_comm] using this
theorem xor_mod256 (y z : Nat) : (y ^^^ z) % 256 = (y % 256) ^^^ (z % 256) := Nat.xor_mod_two_pow (a := y) (b := z) (n := 8)
theorem xor_div128 (y z : Nat) : (y ^^^ z) / 128 = (y / 128) ^^^ (z / 128) := Nat.xor_div_two_pow (a := y) (b := z) (n := 7)
theorem xt_add {a b : Nat} (ha : a < 256) (hb : b < 256) : xt (a ^^^ b) = xt a ^^^ xt b := by
  unfold xt
  rw [two_xor, xor_mod256, xor_div128, xor4]
  congr 1
  have h1 : a / 128 = 0 ∨ a / 128 = 1 := by omega
  have h2 : b / 128 = 0 ∨ b / 128 = 1 := by omega
  rcases h1 with h1 | h1 <;> rcases h2 with h2 | h2 <;> rw [h1, h2] <;> simp
/-- a byte is the sum of its bits -/
theorem bits_sum : ∀ y, y < 256 → (y % 2 * 1) ^^^ ((y / 2 % 2 * 2) ^^^ ((y / 4 % 2 * 4) ^^^ ((y / 8 % 2 * 8) ^^^ ((y / 16 % 2 * 16) ^^^ ((y / 32 % 2 * 32) ^^^ ((y / 64 % 2 * 64) ^^^ (y / 128 % 2 * 128))))))) = y := by decide +kernel
/-- what is additive is told by the eight bits -/
theorem add_ext (f g : Nat → Nat) (hf : ∀ a b, a < 256 → b < 256 → f (a ^^^ b) = f a ^^^ f b) (hg : ∀ a b, a < 256 → b < 256 → g (a ^^^ b) = g a ^^^ g b)
    (h0 : f 0 = g 0) (h1 : f 1 = g 1) (h2 : f 2 = g 2) (h4 : f 4 = g 4) (h8 : f 8 = g 8) (h16 : f 16 = g 16) (h32 : f 32 = g 32) (h64 : f 64 = g 64) (h128 : f 128 = g 128)
    (y : Nat) (hy : y < 256) : f y = g y := by
  have one : ∀ b c, c < 256 → f c = g c → f (b % 2 * c) = g (b % 2 * c) ∧ b % 2 * c < 256 := by
    intro b c hc h
    rcases Nat.mod_two_eq_zero_or_one b with e | e <;> rw [e]
    · rw [Nat.zero_mul]; exact ⟨h0, by omega⟩
    · rw [Nat.one_mul]; exact ⟨h, hc⟩
  have two : ∀ a b, f a = g a ∧ a < 256 → f b = g b ∧ b < 256 → f (a ^^^ b) = g (a ^^^ b) ∧ a ^^^ b < 256 := by
    intro a b ha hb
    exact ⟨by rw [hf a b ha.2 hb.2, hg a b ha.2 hb.2, ha.1, hb.1], xor_lt ha.2 hb.2⟩
  rw [← bits_sum y hy]
  exact (two _ _ (one _ 1 (by omega) h1) (two _ _ (one _ 2 (by omega) h2) (two _ _ (one _ 4 (by omega) h4) (two _ _ (one _ 8 (by omega) h8) (two _ _ (one _ 16 (by omega) h16) (two _ _ (one _ 32 (by omega) h32) (two _ _ (one _ 64 (by omega) h64) (one _ 128 (by omega) h128)))))))).1
theorem mul_xt1 : ∀ x, x < 256 → mul x (xt 0) = xt (mul x 0) ∧ mul x (xt 1) = xt (mul x 1) ∧ mul x (xt 2) = xt (mul x 2) ∧ mul x (xt 4) = xt (mul x 4) ∧ mul x (xt 8) = xt (mul x 8) ∧ mul x (xt 16) = xt (mul x 16) ∧ mul x (xt 32) = xt (mul x 32) ∧ mul x (xt 64) = xt (mul x 64) ∧ mul x (xt 128) = xt (mul x 128) := by decide +kernel
theorem mul_xt0 (x : Nat) (hx : x < 256) (y : Nat) (hy : y < 256) : mul x (xt y) = xt (mul x y) := by
  obtain ⟨h0, h1, h2, h4, h8, h16, h32, h64, h128⟩ := mul_xt1 x hx
  exact add_ext (fun y => mul x (xt y)) (fun y => xt (mul x y)) (fun a b ha hb => by show mul x (xt (a ^^^ b)) = _; rw [xt_add ha hb, mul_add])
    (fun a b _ _ => by show xt (mul x (a ^^^ b)) = _; rw [mul_add, xt_add (mul_lt x a hx) (mul_lt x b hx)]) h0 h1 h2 h4 h8 h16 h32 h64 h128 y hy

theorem ex_lt (n : Nat) : ex n < 256 := by
  induction n with
  | zero => show (1 : Nat) < 256; omega
  | succ n ih => exact xt_lt _ ih
theorem mul_ex (x n : Nat) (hx : x < 256) : ∀ a, x = ex a → mul x (ex n) = ex (a + n) := by
  induction n with
  | zero => intro a h; rw [show ex 0 = 1 from rfl, mul_one x hx, h, Nat.add_zero]
  | succ n ih =>
    intro a h
    show mul x (xt (ex n)) = xt (ex (a + n))
    rw [mul_xt0 x hx _ (ex_lt n), ih a h]
theorem ex_add (a b : Nat) : mul (ex a) (ex b) = ex (a + b) := mul_ex _ b (ex_lt a) a rfl

theorem exAt_eq (n : Nat) : ∀ a, exAt n (ex a) = ex (a + n) := by
  induction n with
  | zero => intro a; rfl
  | succ n ih => intro a; show exAt n (ex (a + 1)) = _; rw [ih]; congr 1; omega
theorem ex_lg0 : ∀ x, x < 256 → x ≠ 0 → lg x < 255 ∧ exAt (lg x) 1 = x := by decide +kernel
theorem lg_ex0 : ∀ n, n < 255 → exAt n 1 ≠ 0 ∧ lg (exAt n 1) = n := by decide +kernel
theorem exAt_one (n : Nat) : exAt n 1 = ex n := by
  have := exAt_eq n 0
  rw [Nat.zero_add] at this
  exact this
theorem lg_lt {x : Nat} (h : x < 256) (h0 : x ≠ 0) : lg x < 255 := (ex_lg0 x h h0).1
theorem ex_lg {x : Nat} (h : x < 256) (h0 : x ≠ 0) : ex (lg x) = x := by rw [← exAt_one]; exact (ex_lg0 x h h0).2
theorem lg_ex {n : Nat} (h : n < 255) : lg (ex n) = n := by rw [← exAt_one]; exact (lg_ex0 n h).2
theorem ex_255 : ex 255 = 1 := by rw [← exAt_one]; decide +kernel
theorem ex_period (n : Nat) : ex (n + 255) = ex n := by
  rw [← ex_add, ex_255, mul_one _ (ex_lt n)]
theorem ex_mod (n : Nat) : ex n = ex (n % 255) := by
  induction n using Nat.strongRecOn with
  | ind n ih =>
    by_cases h : n < 255
    · rw [Nat.mod_eq_of_lt h]
    · have := ih (n - 255) (by omega)
      rw [show n % 255 = (n - 255) % 255 by omega, ← this, ← ex_period (n - 255)]
      exact congrArg ex (by omega)
theorem ex_ne (n : Nat) : ex n ≠ 0 := by
  rw [ex_mod, ← exAt_one]
  exact (lg_ex0 _ (Nat.mod_lt _ (by omega))).1
theorem lg_ex_mod (n : Nat) : lg (ex n) = n % 255 := by rw [ex_mod, lg_ex (Nat.mod_lt _ (by omega))]

/-- every element is 0 or a power -/
theorem cases_ex {x : Nat} (h : x < 256) : x = 0 ∨ ∃ a, x = ex a := by
  by_cases h0 : x = 0
  · exact .inl h0
  · exact .inr ⟨lg x, (ex_lg h h0).symm⟩
theorem mul_comm {x y : Nat} (hx : x < 256) (hy : y < 256) : mul x y = mul y x := by
  rcases cases_ex hx with rfl | ⟨a, rfl⟩
  · rw [zero_mul y hy, mul_zero y hy]
  · rcases cases_ex hy with rfl | ⟨b, rfl⟩
    · rw [zero_mul _ hx, mul_zero _ hx]
    · rw [ex_add, ex_add, Nat.add_comm]
theorem mul_assoc {x y z : Nat} (hx : x < 256) (hy : y < 256) (hz : z < 256) : mul (mul x y) z = mul x (mul y z) := by
  rcases cases_ex hx with rfl | ⟨a, rfl⟩
  · rw [zero_mul y hy, zero_mul z hz, zero_mul _ (mul_lt y z hy)]
  · rcases cases_ex hy with rfl | ⟨b, rfl⟩
    · rw [mul_zero _ hx, zero_mul z hz, mul_zero _ hx]
    · rcases cases_ex hz with rfl | ⟨c, rfl⟩
      · rw [mul_zero _ hy, mul_zero _ hx, mul_zero _ (mul_lt _ _ hx)]
      · rw [ex_add, ex_add, ex_add, ex_add, Nat.add_assoc]
theorem one_mul {x : Nat} (hx : x < 256) : mul 1 x = x := by rw [mul_comm (by omega) hx, mul_one x hx]
theorem add_mul {x y z : Nat} (hx : x < 256) (hy : y < 256) (hz : z < 256) : mul (x ^^^ y) z = mul x z ^^^ mul y z := by
  rw [mul_comm (xor_lt hx hy) hz, mul_add, mul_comm hz hx, mul_comm hz hy]
theorem mul_eq_zero {x y : Nat} (hx : x < 256) (hy : y < 256) : mul x y = 0 ↔ x = 0 ∨ y = 0 := by
  constructor
  · intro h
    rcases cases_ex hx with h1 | ⟨a, rfl⟩
    · exact .inl h1
    · rcases cases_ex hy with h2 | ⟨b, rfl⟩
      · exact .inr h2
      · rw [ex_add] at h; exact absurd h (ex_ne _)
  · rintro (rfl | rfl)
    · exact zero_mul y hy
    · exact mul_zero x hx

theorem npow_lt (x n : Nat) (_hx : x < 256) : npow x n < 256 := by
  cases n with
  | zero => show (1 : Nat) < 256; omega
  | succ n =>
    have : ∀ n, npow x n < 256 := fun n => by
      induction n with
      | zero => show (1 : Nat) < 256; omega
      | succ n ih => exact mul_lt _ _ ih
    exact this _
theorem npow_add {x : Nat} (hx : x < 256) (m n : Nat) : npow x (m + n) = mul (npow x m) (npow x n) := by
  induction n with
  | zero => rw [Nat.add_zero, show npow x 0 = 1 from rfl, mul_one _ (npow_lt x m hx)]
  | succ n ih =>
    show mul (npow x (m + n)) x = mul (npow x m) (mul (npow x n) x)
    rw [ih, mul_assoc (npow_lt x m hx) (npow_lt x n hx) hx]
theorem npow_sq {x : Nat} (hx : x < 256) (n : Nat) : npow (mul x x) n = npow x (2 * n) := by
  induction n with
  | zero => rfl
  | succ n ih =>
    rw [show 2 * (n + 1) = 2 * n + 2 from rfl, npow_add hx]
    show mul (npow (mul x x) n) (mul x x) = mul (npow x (2 * n)) (mul (mul 1 x) x)
    rw [ih, one_mul hx]
/-- a round of the powers by squares -/
theorem npow_half {x : Nat} (hx : x < 256) (o n : Nat) (ho : o < 256) : mul o (npow x n) = mul (if n % 2 = 1 then mul o x else o) (npow (mul x x) (n / 2)) := by
  rw [npow_sq hx]
  split
  · rename_i h
    rw [show npow x n = npow x (1 + 2 * (n / 2)) by congr 1; omega, npow_add hx]
    rw [show npow x 1 = x by show mul 1 x = x; exact one_mul hx, mul_assoc ho hx (npow_lt _ _ hx)]
  · rw [show 2 * (n / 2) = n by omega]
theorem npow_ex (a n : Nat) : npow (ex a) n = ex (a * n) := by
  induction n with
  | zero => rfl
  | succ n ih =>
    show mul (npow (ex a) n) (ex a) = _
    rw [ih, ex_add, Nat.mul_succ]
theorem npow_two (n : Nat) : npow 2 n = ex n := by
  have h := npow_ex 1 n
  rw [show ex 1 = 2 by decide, Nat.one_mul] at h
  exact h
theorem npow_255 {x : Nat} (hx : x < 256) (h0 : x ≠ 0) : npow x 255 = 1 := by
  rw [← ex_lg hx h0, npow_ex, ex_mod, Nat.mul_mod_left]
  rfl
theorem inv_lt (x : Nat) (hx : x < 256) : inv x < 256 := npow_lt x 254 hx
theorem mul_inv {x : Nat} (hx : x < 256) (h0 : x ≠ 0) : mul x (inv x) = 1 := by
  rw [mul_comm hx (inv_lt x hx)]
  exact npow_255 hx h0
theorem inv_ex (a : Nat) : inv (ex a) = ex (a * 254) := npow_ex a 254
theorem inv_uniq {x y : Nat} (hx : x < 256) (hy : y < 256) (h : mul x y = 1) : y = inv x := by
  have h0 : x ≠ 0 := by intro e; subst e; rw [zero_mul y hy] at h; omega
  have h1 := mul_assoc (inv_lt x hx) hx hy
  rw [h, mul_one _ (inv_lt x hx), mul_comm (inv_lt x hx) hx, mul_inv hx h0, one_mul hy] at h1
  exact h1
theorem inv_ne {x : Nat} (hx : x < 256) (h0 : x ≠ 0) : inv x ≠ 0 := by
  intro e
  have := mul_inv hx h0
  rw [e, mul_zero x hx] at this
  omega
theorem lg_mul {x y : Nat} (hx : x < 256) (hy : y < 256) (h0 : x ≠ 0) (h1 : y ≠ 0) : lg (mul x y) = (lg x + lg y) % 255 := by
  rw [← lg_ex_mod, ← ex_add, ex_lg hx h0, ex_lg hy h1]
theorem lg_div {x y : Nat} (hx : x < 256) (hy : y < 256) (h0 : x ≠ 0) (h1 : y ≠ 0) : lg (mul x (inv y)) = (lg x + 255 - lg y) % 255 := by
  have h2 := lg_lt hy h1
  have e : inv y = ex (lg y * 254) := by rw [← inv_ex, ex_lg hy h1]
  rw [e]
  conv => lhs; rw [← ex_lg hx h0]
  rw [ex_add, lg_ex_mod]
  omega
theorem lg_inj {x y : Nat} (hx : x < 256) (hy : y < 256) (h0 : x ≠ 0) (h1 : y ≠ 0) (h : lg x = lg y) : x = y := by
  rw [← ex_lg hx h0, ← ex_lg hy h1, h]
end GF
