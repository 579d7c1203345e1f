/- Turns: numbers a + b i modulo 8191: products, powers of the step, prints. -/
namespace TM
abbrev T := Int × Int
def May (z : T) : Prop := 0 ≤ z.1 ∧ z.1 < 8191 ∧ 0 ≤ z.2 ∧ z.2 < 8191
/-- the rest of a turn's parts -/
def red (z : T) : T := (z.1 % 8191, z.2 % 8191)
def cm (x y : T) : T := (x.1 * y.1 - x.2 * y.2, x.1 * y.2 + x.2 * y.1)
def ca (x y : T) : T := (x.1 + y.1, x.2 + y.2)
def cs (x y : T) : T := (x.1 - y.1, x.2 - y.2)
def mul (x y : T) : T := red (cm x y)
theorem red_may (z : T) : May (red z) := ⟨Int.emod_nonneg _ (by decide), Int.emod_lt_of_pos _ (by decide), Int.emod_nonneg _ (by decide), Int.emod_lt_of_pos _ (by decide)⟩
theorem mul_may (x y : T) : May (mul x y) := red_may _
theorem red_of {z : T} (h : May z) : red z = z := by
  obtain ⟨a, b⟩ := z
  obtain ⟨h1, h2, h3, h4⟩ := h
  unfold red
  simp only at *
  rw [Int.emod_eq_of_lt h1 h2, Int.emod_eq_of_lt h3 h4]
theorem em (a k : Int) : (a + 8191 * k) % 8191 = a % 8191 := Int.add_mul_emod_self_left a 8191 k
theorem red_eq {a b c d : Int} (k l : Int) (h1 : a = c + 8191 * k) (h2 : b = d + 8191 * l) : red (a, b) = red (c, d) := by
  unfold red
  simp only [h1, h2, em]
theorem dm (a : Int) : a % 8191 = a + 8191 * (-(a / 8191)) := by
  have := Int.emod_add_mul_ediv a 8191
  omega
/-- a rest may be taken ahead -/
theorem red_cm_l (x y : T) : red (cm (red x) y) = red (cm x y) := by
  obtain ⟨a, b⟩ := x
  obtain ⟨c, d⟩ := y
  show red (a % 8191 * c - b % 8191 * d, a % 8191 * d + b % 8191 * c) = red (a * c - b * d, a * d + b * c)
  rw [dm a, dm b]
  generalize a / 8191 = p
  generalize b / 8191 = q
  exact red_eq (-p * c + q * d) (-p * d - q * c) (by grind) (by grind)
theorem cm_comm (x y : T) : cm x y = cm y x := by
  unfold cm; exact Prod.ext (by simp only; grind) (by simp only; grind)
theorem cm_assoc (x y z : T) : cm (cm x y) z = cm x (cm y z) := by
  unfold cm; exact Prod.ext (by simp only; grind) (by simp only; grind)
theorem cm_add (x y z : T) : cm x (ca y z) = ca (cm x y) (cm x z) := by
  unfold cm ca; exact Prod.ext (by simp only; grind) (by simp only; grind)
theorem red_cm_r (x y : T) : red (cm x (red y)) = red (cm x y) := by
  rw [cm_comm, red_cm_l, cm_comm]
theorem red_ca_l (x y : T) : red (ca (red x) y) = red (ca x y) := by
  obtain ⟨a, b⟩ := x
  obtain ⟨c, d⟩ := y
  show red (a % 8191 + c, b % 8191 + d) = red (a + c, b + d)
  rw [dm a, dm b]
  exact red_eq (-(a / 8191)) (-(b / 8191)) (by omega) (by omega)
theorem ca_comm (x y : T) : ca x y = ca y x := by
  unfold ca; exact Prod.ext (Int.add_comm _ _) (Int.add_comm _ _)
theorem ca_assoc (x y z : T) : ca (ca x y) z = ca x (ca y z) := by
  unfold ca; exact Prod.ext (Int.add_assoc _ _ _) (Int.add_assoc _ _ _)
theorem red_ca_r (x y : T) : red (ca x (red y)) = red (ca x y) := by rw [ca_comm, red_ca_l, ca_comm]
theorem red_red (x : T) : red (red x) = red x := red_of (red_may x)
theorem mul_comm (x y : T) : mul x y = mul y x := by unfold mul; rw [cm_comm]
theorem mul_assoc (x y z : T) : mul (mul x y) z = mul x (mul y z) := by
  unfold mul; rw [red_cm_l, red_cm_r, cm_assoc]
def one : T := (1, 0)
theorem cm_one (x : T) : cm x one = x := by
  unfold cm one; exact Prod.ext (by simp) (by simp)
theorem mul_one {x : T} (h : May x) : mul x one = x := by unfold mul; rw [cm_one, red_of h]
theorem one_mul {x : T} (h : May x) : mul one x = x := by rw [mul_comm, mul_one h]
theorem one_may : May one := by unfold May one; omega
/-- powers -/
def pw (x : T) : Nat → T
  | 0 => one
  | n + 1 => mul (pw x n) x
theorem pw_may (x : T) (n : Nat) : May (pw x n) := by
  cases n with
  | zero => exact one_may
  | succ n => exact mul_may _ _
theorem pw_add {x : T} (m n : Nat) : pw x (m + n) = mul (pw x m) (pw x n) := by
  induction n with
  | zero => exact (mul_one (pw_may x m)).symm
  | succ n ih =>
    show mul (pw x (m + n)) x = mul (pw x m) (mul (pw x n) x)
    rw [ih, mul_assoc]
theorem pw_sq {x : T} (hx : May x) (n : Nat) : pw (mul x x) n = pw x (2 * n) := by
  induction n with
  | zero => rfl
  | succ n ih =>
    rw [show 2 * (n + 1) = 2 * n + 2 from rfl, pw_add (x := x) (2 * n) 2]
    show mul (pw (mul x x) n) (mul x x) = mul (pw x (2 * n)) (mul (mul one x) x)
    rw [ih, one_mul hx]
theorem pw_half {x : T} (hx : May x) (o : T) (n : Nat) : mul o (pw x n) = mul (if n % 2 = 1 then mul o x else o) (pw (mul x x) (n / 2)) := by
  rw [pw_sq hx]
  split
  · rename_i h
    rw [show pw x n = pw x (1 + 2 * (n / 2)) by congr 1; omega, pw_add]
    rw [show pw x 1 = x from one_mul hx, mul_assoc]
  · rw [show 2 * (n / 2) = n by omega]
def step : T := (5, 3)
theorem step_may : May step := by unfold May step; omega
/-- the step's power -/
def power (n : Nat) : T := pw step n
/-- a byte besides -/
def byte (b : Nat) : T := ((b : Int) + 1, 0)
def put (z : T) (b : Nat) : T := red (ca (cm z step) (byte b))
theorem put_may (z : T) (b : Nat) : May (put z b) := red_may _
def print (l : List UInt8) : T := l.foldl (fun z b => put z b.toNat) (0, 0)
theorem print_snoc (l : List UInt8) (b : UInt8) : print (l ++ [b]) = put (print l) b.toNat := by unfold print; rw [List.foldl_append]; rfl
theorem foldl_may (l : List UInt8) : ∀ z, May z → May (l.foldl (fun z b => put z b.toNat) z) := by
  induction l with
  | nil => intro z h; exact h
  | cons b l ih => intro z _; exact ih _ (put_may _ _)
theorem print_may (l : List UInt8) : May (print l) := foldl_may l _ (by unfold May; omega)
/-- the join of two prints -/
def join (x y : T) (n : Nat) : T := red (ca (mul x (power n)) y)
theorem join_may (x y : T) (n : Nat) : May (join x y n) := red_may _
theorem join_put (z P : T) (b n : Nat) : join (put z b) P n = join z (join (put (0, 0) b) P n) (n + 1) := by
  show red (ca (red (cm (red (ca (cm z step) (byte b))) (power n))) P) =
    red (ca (red (cm z (red (cm (power n) step)))) (red (ca (red (cm (red (ca (cm (0, 0) step) (byte b))) (power n))) P)))
  rw [red_cm_l, red_ca_l, red_cm_r, red_ca_l, red_ca_r, red_cm_l]
  rw [← ca_assoc, ca_comm (cm z (cm (power n) step)) (red _), ca_assoc, red_ca_l]
  generalize power n = p
  obtain ⟨z1, z2⟩ := z
  obtain ⟨p1, p2⟩ := p
  obtain ⟨P1, P2⟩ := P
  congr 1
  unfold ca cm step byte
  exact Prod.ext (by simp only; grind) (by simp only; grind)
theorem foldl_join (l : List UInt8) : ∀ z, May z → l.foldl (fun z b => put z b.toNat) z = join z (print l) l.length := by
  induction l with
  | nil =>
    intro z h
    show z = red (ca (red (cm z one)) (0, 0))
    rw [red_ca_l, cm_one]
    have e : ca z (0, 0) = z := by unfold ca; exact Prod.ext (by simp) (by simp)
    rw [e, red_of h]
  | cons b l ih =>
    intro z _
    show l.foldl _ (put z b.toNat) = _
    rw [ih _ (put_may z b.toNat)]
    have e : print (b :: l) = join (put (0, 0) b.toNat) (print l) l.length := ih _ (put_may _ _)
    rw [e, List.length_cons, join_put]
/-- P7.3 -/
theorem print_append (a b : List UInt8) : print (a ++ b) = join (print a) (print b) b.length := by
  have h := foldl_join b (print a) (print_may a)
  rw [← h]
  unfold print
  rw [List.foldl_append]
theorem print_cons (b : UInt8) (l : List UInt8) : print (b :: l) = join (put (0, 0) b.toNat) (print l) l.length := foldl_join l _ (put_may _ _)
/-- a print less the byte that goes -/
def less (z : T) (out n : Nat) : T := red (cs z (cm (byte out) (power n)))
theorem less_cons (b : UInt8) (l : List UInt8) : less (print (b :: l)) b.toNat l.length = print l := by
  rw [print_cons]
  have hm := print_may l
  generalize print l = P at *
  have goal : red (cs (red (ca (red (cm (red (ca (cm (0, 0) step) (byte b.toNat))) (power l.length))) P)) (cm (byte b.toNat) (power l.length))) = red P := by
    rw [red_cm_l, red_ca_l]
    generalize power l.length = p
    obtain ⟨p1, p2⟩ := p
    obtain ⟨P1, P2⟩ := P
    unfold red cs ca cm step byte
    simp only
    generalize (b.toNat : Int) = c
    have h1 : ∀ x y : Int, (x % 8191 - y) % 8191 = (x - y) % 8191 := by intro x y; omega
    rw [h1, h1]
    exact Prod.ext (by simp only; congr 1; grind) (by simp only; congr 1; grind)
  rw [red_of hm] at goal
  exact goal
/-- the print of the window that begins one byte later -/
def roll (z : T) (n out inn : Nat) : T := put (less z out n) inn
theorem roll_window (b c : UInt8) (l : List UInt8) : roll (print (b :: l)) l.length b.toNat c.toNat = print (l ++ [c]) := by
  unfold roll
  rw [less_cons, print_snoc]
/-- the step goes back -/
def back : T := (3132, 7950)
theorem step_back : mul step back = one := by decide
theorem pw_back (n : Nat) : mul (power n) (pw back n) = one := by
  induction n with
  | zero => exact mul_one one_may
  | succ n ih =>
    show mul (mul (power n) step) (mul (pw back n) back) = one
    rw [mul_assoc, ← mul_assoc step, mul_comm step (pw back n), mul_assoc (pw back n), step_back, mul_one (pw_may _ _), ih]
theorem mul_cancel {x y : T} (hx : May x) (hy : May y) (n : Nat) (h : mul x (power n) = mul y (power n)) : x = y := by
  have h2 : mul (mul x (power n)) (pw back n) = mul (mul y (power n)) (pw back n) := by rw [h]
  rw [mul_assoc, mul_assoc, pw_back, mul_one hx, mul_one hy] at h2
  exact h2
theorem ca_cancel {u v P : T} (hu : May u) (hv : May v) (h : red (ca u P) = red (ca v P)) : u = v := by
  obtain ⟨a, b⟩ := u
  obtain ⟨c, d⟩ := v
  obtain ⟨p, q⟩ := P
  obtain ⟨h1, h2, h3, h4⟩ := hu
  obtain ⟨k1, k2, k3, k4⟩ := hv
  have e1 : (a + p) % 8191 = (c + p) % 8191 := congrArg Prod.fst h
  have e2 : (b + q) % 8191 = (d + q) % 8191 := congrArg Prod.snd h
  have g1 : a = c := by simp only at h1 h2 k1 k2; omega
  have g2 : b = d := by simp only at h3 h4 k3 k4; omega
  rw [g1, g2]
/-- texts of one length that differ in one byte alone have unlike prints -/
theorem print_tells (a b : List UInt8) (x y : UInt8) (h : print (a ++ x :: b) = print (a ++ y :: b)) : x = y := by
  have e : ∀ c : UInt8, print (a ++ c :: b) = join (put (print a) c.toNat) (print b) b.length := by
    intro c
    rw [show a ++ c :: b = (a ++ [c]) ++ b by simp, print_append, print_snoc]
  rw [e, e] at h
  have h2 := ca_cancel (mul_may _ _) (mul_may _ _) h
  have h3 := mul_cancel (put_may _ _) (put_may _ _) _ h2
  unfold put at h3
  generalize cm (print a) step = C at h3
  obtain ⟨c1, c2⟩ := C
  have h4 : (c1 + ((x.toNat : Int) + 1)) % 8191 = (c1 + ((y.toNat : Int) + 1)) % 8191 := congrArg Prod.fst h3
  have hx := x.toNat_lt
  have hy := y.toNat_lt
  exact UInt8.toNat_inj.1 (by omega)
theorem power_add (m n : Nat) : power (m + n) = mul (power m) (power n) := pw_add m n
theorem power_may (n : Nat) : May (power n) := pw_may _ _
end TM
