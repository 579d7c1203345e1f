/- Powers; the product's closure; the product. -/
import Derived.Test.YtlpmehnffdaobaaClosW
import Derived.Deep.QuietTactic
import Derived.BigQuiet
namespace Go.Proofs.Ytlpmehnffdaobaa
open Go.RowKit
set_option maxHeartbeats 800000 in
theorem powers_r (r c : Int) (h : ¬ (1 ≤ r ∧ r ≤ 32)) (w : World) : Calls Try.prog 17 #[.int .i64 r, .int .i64 c] w fun v w' => v = .returned (.tuple #[.slice none 0 0, .int .i64 1]) ∧ Fresh w w' := by
  go_enter Try.func17, Try.ntmps17
  go_wp2_with fail
  refine (fits_any r false ⟨(fun k => absurd k (by decide)), (fun k => absurd k h)⟩ w).mono ?_
  rintro e w' ⟨rfl, rfl⟩
  go_wp2
  go_ret2
  exact ⟨rfl, Fresh.refl _⟩
set_option maxHeartbeats 800000 in
theorem powers_c (r c : Int) (h0 : 1 ≤ r ∧ r ≤ 32) (h : ¬ (1 ≤ c ∧ c ≤ 32)) (w : World) : Calls Try.prog 17 #[.int .i64 r, .int .i64 c] w fun v w' => v = .returned (.tuple #[.slice none 0 0, .int .i64 1]) ∧ Fresh w w' := by
  go_enter Try.func17, Try.ntmps17
  go_wp2_with fail
  refine (fits_any r true ⟨fun _ => h0, fun _ => rfl⟩ w).mono ?_
  rintro e w' ⟨rfl, rfl⟩
  go_wp2_with fail
  refine (fits_any c false ⟨(fun k => absurd k (by decide)), (fun k => absurd k h)⟩ w).mono ?_
  rintro e w' ⟨rfl, rfl⟩
  go_wp2
  go_ret2
  exact ⟨rfl, Fresh.refl _⟩
theorem powers_no (r c : Int) (h : ¬ (1 ≤ r ∧ r ≤ 32 ∧ 1 ≤ c ∧ c ≤ 32)) (w : World) : Calls Try.prog 17 #[.int .i64 r, .int .i64 c] w fun v w' => v = .returned (.tuple #[.slice none 0 0, .int .i64 1]) ∧ Fresh w w' := by
  by_cases h0 : 1 ≤ r ∧ r ≤ 32
  · exact powers_c r c h0 (fun hc => h ⟨h0.1, h0.2, hc⟩) w
  · exact powers_r r c h0 w
/-- the powers -/
def vdm (r c : Nat) : Nat := GF.npow r c
set_option maxHeartbeats 800000 in
theorem powers_yes (R C : Nat) (hR : 1 ≤ R ∧ R ≤ 32) (hC : 1 ≤ C ∧ C ≤ 32) (w : World) : Calls Try.prog 17 #[.int .i64 (R : Int), .int .i64 (C : Int)] w fun v w' => v = .returned (.tuple #[.slice (some ⟨w.heap.size, 0, none⟩) R R, .int .i64 0]) ∧ Outer w w' R (fun _ => C) R vdm := by
  go_enter Try.func17, Try.ntmps17
  go_wp2_with fail
  refine (fits_any R true ⟨fun _ => by omega, fun _ => rfl⟩ w).mono ?_
  rintro e w' ⟨rfl, rfl⟩
  go_wp2_with fail
  refine (fits_any C true ⟨fun _ => by omega, fun _ => rfl⟩ w).mono ?_
  rintro e w' ⟨rfl, rfl⟩
  go_wp2_with fail
  refine (made_35 R C hR.2 hC.2 vdm w (Lib.hid fun W _ r c hr hc => pows_any r c (by omega) (by omega) W)).mono ?_
  rintro e w' ⟨rfl, hO⟩
  have HO := Lib.hid hO
  clear hO
  go_wp2
  go_ret2
  exact ⟨rfl, HO.out⟩
/-- a sum of n numbers -/
def xs (f : Nat → Nat) : Nat → Nat
  | 0 => 0
  | n + 1 => xs f n ^^^ f n
theorem xs_lt (f : Nat → Nat) (n : Nat) (h : ∀ i, i < n → f i < 256) : xs f n < 256 := by
  induction n with
  | zero => show 0 < 256; omega
  | succ n ih => exact GF.xor_lt (ih fun i hi => h i (by omega)) (h n (by omega))
/-- the product's place -/
def mm (n : Nat) (A B : Nat → Nat → Nat) (r c : Nat) : Nat := xs (fun k => GF.mul (A r k) (B k c)) n
theorem mul_q (X Y M : Nat) (hX : X < 256) (hY : Y < 256) (h : GF.mul X Y = M) (w : World) : Calls Try.prog 28 #[.int .u8 (X : Int), .int .u8 (Y : Int)] w fun e w' => e = .returned (.int .u8 (M : Int)) ∧ w' = w :=
  (mul_nat X Y hX hY w).mono fun e w' k => ⟨by rw [k.1, h], k.2.symm⟩
theorem add_q (X Y M : Nat) (hX : X < 256) (hY : Y < 256) (h : X ^^^ Y = M) (w : World) : Calls Try.prog 39 #[.int .u8 (X : Int), .int .u8 (Y : Int)] w fun e w' => e = .returned (.int .u8 (M : Int)) ∧ w' = w :=
  (add_nat X Y hX hY w).mono fun e w' k => ⟨by rw [k.1, h], k.2.symm⟩
/-- a grid of equal rows, at plain addresses -/
theorem Grid.at {w : World} {a : Option Addr} {r n : Nat} {M : Nat → Nat → Nat} (h : Grid w a r (fun _ => n) M) (hn : 0 < n) (h0 : 0 < r) :
    ∃ (b o : Nat) (C B O : Nat → Nat), a = some ⟨b, o, none⟩ ∧ ∀ i, i < r → w.cell? ⟨b, o + i, none⟩ = some (.slice (some ⟨B i, O i, none⟩) n (C i)) ∧
      ∀ j, j < n → w.cell? ⟨B i, O i + j, none⟩ = some (.int .u8 (M i j : Int)) ∧ M i j < 256 := by
  obtain ⟨hr, b, o, A, C, B, O, ha, hc⟩ := h
  refine ⟨b, o, C, B, O, ha h0, fun i hi => ⟨?_, (hc i hi).2.2.2⟩⟩
  rw [(hc i hi).1, (hc i hi).2.2.1 hn]
set_option maxRecDepth 100000 in
set_option maxHeartbeats 4000000 in
theorem dot_any (pb qb ra ca n m cb : Nat) (a b : Option Addr) (A B : Nat → Nat → Nat) (w : World)
    (hb : w.cell? ⟨pb, 0, none⟩ = some (.slice b n cb)) (ha : w.cell? ⟨qb, 0, none⟩ = some (.slice a ra ca))
    (gA : Grid w a ra (fun _ => n) A) (gB : Grid w b n (fun _ => m) B) (hn : 1 ≤ n ∧ n ≤ 32) (r c : Nat) (hr : r < ra) (hra : ra ≤ 32) (hc : c < m) (hm : m ≤ 32) :
    Calls Try.prog 38 #[.int .i64 (r : Int), .int .i64 (c : Int), .pointer (some ⟨pb, 0, none⟩), .pointer (some ⟨qb, 0, none⟩)] w fun e w' => e = .returned (.int .u8 (mm n A B r c : Int)) ∧ ∃ k, w' = w.drewN k := by
  obtain ⟨xa, oa, CA, BA, OA, rfl, cA⟩ := gA.at (by omega) (by omega)
  obtain ⟨xb, ob, CB, BB, OB, rfl, cB⟩ := gB.at (by omega) (by omega)
  have cR := (cA r hr).1
  have HcA := Lib.hid (cA r hr).2
  have HcB := Lib.hid cB
  have i0 : (0 : Int) ≤ (r : Int) := by omega
  have i1 : (r : Int) < (ra : Int) := by omega
  have i2 : (r : Int) ≤ 32 := by omega
  have j0 : (0 : Int) ≤ (c : Int) := by omega
  have j1 : (c : Int) < (m : Int) := by omega
  have j2 : (c : Int) ≤ 32 := by omega
  have n2 : (n : Int) ≤ 32 := by omega
  clear cA cB gA gB
  go_enter Try.func38, Try.ntmps38
  go_wp2
  go_loopw [7, 11] (fun s7 s11 W => ∃ k d : Nat, k ≤ n ∧ s11 = .int .i64 (k : Int) ∧ s7 = .int .u8 (xs (fun k => GF.mul (A r k) (B k c)) k : Int) ∧ W = w.drewN d) (fun _ s11 _ => n - (intOf s11).toNat)
  case atStart => exact ⟨0, 0, Nat.zero_le _, rfl, rfl, rfl⟩
  case round =>
    obtain ⟨k, d, hk, rfl, rfl, rfl⟩ := hrel
    by_cases hkn : k < n
    · have k0 : (0 : Int) ≤ (k : Int) := by omega
      have k1 : (k : Int) < (n : Int) := by omega
      have k2 : (k : Int) ≤ 32 := by omega
      obtain ⟨e1, e2⟩ := HcA.out k hkn
      obtain ⟨f1, f2⟩ := HcB.out k hkn
      obtain ⟨f3, f4⟩ := f2 c hc
      obtain ⟨X, hX⟩ : ∃ X, X = A r k := ⟨_, rfl⟩
      obtain ⟨Y, hY⟩ : ∃ Y, Y = B k c := ⟨_, rfl⟩
      obtain ⟨S, hS⟩ : ∃ S, S = xs (fun k => GF.mul (A r k) (B k c)) k := ⟨_, rfl⟩
      rw [← hX] at e1 e2
      rw [← hY] at f3 f4
      rw [← hS]
      have s2 : S < 256 := by rw [hS]; exact xs_lt _ _ fun i hi => GF.mul_lt _ _ ((HcA.out i (by omega)).2)
      obtain ⟨P, hP⟩ : ∃ P, GF.mul X Y = P := ⟨_, rfl⟩
      have p2 : P < 256 := by rw [← hP]; exact GF.mul_lt _ _ e2
      obtain ⟨Q, hQ⟩ : ∃ Q, S ^^^ P = Q := ⟨_, rfl⟩
      have HQ : Hid (xs (fun k => GF.mul (A r k) (B k c)) (k + 1) = Q) := Lib.hid (by rw [← hQ, ← hP, hS, hX, hY]; rfl)
      have HP := Lib.hid hP
      have HS := Lib.hid hQ
      clear hP hQ hX hY hS
      have ha' : (w.drewN d).cell? ⟨qb, 0, none⟩ = some (.slice (some ⟨xa, oa, none⟩) ra ca) := ha
      have hb' : (w.drewN d).cell? ⟨pb, 0, none⟩ = some (.slice (some ⟨xb, ob, none⟩) n cb) := hb
      have cR' : (w.drewN d).cell? ⟨xa, oa + r, none⟩ = some (.slice (some ⟨BA r, OA r, none⟩) n (CA r)) := cR
      have e1' : (w.drewN d).cell? ⟨BA r, OA r + k, none⟩ = some (.int .u8 (X : Int)) := e1
      have f1' : (w.drewN d).cell? ⟨xb, ob + k, none⟩ = some (.slice (some ⟨BB k, OB k, none⟩) m (CB k)) := f1
      have f3' : (w.drewN d).cell? ⟨BB k, OB k + c, none⟩ = some (.int .u8 (Y : Int)) := f3
      clear ha hb cR e1 f1 f3
      generalize hW : w.drewN d = W at *
      have HW := Lib.hid hW
      clear hW
      go_wp2_with fail
      go_quiet (first
        | (go_at_call 28; refine Calls.quiet_of_same (mul_q X Y P e2 f4 HP.out _))
        | (go_at_call 39; refine Calls.quiet_of_same (add_q S P Q s2 p2 HS.out _)))
      go_wp2
      go_roundw
      case rel => exact ⟨k + 1, _, by omega, by go_num, by rw [HQ.out], by rw [← HW.out, World.drewN_drewN]⟩
      case measure => simp [intOf]; omega
    · have hkk : k = n := by omega
      subst hkk
      have k1 : ¬ (k : Int) < (k : Int) := by omega
      go_wp2
      go_ret
      exact ⟨rfl, d, rfl⟩
end Go.Proofs.Ytlpmehnffdaobaa
