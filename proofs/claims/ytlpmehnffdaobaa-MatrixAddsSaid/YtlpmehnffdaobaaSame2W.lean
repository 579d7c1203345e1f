/- bytes.Equal, slices.EqualFunc at it, matrix.Same walked. -/
import Derived.Test.YtlpmehnffdaobaaSameW
namespace Go.Proofs.Ytlpmehnffdaobaa
open Go.RowKit
set_option linter.unusedVariables false
set_option maxRecDepth 100000 in
set_option maxHeartbeats 2000000 in
theorem equal_any (a b : Option Addr) (n m ca cb Ba Oa Bb Ob : Nat) (f g : Nat → Nat) (w : World) (ha : 0 < n → a = some ⟨Ba, Oa, none⟩) (hf : ∀ j, j < n → w.cell? ⟨Ba, Oa + j, none⟩ = some (.int .u8 (f j : Int)) ∧ f j < 256)
    (hb : 0 < m → b = some ⟨Bb, Ob, none⟩) (hg : ∀ j, j < m → w.cell? ⟨Bb, Ob + j, none⟩ = some (.int .u8 (g j : Int)) ∧ g j < 256) (e : Bool) (he : (e = true) ↔ (n = m ∧ ∀ j, j < n → f j = g j)) :
    Calls Try.prog 41 #[.slice a n ca, .slice b m cb] w fun v w' => v = .returned (.bool e) ∧ w = w' := by
  have u1 := run_txt w a n ca Ba Oa f ha hf
  have u2 := run_txt w b m cb Bb Ob g hb hg
  have hx := txt_eq n m f g (fun j hj => (hf j hj).2) (fun j hj => (hg j hj).2)
  have HE := Lib.hid (he.trans hx.symm)
  clear hx he hf hg ha hb
  generalize txt n f = X at *
  generalize txt m g = Y at *
  by_cases hxy : X = Y
  · have qq : (X.toList == Y.toList) = true := by rw [hxy]; exact beq_self_eq_true _
    have : e = true := HE.out.2 hxy
    subst this
    clear hxy HE
    go_enter Try.func41, Try.ntmps41
    go_wp2
    go_ret
    exact ⟨rfl, rfl⟩
  · have qq : (X.toList == Y.toList) = false := beq_eq_false_iff_ne.2 (txt_ne hxy)
    have : e = false := by
      cases e with
      | false => rfl
      | true => exact absurd (HE.out.1 rfl) hxy
    subst this
    clear hxy HE
    go_enter Try.func41, Try.ntmps41
    go_wp2
    go_ret
    exact ⟨rfl, rfl⟩
set_option maxRecDepth 100000 in
set_option maxHeartbeats 8000000 in
theorem equalFunc_any (a b : Option Addr) (ra rb ca cb : Nat) (LA LB : Nat → Nat) (A B : Nat → Nat → Nat) (w : World) (gA : Grid w a ra LA A) (gB : Grid w b rb LB B) (e : Bool) (he : (e = true) ↔ SameM ra LA A rb LB B) :
    Calls Try.prog 40 #[.slice a ra ca, .slice b rb cb, .func (.func 41) #[] #[]] w fun v w' => v = .returned (.bool e) ∧ w = w' := by
  have HE := Lib.hid he
  clear he
  by_cases hn : ra = rb
  · subst hn
    have q : ((ra : Int) == (ra : Int)) = true := beq_self_eq_true _
    obtain ⟨m1, x1, o1, S1, C1, B1, O1, a1, c1⟩ := gA
    obtain ⟨m2, x2, o2, S2, C2, B2, O2, a2, c2⟩ := gB
    unfold maxLen at m1
    have K1 := Lib.hid c1
    have K2 := Lib.hid c2
    have A1 := Lib.hid a1
    have A2 := Lib.hid a2
    clear c1 c2 a1 a2 m2
    go_enter Try.func40, Try.ntmps40
    go_wp2
    go_loop [17] (fun i => ∃ k : Nat, k ≤ ra ∧ i = .int .i64 (k : Int) ∧ Hid (∀ j, j < k → LA j = LB j ∧ ∀ c, c < LA j → A j c = B j c)) (fun i => ra - (intOf i).toNat)
    case atStart => exact ⟨0, Nat.zero_le _, rfl, Lib.hid fun j hj => absurd hj (Nat.not_lt_zero _)⟩
    case round =>
      obtain ⟨k, hk, rfl, hi⟩ := hrel
      by_cases hkr : k < ra
      · have hz : (k : Int) < (ra : Int) := by omega
        have hz0 : (0 : Int) ≤ (k : Int) := by omega
        obtain rfl := A1.out (by omega)
        obtain rfl := A2.out (by omega)
        have d1 := (K1.out k hkr).1
        have d2 := (K2.out k hkr).1
        by_cases hrow : LA k = LB k ∧ ∀ j, j < LA k → A k j = B k j
        · have HX := Lib.hid hrow
          clear hrow
          go_wp2_with fail
          refine (equal_any _ _ _ _ _ _ _ _ _ _ (A k) (B k) w (K1.out k hkr).2.2.1 (K1.out k hkr).2.2.2 (K2.out k hkr).2.2.1 (K2.out k hkr).2.2.2 true ⟨fun _ => HX.out, fun _ => rfl⟩).mono ?_
          rintro v w' ⟨rfl, rfl⟩
          go_wp2
          go_round
          case rel => exact ⟨k + 1, by omega, by go_num, Lib.hid fun j hj => by
            by_cases hjk : j = k
            · rw [hjk]; exact HX.out
            · exact hi.out j (by omega)⟩
          case measure => simp [intOf]; omega
        · have HX := Lib.hid hrow
          clear hrow
          have : e = false := by
            cases e with
            | false => rfl
            | true => exact absurd ((HE.out.1 rfl).2 k hkr) HX.out
          subst this
          go_wp2_with fail
          refine (equal_any _ _ _ _ _ _ _ _ _ _ (A k) (B k) w (K1.out k hkr).2.2.1 (K1.out k hkr).2.2.2 (K2.out k hkr).2.2.1 (K2.out k hkr).2.2.2 false ⟨(fun h => absurd h (by decide)), (fun h => absurd h HX.out)⟩).mono ?_
          rintro v w' ⟨rfl, rfl⟩
          go_wp2
          go_ret
          exact ⟨rfl, rfl⟩
      · have hkk : k = ra := by omega
        have : e = true := HE.out.2 ⟨rfl, fun j hj => hi.out j (by omega)⟩
        subst this
        have hz : ¬ (k : Int) < (ra : Int) := by omega
        go_wp2
        go_ret
        exact ⟨rfl, rfl⟩
  · have q : ((ra : Int) == (rb : Int)) = false := by rw [beq_eq_false_iff_ne]; omega
    have : e = false := by cases e with | false => rfl | true => exact absurd (HE.out.1 rfl).1 hn
    subst this
    clear gA gB hn
    go_enter Try.func40, Try.ntmps40
    go_wp2
    go_ret
    exact ⟨rfl, rfl⟩
set_option maxRecDepth 100000 in
theorem same_any (a b : Option Addr) (ra rb ca cb : Nat) (LA LB : Nat → Nat) (A B : Nat → Nat → Nat) (w : World) (gA : Grid w a ra LA A) (gB : Grid w b rb LB B) (e : Bool) (he : (e = true) ↔ SameM ra LA A rb LB B) :
    Calls Try.prog 23 #[.slice a ra ca, .slice b rb cb] w fun v w' => v = .returned (.bool e) ∧ w = w' := by
  have HE := Lib.hid he
  have GA := Lib.hid gA
  have GB := Lib.hid gB
  clear he gA gB
  go_enter Try.func23, Try.ntmps23
  go_wp2_with fail
  refine (equalFunc_any a b ra rb ca cb LA LB A B w GA.out GB.out e HE.out).mono ?_
  rintro v w' ⟨rfl, rfl⟩
  go_wp2
  go_ret
  exact ⟨rfl, rfl⟩
end Go.Proofs.Ytlpmehnffdaobaa
