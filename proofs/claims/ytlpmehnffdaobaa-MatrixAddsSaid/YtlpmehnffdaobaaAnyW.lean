/- The contracts at any arguments: what each call answers, refused or not. -/
import Derived.Test.YtlpmehnffdaobaaShown
import Derived.Test.YtlpmehnffdaobaaRInvN
import Derived.Test.YtlpmehnffdaobaaSame2W
namespace Go.Proofs.Ytlpmehnffdaobaa
open Go.RowKit Go.Deep
set_option linter.unusedVariables false
theorem grid_nil (w : World) (L : Nat → Nat) (M : Nat → Nat → Nat) : Grid w none 0 L M :=
  ⟨Nat.zero_le _, 0, 0, fun _ => none, fun _ => 0, fun _ => 0, fun _ => 0, fun h => absurd h (Nat.lt_irrefl 0), fun i hi => absurd hi (Nat.not_lt_zero i)⟩
/-- how many rows, and which error, at numbers that may be refused -/
def rI (p : Prop) [Decidable p] (n : Nat) : Nat := if p then n else 0
def eI (p : Prop) [Decidable p] : Int := if p then 0 else 1
theorem eI_bd (p : Prop) [Decidable p] : 0 ≤ eI p ∧ eI p ≤ 1 := by unfold eI; split <;> omega
theorem identity_any (n : Int) (w : World) : Calls Try.prog 15 #[.int .i64 n] w fun e w' => ∃ a cap, e = .returned (.tuple #[.slice a (rI (1 ≤ n ∧ n ≤ 32) n.toNat) cap, .int .i64 (eI (1 ≤ n ∧ n ≤ 32))]) ∧ Grid w' a (rI (1 ≤ n ∧ n ≤ 32) n.toNat) (fun _ => n.toNat) idm ∧ Below w.heap.size w w' := by
  by_cases h : 1 ≤ n ∧ n ≤ 32
  · obtain ⟨k, rfl⟩ := Int.eq_ofNat_of_zero_le (show 0 ≤ n by omega)
    refine (identity_yes k (by omega) w).mono ?_
    rintro e w' ⟨rfl, hO⟩
    unfold rI eI
    rw [if_pos h, if_pos h]
    exact ⟨_, _, rfl, hO.grid (by omega) (by omega) fun r _ c _ => idm_lt r c, hO.fresh.below⟩
  · refine (identity_no n h w).mono ?_
    rintro e w' ⟨rfl, hf⟩
    unfold rI eI
    rw [if_neg h, if_neg h]
    exact ⟨_, _, rfl, grid_nil _ _ _, hf.below⟩
theorem ridentity_any (n : Int) (w : World) : Calls Try.prog 16 #[.int .i64 n] w fun e w' => ∃ a cap, e = .returned (.tuple #[.slice a (rI (1 ≤ n ∧ n ≤ 32) n.toNat) cap, .int .i64 (eI (1 ≤ n ∧ n ≤ 32))]) ∧ Grid w' a (rI (1 ≤ n ∧ n ≤ 32) n.toNat) (fun _ => n.toNat) idm ∧ Below w.heap.size w w' := by
  by_cases h : 1 ≤ n ∧ n ≤ 32
  · obtain ⟨k, rfl⟩ := Int.eq_ofNat_of_zero_le (show 0 ≤ n by omega)
    refine (ridentity_yes k (by omega) w).mono ?_
    rintro e w' ⟨v, G, C, rfl, hO⟩
    obtain ⟨g, cap, rfl, hg⟩ := hO.grid (by omega) (by unfold maxLen; omega)
    unfold rI eI
    rw [if_pos h, if_pos h]
    exact ⟨_, _, rfl, hg, hO.below⟩
  · refine (ridentity_no n h w).mono ?_
    rintro e w' ⟨rfl, rfl⟩
    unfold rI eI
    rw [if_neg h, if_neg h]
    exact ⟨_, _, rfl, grid_nil _ _ _, Below.refl _ _⟩
theorem powers_any (r c : Int) (w : World) : Calls Try.prog 17 #[.int .i64 r, .int .i64 c] w fun e w' => ∃ a cap, e = .returned (.tuple #[.slice a (rI (1 ≤ r ∧ r ≤ 32 ∧ 1 ≤ c ∧ c ≤ 32) r.toNat) cap, .int .i64 (eI (1 ≤ r ∧ r ≤ 32 ∧ 1 ≤ c ∧ c ≤ 32))]) ∧ Grid w' a (rI (1 ≤ r ∧ r ≤ 32 ∧ 1 ≤ c ∧ c ≤ 32) r.toNat) (fun _ => c.toNat) vdm ∧ Below w.heap.size w w' := by
  by_cases h : 1 ≤ r ∧ r ≤ 32 ∧ 1 ≤ c ∧ c ≤ 32
  · obtain ⟨k, rfl⟩ := Int.eq_ofNat_of_zero_le (show 0 ≤ r by omega)
    obtain ⟨m, rfl⟩ := Int.eq_ofNat_of_zero_le (show 0 ≤ c by omega)
    refine (powers_yes k m (by omega) (by omega) w).mono ?_
    rintro e w' ⟨rfl, hO⟩
    unfold rI eI
    rw [if_pos h, if_pos h]
    exact ⟨_, _, rfl, hO.grid (by omega) (by omega) fun r hr c _ => GF.npow_lt r c (by omega), hO.fresh.below⟩
  · refine (powers_no r c h w).mono ?_
    rintro e w' ⟨rfl, hf⟩
    unfold rI eI
    rw [if_neg h, if_neg h]
    exact ⟨_, _, rfl, grid_nil _ _ _, hf.below⟩
theorem rpowers_any (r c : Int) (w : World) : Calls Try.prog 18 #[.int .i64 r, .int .i64 c] w fun e w' => ∃ a cap, e = .returned (.tuple #[.slice a (rI (1 ≤ r ∧ r ≤ 32 ∧ 1 ≤ c ∧ c ≤ 32) r.toNat) cap, .int .i64 (eI (1 ≤ r ∧ r ≤ 32 ∧ 1 ≤ c ∧ c ≤ 32))]) ∧ Grid w' a (rI (1 ≤ r ∧ r ≤ 32 ∧ 1 ≤ c ∧ c ≤ 32) r.toNat) (fun _ => c.toNat) vdm ∧ Below w.heap.size w w' := by
  by_cases h : 1 ≤ r ∧ r ≤ 32 ∧ 1 ≤ c ∧ c ≤ 32
  · obtain ⟨k, rfl⟩ := Int.eq_ofNat_of_zero_le (show 0 ≤ r by omega)
    obtain ⟨m, rfl⟩ := Int.eq_ofNat_of_zero_le (show 0 ≤ c by omega)
    refine (rpowers_yes k m (by omega) (by omega) w).mono ?_
    rintro e w' ⟨v, G, C, rfl, hO⟩
    obtain ⟨g, cap, rfl, hg⟩ := hO.grid (by omega) (by unfold maxLen; omega)
    unfold rI eI
    rw [if_pos h, if_pos h]
    exact ⟨_, _, rfl, hg, hO.below⟩
  · refine (rpowers_no r c h w).mono ?_
    rintro e w' ⟨rfl, rfl⟩
    unfold rI eI
    rw [if_neg h, if_neg h]
    exact ⟨_, _, rfl, grid_nil _ _ _, Below.refl _ _⟩
/-- a product is made -/
def MulOk (ra : Nat) (LA : Nat → Nat) (rb : Nat) (LB : Nat → Nat) : Prop := May ra LA ∧ May rb LB ∧ LA 0 = rb
open Classical in
theorem mul_any2 (a b : Option Addr) (ra rb ca cb : Nat) (LA LB : Nat → Nat) (A B : Nat → Nat → Nat) (w : World) (gA : Grid w a ra LA A) (gB : Grid w b rb LB B) :
    Calls Try.prog 19 #[.slice a ra ca, .slice b rb cb] w fun e w' => ∃ x cap, e = .returned (.tuple #[.slice x (rI (MulOk ra LA rb LB) ra) cap, .int .i64 (eI (MulOk ra LA rb LB))]) ∧ Grid w' x (rI (MulOk ra LA rb LB) ra) (fun _ => LB 0) (mm rb A B) ∧ Below w.heap.size w w' := by
  by_cases h : MulOk ra LA rb LB
  · obtain ⟨h1, h2, h3⟩ := id h
    have gA' : Grid w a ra (fun _ => rb) A := gA.congr (fun i hi => by rw [h1.2.2.2.2 i hi, h3]) fun _ _ _ _ => rfl
    have gB' : Grid w b rb (fun _ => LB 0) B := gB.congr (fun i hi => h2.2.2.2.2 i hi) fun _ _ _ _ => rfl
    refine (mulx_yes a b ra rb (LB 0) ca cb A B w gA' gB' ⟨h1.1, h1.2.1, h2.1, h2.2.1, fun _ _ => rfl⟩ ⟨h2.1, h2.2.1, h2.2.2.1, h2.2.2.2.1, fun _ _ => rfl⟩).mono ?_
    rintro e w' ⟨x, rfl, hg, hf⟩
    unfold rI eI
    rw [if_pos h, if_pos h]
    exact ⟨_, _, rfl, hg, hf.below⟩
  · have key : Calls Try.prog 19 #[.slice a ra ca, .slice b rb cb] w fun v w' => v = .returned (.tuple #[.slice none 0 0, .int .i64 1]) ∧ Fresh w w' := by
      by_cases h1 : May ra LA
      · by_cases h2 : May rb LB
        · exact mulx_c a b ra rb ca cb LA LB A B w gA gB h1 h2 fun e => h ⟨h1, h2, e⟩
        · exact mulx_b a b ra rb ca cb LA LB A B w gA gB h1 h2
      · exact mulx_a a b ra rb ca cb LA LB A B w gA h1
    refine key.mono ?_
    rintro e w' ⟨rfl, hf⟩
    unfold rI eI
    rw [if_neg h, if_neg h]
    exact ⟨_, _, rfl, grid_nil _ _ _, hf.below⟩
open Classical in
theorem rmul_any2 (a b : Option Addr) (ra rb ca cb : Nat) (LA LB : Nat → Nat) (A B : Nat → Nat → Nat) (w : World) (gA : Grid w a ra LA A) (gB : Grid w b rb LB B) :
    Calls Try.prog 20 #[.slice a ra ca, .slice b rb cb] w fun e w' => ∃ x cap, e = .returned (.tuple #[.slice x (rI (MulOk ra LA rb LB) ra) cap, .int .i64 (eI (MulOk ra LA rb LB))]) ∧ Grid w' x (rI (MulOk ra LA rb LB) ra) (fun _ => LB 0) (mm rb A B) ∧ Below w.heap.size w w' := by
  by_cases h : MulOk ra LA rb LB
  · obtain ⟨h1, h2, h3⟩ := id h
    have gA' : Grid w a ra (fun _ => rb) A := gA.congr (fun i hi => by rw [h1.2.2.2.2 i hi, h3]) fun _ _ _ _ => rfl
    have gB' : Grid w b rb (fun _ => LB 0) B := gB.congr (fun i hi => h2.2.2.2.2 i hi) fun _ _ _ _ => rfl
    refine (rmulx_yes a b ra rb (LB 0) ca cb A B w gA' gB' ⟨h1.1, h1.2.1, h2.1, h2.2.1, fun _ _ => rfl⟩ ⟨h2.1, h2.2.1, h2.2.2.1, h2.2.2.2.1, fun _ _ => rfl⟩).mono ?_
    rintro e w' ⟨v, G, C, rfl, hO⟩
    obtain ⟨g, cap, rfl, hg⟩ := hO.grid (by have := h1.1; omega) (by have := h2.2.2.2.1; unfold maxLen; omega)
    unfold rI eI
    rw [if_pos h, if_pos h]
    exact ⟨_, _, rfl, hg, hO.below⟩
  · have key : Calls Try.prog 20 #[.slice a ra ca, .slice b rb cb] w fun v w' => v = .returned (.tuple #[.slice none 0 0, .int .i64 1]) ∧ Fresh w w' := by
      by_cases h1 : May ra LA
      · by_cases h2 : May rb LB
        · exact rmulx_c a b ra rb ca cb LA LB A B w gA gB h1 h2 fun e => h ⟨h1, h2, e⟩
        · exact rmulx_no a b ra rb ca cb LA LB A B w gA gB true false ⟨fun _ => h1, fun _ => rfl⟩ ⟨fun k => absurd k (by decide), fun k => absurd k h2⟩ rfl
      · exact rmulx_no a b ra rb ca cb LA LB A B w gA gB false (decide (May rb LB)) ⟨fun k => absurd k (by decide), fun k => absurd k h1⟩ (by simp) rfl
    refine key.mono ?_
    rintro e w' ⟨rfl, hf⟩
    unfold rI eI
    rw [if_neg h, if_neg h]
    exact ⟨_, _, rfl, grid_nil _ _ _, hf.below⟩
/-- what Inverse answers: rows, error, places -/
def InvRes (r : Nat) (L : Nat → Nat) (M : Nat → Nat → Nat) (rr : Nat) (ee : Int) (N : Nat → Nat → Nat) : Prop :=
  (¬ (May r L ∧ L 0 = r) ∧ rr = 0 ∧ ee = 1) ∨ ((May r L ∧ L 0 = r) ∧ LA.gj r r 0 (LA.aug r M) = none ∧ rr = 0 ∧ ee = 7) ∨
    ((May r L ∧ L 0 = r) ∧ ∃ P, LA.gj r r 0 (LA.aug r M) = some P ∧ rr = r ∧ ee = 0 ∧ N = LA.half r P)
theorem InvRes.same {r : Nat} {L : Nat → Nat} {M : Nat → Nat → Nat} {r1 r2 : Nat} {e1 e2 : Int} {N1 N2 : Nat → Nat → Nat} (h1 : InvRes r L M r1 e1 N1) (h2 : InvRes r L M r2 e2 N2) : r1 = r2 ∧ e1 = e2 ∧ ∀ i, i < r1 → N1 i = N2 i := by
  rcases h1 with ⟨a, b, c⟩ | ⟨a, b, c, d⟩ | ⟨a, P, b, c, d, e⟩
  · rcases h2 with ⟨a', b', c'⟩ | ⟨a', b', c', d'⟩ | ⟨a', P', b', c', d', e'⟩
    · exact ⟨b.trans b'.symm, c.trans c'.symm, fun i hi => absurd hi (by omega)⟩
    · exact absurd a' a
    · exact absurd a' a
  · rcases h2 with ⟨a', b', c'⟩ | ⟨a', b', c', d'⟩ | ⟨a', P', b', c', d', e'⟩
    · exact absurd a a'
    · exact ⟨c.trans c'.symm, d.trans d'.symm, fun i hi => absurd hi (by omega)⟩
    · rw [b] at b'; exact absurd b' (by simp)
  · rcases h2 with ⟨a', b', c'⟩ | ⟨a', b', c', d'⟩ | ⟨a', P', b', c', d', e'⟩
    · exact absurd a a'
    · rw [b] at b'; exact absurd b' (by simp)
    · rw [b] at b'
      injection b' with b'
      subst b'
      exact ⟨c.trans c'.symm, d.trans d'.symm, fun i _ => by rw [e, e']⟩
theorem InvRes.bd {r : Nat} {L : Nat → Nat} {M : Nat → Nat → Nat} {r1 : Nat} {e1 : Int} {N1 : Nat → Nat → Nat} (h1 : InvRes r L M r1 e1 N1) : 0 ≤ e1 ∧ e1 ≤ 7 ∧ (r1 = 0 ∨ r1 = r) := by
  rcases h1 with ⟨a, b, c⟩ | ⟨a, b, c, d⟩ | ⟨a, P, b, c, d, e⟩
  · omega
  · omega
  · omega
theorem inverse_any (a : Option Addr) (r ca : Nat) (L : Nat → Nat) (M : Nat → Nat → Nat) (w : World) (hg : Grid w a r L M) :
    Calls Try.prog 12 #[.slice a r ca] w fun e w' => ∃ x rr cap ee N, e = .returned (.tuple #[.slice x rr cap, .int .i64 ee]) ∧ InvRes r L M rr ee N ∧ Grid w' x rr (fun _ => r) N ∧ Below w.heap.size w w' := by
  by_cases h : May r L ∧ L 0 = r
  · have hg' : Grid w a r (fun _ => r) M := hg.congr (fun i hi => by rw [h.1.2.2.2.2 i hi, h.2]) fun _ _ _ _ => rfl
    refine (inverse_yes a r ca M w hg' ⟨h.1.1, h.1.2.1, h.1.1, h.1.2.1, fun _ _ => rfl⟩).mono ?_
    rintro e w' ⟨hb, ⟨h1, rfl⟩ | ⟨P, x, cap, h1, rfl, h3⟩⟩
    · exact ⟨_, _, _, _, fun _ _ => 0, rfl, .inr (.inl ⟨h, h1, rfl, rfl⟩), grid_nil _ _ _, hb⟩
    · exact ⟨_, _, _, _, _, rfl, .inr (.inr ⟨h, P, h1, rfl, rfl, rfl⟩), h3, hb⟩
  · refine (inverse_no a r ca L M w hg h).mono ?_
    rintro e w' ⟨rfl, rfl⟩
    exact ⟨_, _, _, _, fun _ _ => 0, rfl, .inl ⟨h, rfl, rfl⟩, grid_nil _ _ _, Below.refl _ _⟩
theorem rinverse_any (a : Option Addr) (r ca : Nat) (L : Nat → Nat) (M : Nat → Nat → Nat) (w : World) (hg : Grid w a r L M) :
    Calls Try.prog 13 #[.slice a r ca] w fun e w' => ∃ x rr cap ee N, e = .returned (.tuple #[.slice x rr cap, .int .i64 ee]) ∧ InvRes r L M rr ee N ∧ Grid w' x rr (fun _ => r) N ∧ Below w.heap.size w w' := by
  by_cases h : May r L ∧ L 0 = r
  · have hg' : Grid w a r (fun _ => r) M := hg.congr (fun i hi => by rw [h.1.2.2.2.2 i hi, h.2]) fun _ _ _ _ => rfl
    refine (rinverse_yes a r ca M w hg' ⟨h.1.1, h.1.2.1, h.1.1, h.1.2.1, fun _ _ => rfl⟩).mono ?_
    rintro e w' ⟨hb, ⟨h1, rfl⟩ | ⟨P, x, cap, h1, rfl, h3⟩⟩
    · exact ⟨_, _, _, _, fun _ _ => 0, rfl, .inr (.inl ⟨h, h1, rfl, rfl⟩), grid_nil _ _ _, hb⟩
    · exact ⟨_, _, _, _, _, rfl, .inr (.inr ⟨h, P, h1, rfl, rfl, rfl⟩), h3, hb⟩
  · refine (rinverse_no a r ca L M w hg h).mono ?_
    rintro e w' ⟨rfl, hf⟩
    exact ⟨_, _, _, _, fun _ _ => 0, rfl, .inl ⟨h, rfl, rfl⟩, grid_nil _ _ _, hf.below⟩
end Go.Proofs.Ytlpmehnffdaobaa
