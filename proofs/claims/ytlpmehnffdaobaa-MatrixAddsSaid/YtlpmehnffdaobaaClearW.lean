/- matrix.clear walked. -/
import Derived.Test.YtlpmehnffdaobaaPut
import Derived.StillTailTactics
namespace Go.Proofs.Ytlpmehnffdaobaa
open Go.RowKit Go.Deep
set_option linter.unusedVariables false
/-- what 'clear' leaves -/
def clr (a : Nat) (M : Nat → Nat → Nat) (i j : Nat) : Nat := if i = a then M i j else M i j ^^^ GF.mul (M i a) (M a j)
/-- k rows are done, and c places of the next -/
def clrAt (a : Nat) (M : Nat → Nat → Nat) (k c : Nat) (i j : Nat) : Nat := if i < k ∨ (i = k ∧ j < c) then clr a M i j else M i j
theorem clr_skip (a : Nat) (M : Nat → Nat → Nat) (k i j : Nat) (h : k = a ∨ M k a = 0) (hb : M a j < 256) : clrAt a M k 0 i j = clrAt a M (k + 1) 0 i j := by
  unfold clrAt
  by_cases h1 : i < k
  · rw [if_pos (.inl h1), if_pos (.inl (by omega))]
  · rw [if_neg (by omega)]
    by_cases h2 : i = k
    · rw [if_pos (.inl (by omega))]
      unfold clr
      subst h2
      rcases h with h | h
      · rw [if_pos h]
      · by_cases h3 : i = a
        · rw [if_pos h3]
        · rw [if_neg h3, h, GF.zero_mul _ hb, Nat.xor_zero]
    · rw [if_neg (by omega)]
theorem clr_full (a : Nat) (M : Nat → Nat → Nat) (k m i j : Nat) (hj : j < m) : clrAt a M k m i j = clrAt a M (k + 1) 0 i j := by
  unfold clrAt
  by_cases h1 : i < k ∨ (i = k ∧ j < m)
  · rw [if_pos h1, if_pos (.inl (by omega))]
  · rw [if_neg h1, if_neg (by omega)]
theorem clr_end (a : Nat) (M : Nat → Nat → Nat) (n i j : Nat) (hi : i < n) : clrAt a M n 0 i j = clr a M i j := by
  unfold clrAt
  rw [if_pos (.inl hi)]
theorem clrAt_here (a : Nat) (M : Nat → Nat → Nat) (k c : Nat) : clrAt a M k c k c = M k c := by unfold clrAt; rw [if_neg (by omega)]
theorem clrAt_at (a : Nat) (M : Nat → Nat → Nat) (k c : Nat) (h : ¬ k = a) : clrAt a M k c a c = M a c := by
  unfold clrAt clr
  split
  · rw [if_pos rfl]
  · rfl
theorem clr_put (a : Nat) (M : Nat → Nat → Nat) (k c i j Q : Nat) (h : clr a M k c = Q) : (if i = k ∧ j = c then Q else clrAt a M k c i j) = clrAt a M k (c + 1) i j := by
  unfold clrAt
  by_cases e : i = k ∧ j = c
  · rw [if_pos e, if_pos (.inr (by omega)), e.1, e.2, h]
  · rw [if_neg e]
    by_cases h1 : i < k ∨ (i = k ∧ j < c)
    · rw [if_pos h1, if_pos (by omega)]
    · rw [if_neg h1, if_neg (by omega)]
theorem cellDrew (w : World) (a : Addr) : w.drew.cell? a = w.cell? a := rfl
theorem mul_c (X Y M : Nat) (hX : X < 256) (hY : Y < 256) (h : GF.mul X Y = M) (w : World) : Calls Try.prog 28 #[.int .u8 (X : Int), .int .u8 (Y : Int)] w fun e w' => e = .returned (.int .u8 (M : Int)) ∧ w = w' :=
  (mul_nat X Y hX hY w).mono fun e w' k => ⟨by rw [k.1, h], k.2⟩
theorem add_c (X Y M : Nat) (hX : X < 256) (hY : Y < 256) (h : X ^^^ Y = M) (w : World) : Calls Try.prog 39 #[.int .u8 (X : Int), .int .u8 (Y : Int)] w fun e w' => e = .returned (.int .u8 (M : Int)) ∧ w = w' :=
  (add_nat X Y hX hY w).mono fun e w' k => ⟨by rw [k.1, h], k.2⟩
/-- only the rows' blocks have changed -/
def Kept (n : Nat) (G : Nat → Nat) (W W' : World) : Prop := ∀ k, (∀ i, i < n → G i ≠ k) → W'.heap[k]? = W.heap[k]?
theorem Kept.refl (n : Nat) (G : Nat → Nat) (W : World) : Kept n G W W := fun _ _ => rfl
theorem Kept.put {n : Nat} {G : Nat → Nat} {W W' : World} (h : Kept n G W W') (r c : Nat) (hr : r < n) (v : Value) : Kept n G W (W'.drew.setCell ⟨G r, c, none⟩ v) :=
  fun k hk => (blk_setCell_other W'.drew ⟨G r, c, none⟩ v k (fun e => hk r hr e.symm)).trans (h k hk)
set_option maxRecDepth 100000 in
set_option maxHeartbeats 8000000 in
theorem clear_any (w W : World) (v : Value) (n m a : Nat) (G C : Nat → Nat) (M : Nat → Nat → Nat) (h : Own w W v n m G C M) (hn : n ≤ 32) (hm : m ≤ 64) (ha : a < n) (ham : a < m) :
    Calls Try.prog 29 #[v, .int .i64 (a : Int)] W fun e W' => (∃ u, e = .returned u) ∧ Own w W' v n m G C (clr a M) ∧ Kept n G W W' := by
  obtain ⟨g, cap, rfl, hg, hc1, hc2, htop⟩ := h.at (by omega)
  have HO := Lib.hid h
  have n0 : (n : Int) ≤ 32 := by omega
  have m0 : (m : Int) ≤ 64 := by omega
  have a0 : (0 : Int) ≤ (a : Int) := by omega
  have a1 : (a : Int) < (n : Int) := by omega
  have a2 : (a : Int) < (m : Int) := by omega
  have HCAP := Lib.hid hc2
  clear h htop hc2
  go_enter Try.func29, Try.ntmps29
  go_wp2
  go_loopw [9] (fun s9 wr => ∃ k : Nat, k ≤ n ∧ s9 = .int .i64 (k : Int) ∧ Own w wr (.slice (some ⟨g, 0, none⟩) n cap) n m G C (clrAt a M k 0) ∧ Kept n G W wr) (fun s9 _ => n - (intOf s9).toNat)
  case atStart => exact ⟨0, Nat.zero_le _, rfl, HO.out.congr fun i hi j hj => (by unfold clrAt; rw [if_neg (by omega)]), Kept.refl _ _ _⟩
  case round =>
    obtain ⟨k, hk, rfl, hO, hP⟩ := hrel
    have HK := Lib.hid hO
    have HKP := Lib.hid hP
    clear hO hP
    by_cases hkn : k < n
    · have k0 : (0 : Int) ≤ (k : Int) := by omega
      have k1 : (k : Int) < (n : Int) := by omega
      have k2 : (k : Int) ≤ 32 := by omega
      obtain ⟨g', cap', he, _, _, _, htop⟩ := HK.out.at (by omega)
      obtain ⟨rfl, rfl⟩ : g = g' ∧ cap = cap' := by simpa using he
      have d1 := (htop k hkn).1
      have x1 := (HK.out.row k hkn).2.2.2.cell ham
      have e1 : clrAt a M k 0 k a = M k a := by unfold clrAt; rw [if_neg (by omega)]
      rw [e1] at x1
      obtain ⟨f, hf⟩ : ∃ f, f = M k a := ⟨_, rfl⟩
      rw [← hf] at x1
      have HF := Lib.hid hf
      clear hf e1 he htop
      by_cases hka : k = a
      · subst hka
        have q1 : ((k : Int) != (k : Int)) = false := by simp
        go_wp2
        go_roundw
        case rel => exact ⟨k + 1, by omega, by go_num, HK.out.congr fun i hi j hj => (clr_skip k M k i j (.inl rfl) ((HO.out.row k ha).2.2.2.lt hj)), HKP.out⟩
        case measure => simp [intOf]; omega
      · have q1 : ((k : Int) != (a : Int)) = true := by simp; omega
        have q3 : ¬ (k : Int) = (a : Int) := by omega
        by_cases hf0 : f = 0
        · have q2 : ((f : Int) != 0) = false := by rw [hf0]; rfl
          have HF0 := Lib.hid (HF.out.symm.trans hf0)
          clear hf0 hka
          go_wp2
          go_roundw
          case rel => exact ⟨k + 1, by omega, by go_num, HK.out.congr fun i hi j hj => (clr_skip a M k i j (.inr HF0.out) ((HO.out.row a ha).2.2.2.lt hj)), HKP.out⟩
          case measure => simp [intOf]; omega
        · have q2 : ((f : Int) != 0) = true := by simp; omega
          have HKA := Lib.hid hka
          clear hf0 hka
          go_wp2
          clear d1 x1
          go_loopw [31] (fun s31 wi => ∃ c : Nat, c ≤ m ∧ s31 = .int .i64 (c : Int) ∧ Own w wi (.slice (some ⟨g, 0, none⟩) n cap) n m G C (clrAt a M k c) ∧ Kept n G W wi) (fun s31 _ => m - (intOf s31).toNat)
          case atStart => exact ⟨0, Nat.zero_le _, rfl, HK.out, HKP.out⟩
          case round =>
            obtain ⟨c, hc, rfl, hO, hP⟩ := hrel
            have HC := Lib.hid hO
            have HCP := Lib.hid hP
            clear hO hP
            by_cases hcm : c < m
            · have c0 : (0 : Int) ≤ (c : Int) := by omega
              have c1 : (c : Int) < (m : Int) := by omega
              have c2 : (c : Int) ≤ 64 := by omega
              obtain ⟨g', cap', he, _, _, _, htop⟩ := HC.out.at (by omega)
              obtain ⟨rfl, rfl⟩ : g = g' ∧ cap = cap' := by simpa using he
              have d1 := (htop k hkn).1
              have d2 := (htop a ha).1
              have hgk := (htop k hkn).2.2
              have x1 := (HC.out.row k hkn).2.2.2.cell hcm
              have x2 := (HC.out.row a ha).2.2.2.cell hcm
              have fz := (HC.out.row k hkn).2.2.2.frozen hcm
              rw [clrAt_here a M k c] at x1
              rw [clrAt_at a M k c HKA.out] at x2
              have b1 := (HO.out.row k hkn).2.2.2.lt hcm
              have b2 := (HO.out.row a ha).2.2.2.lt hcm
              have b3 : f < 256 := by rw [HF.out]; exact (HO.out.row k hkn).2.2.2.lt ham
              obtain ⟨X, hX⟩ : ∃ X, X = M k c := ⟨_, rfl⟩
              obtain ⟨Y, hY⟩ : ∃ Y, Y = M a c := ⟨_, rfl⟩
              rw [← hX] at x1 b1
              rw [← hY] at x2 b2
              obtain ⟨P, hP⟩ : ∃ P, GF.mul f Y = P := ⟨_, rfl⟩
              have p2 : P < 256 := by rw [← hP]; exact GF.mul_lt _ _ b3
              obtain ⟨Q, hQ⟩ : ∃ Q, X ^^^ P = Q := ⟨_, rfl⟩
              have q2' : Q < 256 := by rw [← hQ]; exact GF.xor_lt b1 p2
              have HQ : Hid (clr a M k c = Q) := Lib.hid (by unfold clr; rw [if_neg HKA.out, ← HF.out, ← hX, ← hY, hP, hQ])
              have HP := Lib.hid hP
              have HX := Lib.hid hQ
              clear hP hQ hX hY he htop
              have hka' : G k ≠ G a := fun e => HKA.out (HC.out.inj k a hkn ha e)
              have ne1 : (⟨g, k, none⟩ : Addr) ≠ ⟨G k, c, none⟩ := fun e => hgk (by injection e with e1 _ _; exact e1.symm)
              have ne2 : (⟨g, a, none⟩ : Addr) ≠ ⟨G k, c, none⟩ := fun e => hgk (by injection e with e1 _ _; exact e1.symm)
              have ne3 : (⟨G a, c, none⟩ : Addr) ≠ ⟨G k, c, none⟩ := fun e => hka' (by injection e with e1 _ _; exact e1.symm)
              go_wp2_with fail
              refine wp_region_still_tail 23 (by kernel_rfl) (by kernel_rfl) ?_
              simp only [List.take_succ_cons, List.take_zero, List.drop_succ_cons, List.drop_zero]
              repeat (first
                | still_step
                | still_call (mul_q f Y P b3 b2 HP.out _)
                | still_call (add_q X P Q b1 p2 HX.out _))
              refine wpStill_nil ?_
              change wpList _ _ _ _ _ wr.drew
              all_goals
                have HN := Lib.hid ((HC.out.step (Below.refl _ _).drew).put k c Q hkn q2')
                have HNP := Lib.hid (HCP.out.put k c hkn (.int .u8 (Q : Int)))
                go_wp2
                go_roundw
                case rel => exact ⟨c + 1, by omega, by go_num, HN.out.congr fun i hi j hj => (clr_put a M k c i j Q HQ.out), HNP.out⟩
                case measure => simp [intOf]; omega
            · have hcc : c = m := by omega
              subst hcc
              have c1 : ¬ (c : Int) < (c : Int) := by omega
              go_wp2
              go_roundw
              case rel => exact ⟨k + 1, by omega, by go_num, HC.out.congr fun i hi j hj => (clr_full a M k c i j hj), HCP.out⟩
              case measure => simp [intOf]; omega
    · have hkk : k = n := by omega
      subst hkk
      have k1 : ¬ (k : Int) < (k : Int) := by omega
      go_wp2
      go_end0
      exact ⟨⟨_, rfl⟩, HK.out.congr fun i hi j hj => (clr_end a M k i j hi), HKP.out⟩
end Go.Proofs.Ytlpmehnffdaobaa
