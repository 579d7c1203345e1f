/- MatrixTurns and MatrixBrackets walked: they return true. -/
import Derived.Test.YtlpmehnffdaobaaMadeLW
namespace Go.Proofs.Ytlpmehnffdaobaa
open Go.RowKit Go.Deep
set_option linter.unusedVariables false
theorem xs_sum (f : Nat → Nat) (n : Nat) : xs f n = LA.sum f n := by
  induction n with
  | zero => rfl
  | succ n ih => show xs f n ^^^ f n = LA.sum f n ^^^ f n; rw [ih]
theorem mm_mp (n : Nat) (A B : Nat → Nat → Nat) (r c : Nat) : mm n A B r c = LA.mp n A B r c := xs_sum _ _
theorem grid_bytes {w : World} {a : Option Addr} {r m : Nat} {M : Nat → Nat → Nat} (h : Grid w a r (fun _ => m) M) : LA.Bytes r m M := fun i hi j hj => gA_lt h i hi j hj
theorem grid_sq {w : World} {a : Option Addr} {r : Nat} {L : Nat → Nat} {M : Nat → Nat → Nat} (h : Grid w a r L M) (m : May r L) : Grid w a r (fun _ => L 0) M := h.congr (fun i hi => m.2.2.2.2 i hi) fun _ _ _ _ => rfl
theorem may_c {r m : Nat} (h1 : 1 ≤ r) (h2 : r ≤ 32) (h3 : 1 ≤ m) (h4 : m ≤ 32) : May r (fun _ => m) := ⟨h1, h2, h3, h4, fun _ _ => rfl⟩
set_option maxRecDepth 100000 in
set_option maxHeartbeats 4000000 in
theorem turns_no (a : Option Addr) (r ca : Nat) (L : Nat → Nat) (M : Nat → Nat → Nat) (w : World) (hg : Grid w a r L M) (h : ¬ ((May r L ∧ L 0 = r) ∧ ∃ P, LA.gj r r 0 (LA.aug r M) = some P)) : Calls Try.prog 7 #[.slice a r ca] w fun e w' => e = .returned (.bool true) ∧ Below w.heap.size w w' := by
  have G0 := Lib.hid hg
  have HH := Lib.hid h
  clear hg h
  go_enter Try.func7, Try.ntmps7
  go_wp2_with fail
  refine (shown_yes w).mono ?_
  rintro e w1 ⟨rfl, hb⟩
  have B1 := Lib.hid hb
  clear hb
  go_wp2_with fail
  refine (inverse_any a r ca L M w1 (G0.out.step B1.out)).mono ?_
  rintro e w2 ⟨x, rx, cx, ex, N, rfl, hi, hg, hb⟩
  have B2 := Lib.hid hb
  have q : (ex != 0) = true := by
    rcases hi with ⟨_, _, h⟩ | ⟨_, _, _, h⟩ | ⟨h1, P, h2, _⟩
    · rw [h]; rfl
    · rw [h]; rfl
    · exact absurd ⟨h1, P, h2⟩ HH.out
  clear hg hb hi
  go_wp2
  go_ret
  exact ⟨rfl, B1.out.trans (B2.out.mono B1.out.size)⟩
set_option maxRecDepth 100000 in
set_option maxHeartbeats 4000000 in
theorem turns_yes (a : Option Addr) (r ca : Nat) (M P : Nat → Nat → Nat) (w : World) (hg : Grid w a r (fun _ => r) M) (h : May r (fun _ => r)) (hP : LA.gj r r 0 (LA.aug r M) = some P) : Calls Try.prog 7 #[.slice a r ca] w fun e w' => e = .returned (.bool true) ∧ Below w.heap.size w w' := by
  have hb0 := grid_bytes hg
  obtain ⟨i1, i2, i3⟩ := LA.inverse hb0 hP
  have HI1 := Lib.hid i1
  have HI2 : Hid (∀ i, i < r → ∀ j, j < r → mm r M (LA.half r P) i j = idm i j) := Lib.hid fun i hi j hj => (mm_mp _ _ _ _ _).trans (i2 i hi j hj)
  have HI3 : Hid (∀ i, i < r → ∀ j, j < r → mm r (LA.half r P) M i j = idm i j) := Lib.hid fun i hi j hj => (mm_mp _ _ _ _ _).trans (i3 i hi j hj)
  obtain ⟨P2, hP2, hback⟩ := LA.back hb0 hP
  have HP2 := Lib.hid hP2
  have HBK := Lib.hid hback
  have G0 := Lib.hid hg
  have HM := Lib.hid h
  have HP := Lib.hid hP
  have r1 : 1 ≤ r := h.1
  have r2 : r ≤ 32 := h.2.1
  clear hg h hP hb0 i1 i2 i3 hP2 hback
  go_enter Try.func7, Try.ntmps7
  go_wp2_with fail
  refine (shown_yes w).mono ?_
  rintro e w1 ⟨rfl, hb⟩
  have B1 := Lib.hid hb
  clear hb
  have G1 := Lib.hid (G0.out.step B1.out)
  go_wp2_with fail
  refine (inverse_yes a r ca M w1 G1.out HM.out).mono ?_
  rintro e w2 ⟨hb, ⟨h1, rfl⟩ | ⟨P', x, cx, h1, rfl, h3⟩⟩
  · rw [HP.out] at h1; exact absurd h1 (by simp)
  have e1 : P = P' := by rw [HP.out] at h1; exact Option.some.inj h1
  have B2 := Lib.hid hb
  have X2 : Hid (Grid w2 (some x) r (fun _ => r) (LA.half r P)) := Lib.hid (by rw [e1]; exact h3)
  have G2 := Lib.hid (G1.out.step B2.out)
  clear hb h1 h3 e1
  go_wp2_with fail
  refine (identity_yes r ⟨r1, r2⟩ w2).mono ?_
  rintro e w3 ⟨rfl, hO⟩
  have O3 := Lib.hid (hO.grid r2 r2 fun i _ j _ => idm_lt i j)
  have B3 := Lib.hid hO.fresh.below
  have X3 := Lib.hid (X2.out.step B3.out)
  have G3 := Lib.hid (G2.out.step B3.out)
  clear hO
  go_wp2_with fail
  refine (mulx_yes a (some x) r r r ca cx M (LA.half r P) w3 G3.out X3.out HM.out HM.out).mono ?_
  rintro e w4 ⟨y, rfl, hy, hf⟩
  have B4 := Lib.hid hf.below
  have Y4 := Lib.hid hy
  have O4 := Lib.hid (O3.out.step B4.out)
  have X4 := Lib.hid (X3.out.step B4.out)
  have G4 := Lib.hid (G3.out.step B4.out)
  clear hy hf
  go_wp2_with fail
  refine (mulx_yes (some x) a r r r cx ca (LA.half r P) M w4 X4.out G4.out HM.out HM.out).mono ?_
  rintro e w5 ⟨z, rfl, hz, hf⟩
  have B5 := Lib.hid hf.below
  have Z5 := Lib.hid hz
  have Y5 := Lib.hid (Y4.out.step B5.out)
  have O5 := Lib.hid (O4.out.step B5.out)
  have X5 := Lib.hid (X4.out.step B5.out)
  have G5 := Lib.hid (G4.out.step B5.out)
  clear hz hf
  go_wp2_with fail
  refine (inverse_yes (some x) r cx (LA.half r P) w5 X5.out HM.out).mono ?_
  rintro e w6 ⟨hb, ⟨h1, rfl⟩ | ⟨P', v, cv, h1, rfl, h3⟩⟩
  · rw [HP2.out] at h1; exact absurd h1 (by simp)
  have e1 : P2 = P' := by rw [HP2.out] at h1; exact Option.some.inj h1
  have B6 := Lib.hid hb
  have V6 : Hid (Grid w6 (some v) r (fun _ => r) (LA.half r P2)) := Lib.hid (by rw [e1]; exact h3)
  have Z6 := Lib.hid (Z5.out.step B6.out)
  have Y6 := Lib.hid (Y5.out.step B6.out)
  have O6 := Lib.hid (O5.out.step B6.out)
  have G6 := Lib.hid (G5.out.step B6.out)
  clear hb h1 h3 e1
  go_wp2_with fail
  refine (rsame_any _ _ r r _ _ _ _ _ _ w6 Y6.out O6.out true ⟨fun _ => ⟨rfl, fun i hi => ⟨rfl, fun j hj => HI2.out i hi j hj⟩⟩, fun _ => rfl⟩).mono ?_
  rintro e w7 ⟨rfl, hf⟩
  have B7 := Lib.hid hf.below
  have Z7 := Lib.hid (Z6.out.step B7.out)
  have O7 := Lib.hid (O6.out.step B7.out)
  have V7 := Lib.hid (V6.out.step B7.out)
  have G7 := Lib.hid (G6.out.step B7.out)
  clear hf
  go_wp2_with fail
  refine (rsame_any _ _ r r _ _ _ _ _ _ w7 Z7.out O7.out true ⟨fun _ => ⟨rfl, fun i hi => ⟨rfl, fun j hj => HI3.out i hi j hj⟩⟩, fun _ => rfl⟩).mono ?_
  rintro e w8 ⟨rfl, hf⟩
  have B8 := Lib.hid hf.below
  have V8 := Lib.hid (V7.out.step B8.out)
  have G8 := Lib.hid (G7.out.step B8.out)
  clear hf
  go_wp2_with fail
  refine (rsame_any _ _ r r _ _ _ _ _ _ w8 V8.out G8.out true ⟨fun _ => ⟨rfl, fun i hi => ⟨rfl, fun j hj => HBK.out i hi j hj⟩⟩, fun _ => rfl⟩).mono ?_
  rintro e w9 ⟨rfl, hf⟩
  have B9 := Lib.hid hf.below
  clear hf
  go_wp2
  go_ret
  have t2 := B1.out.trans (B2.out.mono B1.out.size)
  have t3 := t2.trans (B3.out.mono t2.size)
  have t4 := t3.trans (B4.out.mono t3.size)
  have t5 := t4.trans (B5.out.mono t4.size)
  have t6 := t5.trans (B6.out.mono t5.size)
  have t7 := t6.trans (B7.out.mono t6.size)
  have t8 := t7.trans (B8.out.mono t7.size)
  exact ⟨rfl, t8.trans (B9.out.mono t8.size)⟩
theorem turns_law (a : Option Addr) (r ca : Nat) (L : Nat → Nat) (M : Nat → Nat → Nat) (w : World) (hg : Grid w a r L M) : Calls Try.prog 7 #[.slice a r ca] w fun e w' => e = .returned (.bool true) ∧ Below w.heap.size w w' := by
  by_cases h : (May r L ∧ L 0 = r) ∧ ∃ P, LA.gj r r 0 (LA.aug r M) = some P
  · obtain ⟨⟨h1, h2⟩, P, hP⟩ := h
    have hg' := grid_sq hg h1
    rw [h2] at hg'
    exact turns_yes a r ca M P w hg' (may_c h1.1 h1.2.1 h1.1 h1.2.1) hP
  · exact turns_no a r ca L M w hg h
end Go.Proofs.Ytlpmehnffdaobaa
