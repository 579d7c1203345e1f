/- MatrixNone walked: it returns true. -/
import Derived.Test.YtlpmehnffdaobaaTurnsLW
import Derived.Test.YtlpmehnffdaobaaOpenR
namespace Go.Proofs.Ytlpmehnffdaobaa
open Go.RowKit Go.Deep
set_option linter.unusedVariables false
/-- are the first k all 0? -/
def az (y : Nat → Nat) : Nat → Bool
  | 0 => true
  | k + 1 => az y k && (y k == 0)
theorem az_iff (y : Nat → Nat) (k : Nat) : az y k = true ↔ ∀ j, j < k → y j = 0 := by
  induction k with
  | zero => exact ⟨fun _ j hj => absurd hj (Nat.not_lt_zero j), fun _ => rfl⟩
  | succ k ih =>
    show (az y k && (y k == 0)) = true ↔ _
    rw [Bool.and_eq_true, ih, beq_iff_eq]
    constructor
    · rintro ⟨h1, h2⟩ j hj
      by_cases e : j = k
      · rw [e]; exact h2
      · exact h1 j (by omega)
    · intro h
      exact ⟨fun j hj => h j (by omega), h k (by omega)⟩
theorem az_same {r : Nat} {f y : Nat → Nat} (h : (∀ j, j < r → y j = 0) ↔ ∀ j, j < r → f j = 0) : az y r = az f r := by
  rw [Bool.eq_iff_iff, az_iff, az_iff]
  exact h
theorem row_grid (W : World) (a : Option Addr) (n c : Nat) (f : Nat → Nat) (h : RowAt W a n f) : Grid (W.alloc (.cells #[.slice a n c] 38)) (some ⟨W.heap.size, 0, none⟩) 1 (fun _ => n) (fun _ => f) := by
  obtain ⟨h1, b, o, h2, h3⟩ := h
  refine ⟨by unfold maxLen; omega, W.heap.size, 0, fun _ => a, fun _ => c, fun _ => b, fun _ => o, fun _ => rfl, fun i hi => ⟨?_, h1, fun h0 => h2 h0, fun j hj => ⟨below_cell (one_below W _ _) (h3 j hj).1, (h3 j hj).2⟩⟩⟩
  obtain rfl : i = 0 := by omega
  exact one_cell W _ _
theorem none_math {w : World} {a : Option Addr} {r : Nat} {M P : Nat → Nat → Nat} {f : Nat → Nat} (hg : Grid w a r (fun _ => r) M) (hP : LA.gj r r 0 (LA.aug r M) = some P) (hf : ∀ j, j < r → f j < 256) : az (mm r (fun _ => f) M 0) r = az f r := by
  refine az_same ⟨fun h j hj => ?_, fun h j hj => ?_⟩
  · exact LA.row_zero (grid_bytes hg) hP (fun _ => f) (fun _ _ j hj => hf j hj) (fun j hj => by rw [← mm_mp]; exact h j hj) j hj
  · rw [mm_mp]
    exact LA.zero_row (grid_bytes hg) (fun _ => f) h j hj
set_option maxRecDepth 100000 in
set_option maxHeartbeats 4000000 in
theorem none_no (a b : Option Addr) (r ca l cb : Nat) (L : Nat → Nat) (M : Nat → Nat → Nat) (f : Nat → Nat) (w : World) (hg : Grid w a r L M) (hb : RowAt w b l f) (h : ¬ ((May r L ∧ L 0 = r) ∧ ∃ P, LA.gj r r 0 (LA.aug r M) = some P)) :
    Calls Try.prog 8 #[.slice a r ca, .slice b l cb] w fun e w' => e = .returned (.bool true) ∧ Below w.heap.size w w' := by
  have G0 := Lib.hid hg
  have HH := Lib.hid h
  clear hg h hb
  go_enter Try.func8, Try.ntmps8
  go_wp2_with fail
  refine (shown_yes w).mono ?_
  rintro e w1 ⟨rfl, hb⟩
  have B1 := Lib.hid hb
  clear hb
  go_wp2_with fail
  refine (inverse_any a r ca L M w1 (G0.out.step B1.out)).mono ?_
  rintro e w2 ⟨x, rx, cx, ex, N, rfl, hi, hg, hb⟩
  have B2 := Lib.hid hb
  have q : (ex != 0) = true := by
    rcases hi with ⟨_, _, h⟩ | ⟨_, _, _, h⟩ | ⟨h1, P, h2, _⟩
    · rw [h]; rfl
    · rw [h]; rfl
    · exact absurd ⟨h1, P, h2⟩ HH.out
  clear hg hb hi
  go_wp2
  go_ret
  exact ⟨rfl, B1.out.trans (B2.out.mono B1.out.size)⟩
set_option maxRecDepth 100000 in
set_option maxHeartbeats 4000000 in
theorem none_len (a b : Option Addr) (r ca l cb : Nat) (M P : Nat → Nat → Nat) (w : World) (hg : Grid w a r (fun _ => r) M) (h : May r (fun _ => r)) (hP : LA.gj r r 0 (LA.aug r M) = some P) (hl : l ≠ r) :
    Calls Try.prog 8 #[.slice a r ca, .slice b l cb] w fun e w' => e = .returned (.bool true) ∧ Below w.heap.size w w' := by
  have G0 := Lib.hid hg
  have HM := Lib.hid h
  have HP := Lib.hid hP
  have q : ((l : Int) != (r : Int)) = true := by simp; omega
  clear hg h hP hl
  go_enter Try.func8, Try.ntmps8
  go_wp2_with fail
  refine (shown_yes w).mono ?_
  rintro e w1 ⟨rfl, hb⟩
  have B1 := Lib.hid hb
  clear hb
  go_wp2_with fail
  refine (inverse_yes a r ca M w1 (G0.out.step B1.out) HM.out).mono ?_
  rintro e w2 ⟨hb, ⟨h1, rfl⟩ | ⟨P', x, cx, h1, rfl, h3⟩⟩
  · rw [HP.out] at h1; exact absurd h1 (by simp)
  have B2 := Lib.hid hb
  clear hb h1 h3
  go_wp2
  go_ret
  exact ⟨rfl, B1.out.trans (B2.out.mono B1.out.size)⟩
set_option maxRecDepth 100000 in
set_option maxHeartbeats 8000000 in
theorem none_yes (a b : Option Addr) (r ca cb : Nat) (M P : Nat → Nat → Nat) (f : Nat → Nat) (w : World) (hg : Grid w a r (fun _ => r) M) (hr : RowAt w b r f) (h : May r (fun _ => r)) (hP : LA.gj r r 0 (LA.aug r M) = some P) :
    Calls Try.prog 8 #[.slice a r ca, .slice b r cb] w fun e w' => e = .returned (.bool true) ∧ Below w.heap.size w w' := by
  have G0 := Lib.hid hg
  have R0 := Lib.hid hr
  have HM := Lib.hid h
  have HP := Lib.hid hP
  have r1 : 1 ≤ r := h.1
  have r2 : r ≤ 32 := h.2.1
  obtain ⟨_, bb, ob, hb0, hcell⟩ := hr
  obtain rfl := hb0 r1
  have HCB := Lib.hid hcell
  have HMA := Lib.hid (none_math hg hP fun j hj => (hcell j hj).2)
  have q : ((r : Int) != (r : Int)) = false := by simp
  have r3 : (r : Int) ≤ 32 := by omega
  have r0 : 0 < r := r1
  clear hg h hP hcell hb0
  go_enter Try.func8, Try.ntmps8
  go_wp2_with fail
  refine (shown_yes w).mono ?_
  rintro e w1 ⟨rfl, hb⟩
  have B1 := Lib.hid hb
  have G1 := Lib.hid (G0.out.step hb)
  clear hb
  go_wp2_with fail
  refine (inverse_yes a r ca M w1 G1.out HM.out).mono ?_
  rintro e w2 ⟨hb, ⟨h1, rfl⟩ | ⟨P', x, cx, h1, rfl, h3⟩⟩
  · rw [HP.out] at h1; exact absurd h1 (by simp)
  have B2 := Lib.hid (B1.out.trans (hb.mono B1.out.size))
  have G2 := Lib.hid (G1.out.step hb)
  clear hb h1 h3
  have X2 := Lib.hid (row_grid w2 (some ⟨bb, ob, none⟩) r cb f (R0.out.step B2.out))
  have G3 := Lib.hid (G2.out.step (one_below w2 (.slice (some ⟨bb, ob, none⟩) r cb) 38))
  have B3 := Lib.hid (B2.out.trans ((one_below w2 (.slice (some ⟨bb, ob, none⟩) r cb) 38).mono B2.out.size))
  go_wp2_with fail
  refine (mulx_yes (some ⟨w2.heap.size, 0, none⟩) a 1 r r 1 ca (fun _ => f) M _ X2.out G3.out (may_c (by omega) (by omega) r1 r2) HM.out).mono ?_
  rintro e w4 ⟨y, rfl, hy, hf⟩
  obtain ⟨yb, yo, yC, yB, yO, he, hyc⟩ := hy.at r1 (by omega)
  obtain rfl : y = ⟨yb, yo, none⟩ := Option.some.inj he
  have B4 := Lib.hid (B3.out.trans (hf.below.mono B3.out.size))
  have d0 := (hyc 0 (by omega)).1
  rw [Nat.add_zero] at d0
  have HY := Lib.hid (hyc 0 (by omega)).2
  clear hy hf he hyc
  obtain ⟨g, hgg⟩ : ∃ g, g = mm r (fun _ => f) M 0 := ⟨_, rfl⟩
  rw [← hgg] at HY HMA
  clear hgg
  go_wp2
  go_loop [10, 11, 12] (fun u v i => ∃ k : Nat, k ≤ r ∧ i = .int .i64 (k : Int) ∧ u = .bool (az g k) ∧ v = .bool (az f k)) (fun _ _ i => r - (intOf i).toNat)
  case atStart => exact ⟨0, Nat.zero_le _, rfl, rfl, rfl⟩
  case round =>
    obtain ⟨k, hk, rfl, rfl, rfl⟩ := hrel
    by_cases hkr : k < r
    · have k0 : (0 : Int) ≤ (k : Int) := by omega
      have k1 : (k : Int) < (r : Int) := by omega
      have k2 : (k : Int) ≤ 32 := by omega
      have x1 := (HY.out k hkr).1
      have x2 := below_cell B4.out (HCB.out k hkr).1
      obtain ⟨Y, hY⟩ : ∃ Y, Y = g k := ⟨_, rfl⟩
      obtain ⟨Z, hZ⟩ : ∃ Z, Z = f k := ⟨_, rfl⟩
      rw [← hY] at x1
      rw [← hZ] at x2
      obtain ⟨e1, he1⟩ : ∃ e1, ((Y : Int) == 0) = e1 := ⟨_, rfl⟩
      obtain ⟨e2, he2⟩ : ∃ e2, ((Z : Int) == 0) = e2 := ⟨_, rfl⟩
      have n1 : Hid (az g (k + 1) = (az g k && e1)) := Lib.hid (by
        show (az g k && (g k == 0)) = _
        rw [← hY, ← he1]
        congr 1
        rw [Bool.eq_iff_iff, beq_iff_eq, beq_iff_eq]; omega)
      have n2 : Hid (az f (k + 1) = (az f k && e2)) := Lib.hid (by
        show (az f k && (f k == 0)) = _
        rw [← hZ, ← he2]
        congr 1
        rw [Bool.eq_iff_iff, beq_iff_eq, beq_iff_eq]; omega)
      clear hY hZ
      generalize az g k = z1 at n1 ⊢
      generalize az f k = z2 at n2 ⊢
      cases z1 <;> cases z2
      all_goals
        go_wp2
        go_round
        case rel => exact ⟨k + 1, by omega, by go_num, by rw [n1.out]; simp, by rw [n2.out]; simp⟩
        case measure => simp [intOf]; omega
    · obtain rfl : r = k := by omega
      have c1 : ¬ (r : Int) < (r : Int) := by omega
      rw [HMA.out]
      generalize az f r = z
      have q1 : (z == z) = true := by simp
      go_wp2
      go_ret
      exact ⟨rfl, B4.out⟩
theorem none_law (a b : Option Addr) (r ca l cb : Nat) (L : Nat → Nat) (M : Nat → Nat → Nat) (f : Nat → Nat) (w : World) (hg : Grid w a r L M) (hb : RowAt w b l f) :
    Calls Try.prog 8 #[.slice a r ca, .slice b l cb] w fun e w' => e = .returned (.bool true) ∧ Below w.heap.size w w' := by
  by_cases h : (May r L ∧ L 0 = r) ∧ ∃ P, LA.gj r r 0 (LA.aug r M) = some P
  · obtain ⟨⟨h1, h2⟩, P, hP⟩ := h
    have hg' := grid_sq hg h1
    rw [h2] at hg'
    have hm := may_c h1.1 h1.2.1 h1.1 h1.2.1
    by_cases hl : l = r
    · subst hl
      exact none_yes a b l ca cb M P f w hg' hb hm hP
    · exact none_len a b r ca l cb M P w hg' hm hP hl
  · exact none_no a b r ca l cb L M f w hg hb h
end Go.Proofs.Ytlpmehnffdaobaa
