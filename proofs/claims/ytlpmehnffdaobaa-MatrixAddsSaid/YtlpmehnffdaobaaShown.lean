/- The examples at the head of all statements: shown() is true. -/
import Derived.Test.YtlpmehnffdaobaaInvN
import Derived.Test.YtlpmehnffdaobaaSameW
namespace Go.Proofs.Ytlpmehnffdaobaa
open Go.RowKit Go.Deep
set_option linter.unusedVariables false
def ex1 (i j : Nat) : Nat := if i = 1 ∧ j = 0 then 0 else 1
def ex2 (_ _ : Nat) : Nat := 1
theorem ex1_inv : ∃ M, LA.gj 2 2 0 (LA.aug 2 ex1) = some M ∧ ∀ i, i < 2 → ∀ j, j < 2 → LA.half 2 M i j = ex1 i j := by
  have hb : LA.Bytes 2 2 ex1 := by unfold LA.Bytes; decide
  have h1 : ∀ i, i < 2 → ∀ j, j < 2 → LA.mp 2 ex1 ex1 i j = LA.one i j := by decide
  obtain ⟨M, hM⟩ := LA.of_left hb hb h1
  obtain ⟨hB, h2, _⟩ := LA.inverse hb hM
  exact ⟨M, hM, fun i hi j hj => (LA.uniq hb hb hB h1 h2 i j hi hj).symm⟩
theorem ex2_inv : LA.gj 2 2 0 (LA.aug 2 ex2) = none := by
  have hb : LA.Bytes 2 2 ex2 := by unfold LA.Bytes; decide
  cases e : LA.gj 2 2 0 (LA.aug 2 ex2) with
  | none => rfl
  | some M =>
    obtain ⟨hB, h2, _⟩ := LA.inverse hb e
    have a := h2 0 (by omega) 0 (by omega)
    have b := h2 1 (by omega) 0 (by omega)
    rw [LA.mp_congr (C := ex2) (D := LA.half 2 M) (A := ex2) 1 0 (fun _ _ => rfl) (fun _ _ => rfl)] at b
    have c : LA.mp 2 ex2 (LA.half 2 M) 0 0 = LA.mp 2 ex2 (LA.half 2 M) 1 0 := rfl
    rw [a, b] at c
    exact absurd c (by decide)
/-- a matrix of two rows of two bytes, written out -/
def litW (w : World) (a b c d : Int) : World := ((w.alloc (.cells #[.int .u8 a, .int .u8 b] 5)).alloc (.cells #[.int .u8 c, .int .u8 d] 5)).alloc (.cells #[.slice (some ⟨w.heap.size, 0, none⟩) 2 2, .slice (some ⟨w.heap.size + 1, 0, none⟩) 2 2] 38)
theorem lit_below (w : World) (a b c d : Int) : Below w.heap.size w (litW w a b c d) :=
  (((Below.refl _ w).alloc (Nat.le_refl _) _).alloc (alloc_le (Nat.le_refl _) _) _).alloc (alloc_le (alloc_le (Nat.le_refl _) _) _) _
theorem lit_grid (w : World) (M : Nat → Nat → Nat) (a b c d : Int) (h0 : a = (M 0 0 : Int)) (h1 : b = (M 0 1 : Int)) (h2 : c = (M 1 0 : Int)) (h3 : d = (M 1 1 : Int)) (hM : LA.Bytes 2 2 M) : Grid (litW w a b c d) (some ⟨w.heap.size + 1 + 1, 0, none⟩) 2 (fun _ => 2) M := by
  obtain ⟨p1, p2⟩ := pair_cells w (.int .u8 a) (.int .u8 b) 5
  obtain ⟨q1, q2⟩ := pair_cells (w.alloc (.cells #[.int .u8 a, .int .u8 b] 5)) (.int .u8 c) (.int .u8 d) 5
  obtain ⟨r1, r2⟩ := pair_cells ((w.alloc (.cells #[.int .u8 a, .int .u8 b] 5)).alloc (.cells #[.int .u8 c, .int .u8 d] 5)) (.slice (some ⟨w.heap.size, 0, none⟩) 2 2) (.slice (some ⟨w.heap.size + 1, 0, none⟩) 2 2) 38
  rw [alloc_size] at q1 q2
  rw [alloc_size, alloc_size] at r1 r2
  have s1 : Below (w.heap.size + 1) (w.alloc (.cells #[.int .u8 a, .int .u8 b] 5)) (litW w a b c d) :=
    ((Below.refl _ _).alloc (by rw [alloc_size]; exact Nat.le_refl _) _).alloc (by rw [alloc_size, alloc_size]; omega) _
  have s2 : Below (w.heap.size + 1 + 1) ((w.alloc (.cells #[.int .u8 a, .int .u8 b] 5)).alloc (.cells #[.int .u8 c, .int .u8 d] 5)) (litW w a b c d) :=
    (Below.refl _ _).alloc (by rw [alloc_size, alloc_size]; exact Nat.le_refl _) _
  have t1 : ∀ j, (litW w a b c d).cell? ⟨w.heap.size, j, none⟩ = (w.alloc (.cells #[.int .u8 a, .int .u8 b] 5)).cell? ⟨w.heap.size, j, none⟩ := fun j => s1.cell (p := ⟨w.heap.size, j, none⟩) (Nat.lt_succ_self _)
  have t2 : ∀ j, (litW w a b c d).cell? ⟨w.heap.size + 1, j, none⟩ = ((w.alloc (.cells #[.int .u8 a, .int .u8 b] 5)).alloc (.cells #[.int .u8 c, .int .u8 d] 5)).cell? ⟨w.heap.size + 1, j, none⟩ := fun j => s2.cell (p := ⟨w.heap.size + 1, j, none⟩) (Nat.lt_succ_self _)
  refine ⟨by unfold maxLen; omega, w.heap.size + 1 + 1, 0, fun i => some ⟨w.heap.size + i, 0, none⟩, fun _ => 2, fun i => w.heap.size + i, fun _ => 0, fun _ => rfl, fun i hi => ⟨?_, (by show 2 ≤ maxLen; unfold maxLen; omega), fun _ => rfl, fun j hj => ⟨?_, hM i hi j hj⟩⟩⟩
  · match i, hi with
    | 0, _ => exact r1
    | 1, _ => exact r2
  · match i, hi, j, hj with
    | 0, _, 0, _ => exact (t1 0).trans (p1.trans (by rw [h0]))
    | 0, _, 1, _ => exact (t1 1).trans (p2.trans (by rw [h1]))
    | 1, _, 0, _ => exact (t2 0).trans (q1.trans (by rw [h2]))
    | 1, _, 1, _ => exact (t2 1).trans (q2.trans (by rw [h3]))
theorem may2 : May 2 (fun _ => 2) := ⟨by decide, by decide, by show 1 ≤ 2; decide, by show 2 ≤ 32; decide, fun _ _ => rfl⟩
theorem inv_ex1 (w : World) : Calls Try.prog 12 #[.slice (some ⟨w.heap.size + 1 + 1, 0, none⟩) 2 2] (litW w 1 1 0 1) fun e w' => ∃ x cap, e = .returned (.tuple #[.slice (some x) 2 cap, .int .i64 0]) ∧ Grid w' (some x) 2 (fun _ => 2) ex1 ∧ Grid w' (some ⟨w.heap.size + 1 + 1, 0, none⟩) 2 (fun _ => 2) ex1 ∧ Below w.heap.size w w' := by
  have hg := lit_grid w ex1 1 1 0 1 rfl rfl rfl rfl (by unfold LA.Bytes; decide)
  refine (inverse_yes _ 2 2 ex1 _ (lit_grid w ex1 1 1 0 1 rfl rfl rfl rfl (by unfold LA.Bytes; decide)) may2).mono ?_
  rintro e w' ⟨hb, h | ⟨M, x, cap, h1, h2, h3⟩⟩
  · obtain ⟨M, hM, _⟩ := ex1_inv
    rw [hM] at h
    exact absurd h.1 (by simp)
  · obtain ⟨M', hM, hh⟩ := ex1_inv
    rw [hM] at h1
    injection h1 with h1
    subst h1
    exact ⟨x, cap, h2, h3.congr (fun _ _ => rfl) fun i hi j hj => hh i hi j hj, hg.step hb, (lit_below w 1 1 0 1).trans (hb.mono (lit_below w 1 1 0 1).size)⟩
theorem inv_ex2 (w : World) : Calls Try.prog 12 #[.slice (some ⟨w.heap.size + 1 + 1, 0, none⟩) 2 2] (litW w 1 1 1 1) fun e w' => e = .returned (.tuple #[.slice none 0 0, .int .i64 7]) ∧ Below w.heap.size w w' := by
  refine (inverse_yes _ 2 2 ex2 _ (lit_grid w ex2 1 1 1 1 rfl rfl rfl rfl (by unfold LA.Bytes; decide)) may2).mono ?_
  rintro e w' ⟨hb, h | ⟨M, x, cap, h1, h2, h3⟩⟩
  · exact ⟨h.2, (lit_below w 1 1 1 1).trans (hb.mono (lit_below w 1 1 1 1).size)⟩
  · rw [ex2_inv] at h1
    exact absurd h1 (by simp)
set_option maxRecDepth 100000 in
set_option maxHeartbeats 4000000 in
theorem shown_yes (w : World) : Calls Try.prog 11 #[] w fun e w' => e = .returned (.bool true) ∧ Below w.heap.size w w' := by
  go_enter Try.func11, Try.ntmps11
  go_wp2_with fail
  refine (inv_ex1 w).mono ?_
  rintro e w1 ⟨x, cap, rfl, hg, ha, hb⟩
  have G1 := Lib.hid hg
  have A1 := Lib.hid ha
  have B1 := Lib.hid hb
  clear hg ha hb
  go_wp2_with fail
  refine (inv_ex2 w1).mono ?_
  rintro e w2 ⟨rfl, hb⟩
  have B2 := Lib.hid hb
  clear hb
  go_wp2_with fail
  refine (powers_yes 3 2 (by omega) (by omega) w2).mono ?_
  rintro e w3 ⟨rfl, hO⟩
  have HO := Lib.hid hO
  have B3 := Lib.hid (B2.out.trans (hO.fresh.below.mono B2.out.size))
  clear hO
  go_wp2_with fail
  refine (rsame_any _ _ 2 2 2 cap _ _ ex1 ex1 w3 (A1.out.step B3.out) (G1.out.step B3.out) true ⟨fun _ => ⟨rfl, fun _ _ => ⟨rfl, fun _ _ => rfl⟩⟩, fun _ => rfl⟩).mono ?_
  rintro e w4 ⟨rfl, hf⟩
  have B4 := Lib.hid (B1.out.trans ((B3.out.trans (hf.below.mono B3.out.size)).mono B1.out.size))
  have d1 := below_cell hf.below (show w3.cell? ⟨w2.heap.size, 2, none⟩ = some (.slice (some ⟨w2.heap.size + 1 + 2, 0, none⟩) 2 2) by
    have := HO.out.top.cell (i := 2) (by omega)
    exact this)
  have d2 := below_cell hf.below (show w3.cell? ⟨w2.heap.size + 1 + 2, 1, none⟩ = some (.int .u8 2) by
    have := (HO.out.done 2 (by omega)).cell (i := 1) (by decide)
    simpa [show vdm 2 1 = 2 by decide] using this)
  clear hf
  go_wp2
  go_ret
  exact ⟨rfl, B4.out⟩
end Go.Proofs.Ytlpmehnffdaobaa
