/- MatrixMuls and MatrixBrackets walked: they return true. -/
import Derived.Test.YtlpmehnffdaobaaTurnsLW
namespace Go.Proofs.Ytlpmehnffdaobaa
open Go.RowKit Go.Deep
set_option linter.unusedVariables false
open Classical in
set_option maxRecDepth 100000 in
set_option maxHeartbeats 4000000 in
theorem muls_law (a b : Option Addr) (ra rb ca cb : Nat) (LA LB : Nat → Nat) (A B : Nat → Nat → Nat) (w : World) (gA : Grid w a ra LA A) (gB : Grid w b rb LB B) : Calls Try.prog 10 #[.slice a ra ca, .slice b rb cb] w fun e w' => e = .returned (.bool true) ∧ Below w.heap.size w w' := by
  obtain ⟨z, hz⟩ : ∃ z, z = eI (MulOk ra LA rb LB) := ⟨_, rfl⟩
  obtain ⟨k, hk⟩ : ∃ k, k = rI (MulOk ra LA rb LB) ra := ⟨_, rfl⟩
  have C19 : Hid (∀ W, Grid W a ra LA A → Grid W b rb LB B → Calls Try.prog 19 #[.slice a ra ca, .slice b rb cb] W fun e w' => ∃ x cap, e = .returned (.tuple #[.slice x k cap, .int .i64 z]) ∧ Grid w' x k (fun _ => LB 0) (mm rb A B) ∧ Below W.heap.size W w') := Lib.hid (by intro W h1 h2; rw [hk, hz]; exact mul_any2 a b ra rb ca cb LA LB A B W h1 h2)
  have C20 : Hid (∀ W, Grid W a ra LA A → Grid W b rb LB B → Calls Try.prog 20 #[.slice a ra ca, .slice b rb cb] W fun e w' => ∃ x cap, e = .returned (.tuple #[.slice x k cap, .int .i64 z]) ∧ Grid w' x k (fun _ => LB 0) (mm rb A B) ∧ Below W.heap.size W w') := Lib.hid (by intro W h1 h2; rw [hk, hz]; exact rmul_any2 a b ra rb ca cb LA LB A B W h1 h2)
  have z0 : 0 ≤ z ∧ z ≤ 1 := by rw [hz]; exact eI_bd _
  obtain ⟨z1, z2⟩ := z0
  obtain ⟨e1, h1⟩ : ∃ e1 : Bool, (e1 = true) ↔ May ra LA := ⟨decide (May ra LA), by simp⟩
  obtain ⟨e2, h2⟩ : ∃ e2 : Bool, (e2 = true) ↔ SameM ra LA A rb LB B := ⟨decide (SameM ra LA A rb LB B), by simp⟩
  have H1 := Lib.hid h1
  have H2 := Lib.hid h2
  have GA := Lib.hid gA
  have GB := Lib.hid gB
  have q0 : (z == z) = true := by simp
  have q1 : (e1 == e1) = true := by simp
  have q2 : (e2 == e2) = true := by simp
  clear hz hk h1 h2 gA gB
  go_enter Try.func10, Try.ntmps10
  go_wp2_with fail
  refine (shown_yes w).mono ?_
  rintro e w1 ⟨rfl, hb⟩
  have B1 := Lib.hid hb
  have A1 := Lib.hid (GA.out.step hb)
  have E1 := Lib.hid (GB.out.step hb)
  clear hb
  go_wp2_with fail
  refine (C19.out w1 A1.out E1.out).mono ?_
  rintro e w2 ⟨x, cx, rfl, hg, hb⟩
  have B2 := Lib.hid hb
  have X2 := Lib.hid hg
  have A2 := Lib.hid (A1.out.step hb)
  have E2 := Lib.hid (E1.out.step hb)
  clear hb hg
  go_wp2_with fail
  refine (C20.out w2 A2.out E2.out).mono ?_
  rintro e w3 ⟨y, cy, rfl, hg, hb⟩
  have B3 := Lib.hid hb
  have Y3 := Lib.hid hg
  have X3 := Lib.hid (X2.out.step hb)
  have A3 := Lib.hid (A2.out.step hb)
  have E3 := Lib.hid (E2.out.step hb)
  clear hb hg
  go_wp2_with fail
  refine (rsame_any x y k k cx cy _ _ _ _ w3 X3.out Y3.out true (same_self _ _ _)).mono ?_
  rintro e w4 ⟨rfl, hf⟩
  have B4 := Lib.hid hf.below
  have A4 := Lib.hid (A3.out.step hf.below)
  have E4 := Lib.hid (E3.out.step hf.below)
  clear hf
  go_wp2_with fail
  refine (may_any a ra ca LA A w4 A4.out e1 H1.out).mono ?_
  rintro e w5 ⟨rfl, rfl⟩
  go_wp2_with fail
  refine (rmay_any a ra ca LA A w4 A4.out e1 H1.out).mono ?_
  rintro e w5 ⟨rfl, hf⟩
  have B5 := Lib.hid hf.below
  have A5 := Lib.hid (A4.out.step hf.below)
  have E5 := Lib.hid (E4.out.step hf.below)
  clear hf
  go_wp2_with fail
  refine (same_any a b ra rb ca cb LA LB A B w5 A5.out E5.out e2 H2.out).mono ?_
  rintro e w6 ⟨rfl, rfl⟩
  go_wp2_with fail
  refine (rsame_any a b ra rb ca cb LA LB A B w5 A5.out E5.out e2 H2.out).mono ?_
  rintro e w6 ⟨rfl, hf⟩
  have B6 := Lib.hid hf.below
  have A6 := Lib.hid (A5.out.step hf.below)
  clear hf
  go_wp2_with fail
  refine (same_any a a ra ra ca ca LA LA A A w6 A6.out A6.out true (same_self _ _ _)).mono ?_
  rintro e w7 ⟨rfl, rfl⟩
  go_wp2
  go_ret
  have t2 := B1.out.trans (B2.out.mono B1.out.size)
  have t3 := t2.trans (B3.out.mono t2.size)
  have t4 := t3.trans (B4.out.mono t3.size)
  have t5 := t4.trans (B5.out.mono t4.size)
  exact ⟨rfl, t5.trans (B6.out.mono t5.size)⟩
theorem mul_no2 (a b : Option Addr) (ra rb ca cb : Nat) (LA LB : Nat → Nat) (A B : Nat → Nat → Nat) (w : World) (gA : Grid w a ra LA A) (gB : Grid w b rb LB B) (h : ¬ MulOk ra LA rb LB) :
    Calls Try.prog 19 #[.slice a ra ca, .slice b rb cb] w fun e w' => ∃ x cap, e = .returned (.tuple #[.slice x 0 cap, .int .i64 1]) ∧ Below w.heap.size w w' := by
  have := mul_any2 a b ra rb ca cb LA LB A B w gA gB
  unfold rI eI at this
  rw [if_neg h, if_neg h] at this
  exact this.mono fun e w' ⟨x, cap, h1, _, h2⟩ => ⟨x, cap, h1, h2⟩
/-- a product or not: all that is known -/
theorem mul_some (a b : Option Addr) (ra rb ca cb : Nat) (LA LB : Nat → Nat) (A B : Nat → Nat → Nat) (w : World) (gA : Grid w a ra LA A) (gB : Grid w b rb LB B) :
    Calls Try.prog 19 #[.slice a ra ca, .slice b rb cb] w fun e w' => ∃ x k cap z, e = .returned (.tuple #[.slice x k cap, .int .i64 z]) ∧ Below w.heap.size w w' :=
  (mul_any2 a b ra rb ca cb LA LB A B w gA gB).mono fun e w' ⟨x, cap, h1, _, h2⟩ => ⟨x, _, cap, _, h1, h2⟩
set_option maxRecDepth 100000 in
set_option maxHeartbeats 4000000 in
theorem brackets_no1 (a b c : Option Addr) (ra rb rc ca cb cc : Nat) (LA LB LC : Nat → Nat) (A B C : Nat → Nat → Nat) (w : World) (gA : Grid w a ra LA A) (gB : Grid w b rb LB B) (gC : Grid w c rc LC C) (h : ¬ MulOk ra LA rb LB) :
    Calls Try.prog 6 #[.slice a ra ca, .slice b rb cb, .slice c rc cc] w fun e w' => e = .returned (.bool true) ∧ Below w.heap.size w w' := by
  have GA := Lib.hid gA
  have GB := Lib.hid gB
  have GC := Lib.hid gC
  have HH := Lib.hid h
  clear gA gB gC h
  go_enter Try.func6, Try.ntmps6
  go_wp2_with fail
  refine (shown_yes w).mono ?_
  rintro e w1 ⟨rfl, hb⟩
  have B1 := Lib.hid hb
  clear hb
  go_wp2_with fail
  refine (mul_no2 a b ra rb ca cb LA LB A B w1 (GA.out.step B1.out) (GB.out.step B1.out) HH.out).mono ?_
  rintro e w2 ⟨x, cx, rfl, hb⟩
  have B2 := Lib.hid hb
  clear hb
  go_wp2_with fail
  refine (mul_some b c rb rc cb cc LB LC B C w2 ((GB.out.step B1.out).step B2.out) ((GC.out.step B1.out).step B2.out)).mono ?_
  rintro e w3 ⟨y, k, cy, z, rfl, hb⟩
  have B3 := Lib.hid hb
  clear hb
  go_wp2
  go_ret
  have t2 := B1.out.trans (B2.out.mono B1.out.size)
  exact ⟨rfl, t2.trans (B3.out.mono t2.size)⟩
end Go.Proofs.Ytlpmehnffdaobaa
