/- MatrixBrackets walked: it returns true. -/
import Derived.Test.YtlpmehnffdaobaaMulsLW
namespace Go.Proofs.Ytlpmehnffdaobaa
open Go.RowKit Go.Deep
set_option linter.unusedVariables false
theorem mul_ok (a b : Option Addr) (ra rb ca cb : Nat) (LA LB : Nat → Nat) (A B : Nat → Nat → Nat) (w : World) (gA : Grid w a ra LA A) (gB : Grid w b rb LB B) (h : MulOk ra LA rb LB) :
    Calls Try.prog 19 #[.slice a ra ca, .slice b rb cb] w fun e w' => ∃ x cap, e = .returned (.tuple #[.slice x ra cap, .int .i64 0]) ∧ Grid w' x ra (fun _ => LB 0) (mm rb A B) ∧ Below w.heap.size w w' := by
  have := mul_any2 a b ra rb ca cb LA LB A B w gA gB
  unfold rI eI at this
  rw [if_pos h, if_pos h] at this
  exact this
theorem br_assoc {w : World} {a b c : Option Addr} {ra rb rc : Nat} {KA KB KC : Nat → Nat} {A B C : Nat → Nat → Nat} (gA : Grid w a ra KA A) (gB : Grid w b rb KB B) (gC : Grid w c rc KC C) (h : MulOk ra KA rb KB) (h2 : MulOk rb KB rc KC) (i : Nat) (hi : i < ra) (j : Nat) (hj : j < KC 0) :
    mm rc (mm rb A B) C i j = mm rb A (mm rc B C) i j := by
  have bA : LA.Bytes ra rb A := by have := grid_bytes (grid_sq gA h.1); rwa [h.2.2] at this
  have bB : LA.Bytes rb rc B := by have := grid_bytes (grid_sq gB h.2.1); rwa [h2.2.2] at this
  have bC : LA.Bytes rc (KC 0) C := grid_bytes (grid_sq gC h2.2.1)
  rw [mm_mp, mm_mp, LA.mp_congr (C := LA.mp rb A B) (D := C) i j (fun k _ => mm_mp _ _ _ _ _) (fun _ _ => rfl), LA.mp_assoc bA bB bC i j hi hj]
  exact LA.mp_congr i j (fun _ _ => rfl) fun k _ => (mm_mp _ _ _ _ _).symm
theorem br_one {w : World} {a : Option Addr} {ra : Nat} {KA : Nat → Nat} {A : Nat → Nat → Nat} (gA : Grid w a ra KA A) (h : May ra KA) (i : Nat) (hi : i < ra) (j : Nat) (hj : j < KA 0) : mm ra idm A i j = A i j := by
  rw [mm_mp]
  exact LA.one_mp (grid_bytes (grid_sq gA h)) i j hi hj
set_option maxRecDepth 100000 in
set_option maxHeartbeats 4000000 in
theorem brackets_no2 (a b c : Option Addr) (ra rb rc ca cb cc : Nat) (LA LB LC : Nat → Nat) (A B C : Nat → Nat → Nat) (w : World) (gA : Grid w a ra LA A) (gB : Grid w b rb LB B) (gC : Grid w c rc LC C) (h : MulOk ra LA rb LB) (h2 : ¬ MulOk rb LB rc LC) :
    Calls Try.prog 6 #[.slice a ra ca, .slice b rb cb, .slice c rc cc] w fun e w' => e = .returned (.bool true) ∧ Below w.heap.size w w' := by
  have GA := Lib.hid gA
  have GB := Lib.hid gB
  have GC := Lib.hid gC
  have HH := Lib.hid h
  have HN := Lib.hid h2
  clear gA gB gC h h2
  go_enter Try.func6, Try.ntmps6
  go_wp2_with fail
  refine (shown_yes w).mono ?_
  rintro e w1 ⟨rfl, hb⟩
  have B1 := Lib.hid hb
  clear hb
  go_wp2_with fail
  refine (mul_ok a b ra rb ca cb LA LB A B w1 (GA.out.step B1.out) (GB.out.step B1.out) HH.out).mono ?_
  rintro e w2 ⟨x, cx, rfl, hg, hb⟩
  have B2 := Lib.hid hb
  clear hb hg
  go_wp2_with fail
  refine (mul_no2 b c rb rc cb cc LB LC B C w2 ((GB.out.step B1.out).step B2.out) ((GC.out.step B1.out).step B2.out) HN.out).mono ?_
  rintro e w3 ⟨y, cy, rfl, hb⟩
  have B3 := Lib.hid hb
  clear hb
  go_wp2
  go_ret
  have t2 := B1.out.trans (B2.out.mono B1.out.size)
  exact ⟨rfl, t2.trans (B3.out.mono t2.size)⟩
set_option maxRecDepth 100000 in
set_option maxHeartbeats 4000000 in
theorem brackets_yes (a b c : Option Addr) (ra rb rc ca cb cc : Nat) (LA LB LC : Nat → Nat) (A B C : Nat → Nat → Nat) (w : World) (gA : Grid w a ra LA A) (gB : Grid w b rb LB B) (gC : Grid w c rc LC C) (h : MulOk ra LA rb LB) (h2 : MulOk rb LB rc LC) :
    Calls Try.prog 6 #[.slice a ra ca, .slice b rb cb, .slice c rc cc] w fun e w' => e = .returned (.bool true) ∧ Below w.heap.size w w' := by
  have e1 := Lib.hid (br_assoc gA gB gC h h2)
  have e2 := Lib.hid (br_one gA h.1)
  have o1 : MulOk ra (fun _ => LB 0) rc LC := ⟨may_c h.1.1 h.1.2.1 h.2.1.2.2.1 h.2.1.2.2.2.1, h2.2.1, h2.2.2⟩
  have o2 : MulOk ra LA rb (fun _ => LC 0) := ⟨h.1, may_c h.2.1.1 h.2.1.2.1 h2.2.1.2.2.1 h2.2.1.2.2.2.1, h.2.2⟩
  have o3 : MulOk ra (fun _ => ra) ra LA := ⟨may_c h.1.1 h.1.2.1 h.1.1 h.1.2.1, h.1, rfl⟩
  have O1 := Lib.hid o1
  have O2 := Lib.hid o2
  have O3 := Lib.hid o3
  have GA := Lib.hid gA
  have GB := Lib.hid gB
  have GC := Lib.hid gC
  have HH := Lib.hid h
  have HN := Lib.hid h2
  have r1 : 1 ≤ ra := h.1.1
  have r2 : ra ≤ 32 := h.1.2.1
  clear gA gB gC h h2 o1 o2 o3
  go_enter Try.func6, Try.ntmps6
  go_wp2_with fail
  refine (shown_yes w).mono ?_
  rintro e w1 ⟨rfl, hb⟩
  have B1 := Lib.hid hb
  have A1 := Lib.hid (GA.out.step hb)
  have E1 := Lib.hid (GB.out.step hb)
  have F1 := Lib.hid (GC.out.step hb)
  clear hb
  go_wp2_with fail
  refine (mul_ok a b ra rb ca cb LA LB A B w1 A1.out E1.out HH.out).mono ?_
  rintro e w2 ⟨x, cx, rfl, hg, hb⟩
  have B2 := Lib.hid hb
  have X2 := Lib.hid hg
  have A2 := Lib.hid (A1.out.step hb)
  have E2 := Lib.hid (E1.out.step hb)
  have F2 := Lib.hid (F1.out.step hb)
  clear hb hg
  go_wp2_with fail
  refine (mul_ok b c rb rc cb cc LB LC B C w2 E2.out F2.out HN.out).mono ?_
  rintro e w3 ⟨y, cy, rfl, hg, hb⟩
  have B3 := Lib.hid hb
  have Y3 := Lib.hid hg
  have X3 := Lib.hid (X2.out.step hb)
  have A3 := Lib.hid (A2.out.step hb)
  have F3 := Lib.hid (F2.out.step hb)
  clear hb hg
  go_wp2_with fail
  refine (mul_ok x c ra rc cx cc _ LC _ C w3 X3.out F3.out O1.out).mono ?_
  rintro e w4 ⟨p, cp, rfl, hg, hb⟩
  have B4 := Lib.hid hb
  have P4 := Lib.hid hg
  have Y4 := Lib.hid (Y3.out.step hb)
  have A4 := Lib.hid (A3.out.step hb)
  clear hb hg
  go_wp2_with fail
  refine (mul_ok a y ra rb ca cy LA _ A _ w4 A4.out Y4.out O2.out).mono ?_
  rintro e w5 ⟨q, cq, rfl, hg, hb⟩
  have B5 := Lib.hid hb
  have Q5 := Lib.hid hg
  have P5 := Lib.hid (P4.out.step hb)
  have A5 := Lib.hid (A4.out.step hb)
  clear hb hg
  go_wp2_with fail
  refine (identity_yes ra ⟨r1, r2⟩ w5).mono ?_
  rintro e w6 ⟨rfl, hO⟩
  have B6 := Lib.hid hO.fresh.below
  have O6 := Lib.hid (hO.grid r2 r2 fun i _ j _ => idm_lt i j)
  have P6 := Lib.hid (P5.out.step hO.fresh.below)
  have Q6 := Lib.hid (Q5.out.step hO.fresh.below)
  have A6 := Lib.hid (A5.out.step hO.fresh.below)
  clear hO
  go_wp2_with fail
  refine (mul_ok _ a ra ra ra ca _ LA _ A w6 O6.out A6.out O3.out).mono ?_
  rintro e w7 ⟨z, cz, rfl, hg, hb⟩
  have B7 := Lib.hid hb
  have Z7 := Lib.hid hg
  have P7 := Lib.hid (P6.out.step hb)
  have Q7 := Lib.hid (Q6.out.step hb)
  have A7 := Lib.hid (A6.out.step hb)
  clear hb hg
  go_wp2_with fail
  refine (rsame_any p q ra ra cp cq _ _ _ _ w7 P7.out Q7.out true ⟨fun _ => ⟨rfl, fun i hi => ⟨rfl, fun j hj => e1.out i hi j hj⟩⟩, fun _ => rfl⟩).mono ?_
  rintro e w8 ⟨rfl, hf⟩
  have B8 := Lib.hid hf.below
  have Z8 := Lib.hid (Z7.out.step hf.below)
  have A8 := Lib.hid (A7.out.step hf.below)
  clear hf
  go_wp2_with fail
  refine (rsame_any z a ra ra cz ca _ _ _ _ w8 Z8.out A8.out true ⟨fun _ => ⟨rfl, fun i hi => ⟨(HH.out.1.2.2.2.2 i hi).symm, fun j hj => e2.out i hi j hj⟩⟩, fun _ => rfl⟩).mono ?_
  rintro e w9 ⟨rfl, hf⟩
  have B9 := Lib.hid hf.below
  clear hf
  go_wp2
  go_ret
  have t2 := B1.out.trans (B2.out.mono B1.out.size)
  have t3 := t2.trans (B3.out.mono t2.size)
  have t4 := t3.trans (B4.out.mono t3.size)
  have t5 := t4.trans (B5.out.mono t4.size)
  have t6 := t5.trans (B6.out.mono t5.size)
  have t7 := t6.trans (B7.out.mono t6.size)
  have t8 := t7.trans (B8.out.mono t7.size)
  exact ⟨rfl, t8.trans (B9.out.mono t8.size)⟩
theorem brackets_law (a b c : Option Addr) (ra rb rc ca cb cc : Nat) (LA LB LC : Nat → Nat) (A B C : Nat → Nat → Nat) (w : World) (gA : Grid w a ra LA A) (gB : Grid w b rb LB B) (gC : Grid w c rc LC C) :
    Calls Try.prog 6 #[.slice a ra ca, .slice b rb cb, .slice c rc cc] w fun e w' => e = .returned (.bool true) ∧ Below w.heap.size w w' := by
  by_cases h1 : MulOk ra LA rb LB
  · by_cases h2 : MulOk rb LB rc LC
    · exact brackets_yes a b c ra rb rc ca cb cc LA LB LC A B C w gA gB gC h1 h2
    · exact brackets_no2 a b c ra rb rc ca cb cc LA LB LC A B C w gA gB gC h1 h2
  · exact brackets_no1 a b c ra rb rc ca cb cc LA LB LC A B C w gA gB gC h1
end Go.Proofs.Ytlpmehnffdaobaa
