/- MatrixAdds at any arguments: it returns true. -/
import Derived.Test.YtlpmehnffdaobaaAddsW
namespace Go.Proofs.Ytlpmehnffdaobaa
open Go.RowKit Go.Deep
set_option linter.unusedVariables false
set_option maxRecDepth 100000 in
set_option maxHeartbeats 4000000 in
theorem adds_no1 (a b c : Option Addr) (ra rb rc ca cb cc : Nat) (KA KB KC : Nat → Nat) (A B C : Nat → Nat → Nat) (w : World) (gA : Grid w a ra KA A) (gB : Grid w b rb KB B) (gC : Grid w c rc KC C) (h : ¬ MulOk ra KA rb KB) :
    Calls Try.prog 9 #[.slice a ra ca, .slice b rb cb, .slice c rc cc] w fun e w' => e = .returned (.bool true) ∧ Below w.heap.size w w' := by
  have GA := Lib.hid gA
  have GB := Lib.hid gB
  have GC := Lib.hid gC
  have HH := Lib.hid h
  clear gA gB gC h
  go_enter Try.func9, Try.ntmps9
  go_wp2_with fail
  refine (shown_yes w).mono ?_
  rintro e w1 ⟨rfl, hb⟩
  have B1 := Lib.hid hb
  clear hb
  go_wp2_with fail
  refine (mul_no2 a b ra rb ca cb KA KB A B w1 (GA.out.step B1.out) (GB.out.step B1.out) HH.out).mono ?_
  rintro e w2 ⟨x, cx, rfl, hb⟩
  have B2 := Lib.hid (B1.out.trans (hb.mono B1.out.size))
  clear hb
  go_wp2_with fail
  refine (mul_some a c ra rc ca cc KA KC A C w2 (GA.out.step B2.out) (GC.out.step B2.out)).mono ?_
  rintro e w3 ⟨y, k, cy, z, rfl, hb⟩
  have B3 := Lib.hid (B2.out.trans (hb.mono B2.out.size))
  clear hb
  go_wp2_with fail
  go_quiet (fail)
  go_wp2
  go_ret
  exact ⟨rfl, B3.out.trans ((below_drewN w3 nq).mono B3.out.size)⟩
set_option maxRecDepth 100000 in
set_option maxHeartbeats 4000000 in
theorem adds_no2 (a b c : Option Addr) (ra rb rc ca cb cc : Nat) (KA KB KC : Nat → Nat) (A B C : Nat → Nat → Nat) (w : World) (gA : Grid w a ra KA A) (gB : Grid w b rb KB B) (gC : Grid w c rc KC C) (h : MulOk ra KA rb KB) (h2 : ¬ MulOk ra KA rc KC) :
    Calls Try.prog 9 #[.slice a ra ca, .slice b rb cb, .slice c rc cc] w fun e w' => e = .returned (.bool true) ∧ Below w.heap.size w w' := by
  have GA := Lib.hid gA
  have GB := Lib.hid gB
  have GC := Lib.hid gC
  have HH := Lib.hid h
  have HN := Lib.hid h2
  clear gA gB gC h h2
  go_enter Try.func9, Try.ntmps9
  go_wp2_with fail
  refine (shown_yes w).mono ?_
  rintro e w1 ⟨rfl, hb⟩
  have B1 := Lib.hid hb
  clear hb
  go_wp2_with fail
  refine (mul_ok a b ra rb ca cb KA KB A B w1 (GA.out.step B1.out) (GB.out.step B1.out) HH.out).mono ?_
  rintro e w2 ⟨x, cx, rfl, hg, hb⟩
  have B2 := Lib.hid (B1.out.trans (hb.mono B1.out.size))
  clear hb hg
  go_wp2_with fail
  refine (mul_no2 a c ra rc ca cc KA KC A C w2 (GA.out.step B2.out) (GC.out.step B2.out) HN.out).mono ?_
  rintro e w3 ⟨y, cy, rfl, hb⟩
  have B3 := Lib.hid (B2.out.trans (hb.mono B2.out.size))
  clear hb
  go_wp2_with fail
  go_quiet (fail)
  go_wp2
  go_ret
  exact ⟨rfl, B3.out.trans ((below_drewN w3 nq).mono B3.out.size)⟩
set_option maxRecDepth 100000 in
set_option maxHeartbeats 4000000 in
theorem adds_no3 (a b c : Option Addr) (ra rb m n ca cb cc : Nat) (KA : Nat → Nat) (A B C : Nat → Nat → Nat) (w : World) (gA : Grid w a ra KA A) (gB : Grid w b rb (fun _ => m) B) (gC : Grid w c rb (fun _ => n) C) (h : MulOk ra KA rb (fun _ => m)) (h2 : MulOk ra KA rb (fun _ => n)) (hne : m ≠ n) :
    Calls Try.prog 9 #[.slice a ra ca, .slice b rb cb, .slice c rb cc] w fun e w' => e = .returned (.bool true) ∧ Below w.heap.size w w' := by
  have GA := Lib.hid gA
  have GB := Lib.hid gB
  have GC := Lib.hid gC
  have r3 : 1 ≤ rb := h.2.1.1
  have r5 : 1 ≤ m := h.2.1.2.2.1
  have r6 : 1 ≤ n := h2.2.1.2.2.1
  have HH := Lib.hid h
  have HN := Lib.hid h2
  have z4 : (0 : Int) < (rb : Int) := by omega
  have z5 : 0 < rb := r3
  have q : ((m : Int) != (n : Int)) = true := by simp; omega
  obtain ⟨pb, po, PC, PB, PO, rfl, cP⟩ := gB.at r5 r3
  obtain ⟨qb, qo, QC, QB, QO, rfl, cQ⟩ := gC.at r6 r3
  have HD0 := Lib.hid (cP 0 r3).1
  have HD1 := Lib.hid (cQ 0 r3).1
  clear gA gB gC h h2 cP cQ hne
  go_enter Try.func9, Try.ntmps9
  go_wp2_with fail
  refine (shown_yes w).mono ?_
  rintro e w1 ⟨rfl, hb⟩
  have B1 := Lib.hid hb
  clear hb
  go_wp2_with fail
  refine (mul_ok a _ ra rb ca cb KA _ A B w1 (GA.out.step B1.out) (GB.out.step B1.out) HH.out).mono ?_
  rintro e w2 ⟨x, cx, rfl, hg, hb⟩
  have B2 := Lib.hid (B1.out.trans (hb.mono B1.out.size))
  clear hb hg
  go_wp2_with fail
  refine (mul_ok a _ ra rb ca cc KA _ A C w2 (GA.out.step B2.out) (GC.out.step B2.out) HN.out).mono ?_
  rintro e w3 ⟨y, cy, rfl, hg, hb⟩
  have B3 := Lib.hid (B2.out.trans (hb.mono B2.out.size))
  have d0 := below_cell B3.out HD0.out
  have d1 := below_cell B3.out HD1.out
  rw [Nat.add_zero] at d0 d1
  clear hb hg
  go_wp2_with fail
  go_quiet (fail)
  go_wp2
  go_ret
  exact ⟨rfl, B3.out.trans ((below_drewN w3 nq).mono B3.out.size)⟩
theorem adds_law (a b c : Option Addr) (ra rb rc ca cb cc : Nat) (KA KB KC : Nat → Nat) (A B C : Nat → Nat → Nat) (w : World) (gA : Grid w a ra KA A) (gB : Grid w b rb KB B) (gC : Grid w c rc KC C) :
    Calls Try.prog 9 #[.slice a ra ca, .slice b rb cb, .slice c rc cc] w fun e w' => e = .returned (.bool true) ∧ Below w.heap.size w w' := by
  by_cases h1 : MulOk ra KA rb KB
  · by_cases h2 : MulOk ra KA rc KC
    · obtain rfl : rb = rc := h1.2.2.symm.trans h2.2.2
      have gB' := grid_sq gB h1.2.1
      have gC' := grid_sq gC h2.2.1
      by_cases h3 : KB 0 = KC 0
      · rw [← h3] at gC'
        have gA' := grid_sq gA h1.1
        rw [h1.2.2] at gA'
        have k1 := h1.1
        have k2 := h1.2.1
        exact adds_yes a b c ra rb (KB 0) ca cb cc A B C w gA' gB' gC' (may_c k1.1 k1.2.1 k2.1 k2.2.1) (may_c k2.1 k2.2.1 k2.2.2.1 k2.2.2.2.1)
      · exact adds_no3 a b c ra rb (KB 0) (KC 0) ca cb cc KA A B C w gA gB' gC' ⟨h1.1, may_c h1.2.1.1 h1.2.1.2.1 h1.2.1.2.2.1 h1.2.1.2.2.2.1, h1.2.2⟩ ⟨h2.1, may_c h2.2.1.1 h2.2.1.2.1 h2.2.1.2.2.1 h2.2.1.2.2.2.1, h2.2.2⟩ h3
    · exact adds_no2 a b c ra rb rc ca cb cc KA KB KC A B C w gA gB gC h1 h2
  · exact adds_no1 a b c ra rb rc ca cb cc KA KB KC A B C w gA gB gC h1
end Go.Proofs.Ytlpmehnffdaobaa
