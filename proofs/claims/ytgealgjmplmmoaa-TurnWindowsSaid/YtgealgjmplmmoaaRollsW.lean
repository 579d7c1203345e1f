/- TurnRolls walked: it returns true. -/
import Derived.Test.YtgealgjmplmmoaaMulsW
import Derived.Test.YtgealgjmplmmoaaJoinW
import Derived.Test.YtgealgjmplmmoaaRJoinW
import Derived.Test.YtgealgjmplmmoaaRollW
import Derived.Test.YtgealgjmplmmoaaRRollW
import Derived.OpenShut
namespace Go.Proofs.Ytgealgjmplmmoaa
open Go.RowKit
open Go.ChangeShapes
theorem TwoB.start7 (w : World) (cs : Array Value) (a b c d : Int) : TwoB w (((w.alloc (.cells cs 31)).alloc (.cells #[.int .i64 a, .int .i64 b] 24)).alloc (.cells #[.int .i64 c, .int .i64 d] 24)) (w.heap.size + 1) (w.heap.size + 1 + 1) a b c d := by
  have e0 : (w.alloc (.cells cs 31)).heap.size = w.heap.size + 1 := by show (w.heap.push _).size = _; simp
  have h := TwoB.start (w.alloc (.cells cs 31)) a b c d
  rw [e0] at h
  exact ⟨((Fresh.refl w).alloc _ _).trans h.1, h.2.1, h.2.2⟩
theorem TwoB.alloc {w W : World} {g k : Nat} {a b c d : Int} (h : TwoB w W g k a b c d) (cs : Array Value) (t : TypeId) : TwoB w (W.alloc (.cells cs t)) g k a b c d := ⟨h.1.alloc _ _, h.2.1.old _, h.2.2.old _⟩
/-- one answer of both Rolls -/
theorem rolls_any (a b n o i : Int) (wn : (Lit.int .i64 n).wf = true) (wo : (Lit.int .u8 o).wf = true) (wi : (Lit.int .u8 i).wf = true) : ∃ P Q E : Int,
    (∀ w, Calls Try.prog 12 #[.agg #[.int .i64 a, .int .i64 b], .int .i64 n, .int .u8 o, .int .u8 i] w fun e w' => e = .returned (.tuple #[.agg #[.int .i64 P, .int .i64 Q], .int .i64 E]) ∧ Fresh w w') ∧
    (∀ w, Calls Try.prog 13 #[.agg #[.int .i64 a, .int .i64 b], .int .i64 n, .int .u8 o, .int .u8 i] w fun e w' => e = .returned (.tuple #[.agg #[.int .i64 P, .int .i64 Q], .int .i64 E]) ∧ Fresh w w') := by
  obtain ⟨o0, o1⟩ := bounds_u8 wo
  obtain ⟨i0, i1⟩ := bounds_u8 wi
  obtain ⟨n0, n1⟩ := bounds_i64 wn
  obtain ⟨o, rfl⟩ : ∃ k : Nat, o = (k : Int) := ⟨o.toNat, by omega⟩
  obtain ⟨i, rfl⟩ : ∃ k : Nat, i = (k : Int) := ⟨i.toNat, by omega⟩
  by_cases h : TM.May (a, b) ∧ 1 ≤ n
  · obtain ⟨m, rfl⟩ : ∃ m : Nat, n = (m : Int) + 1 := ⟨(n - 1).toNat, by omega⟩
    obtain ⟨P, Q, hP⟩ : ∃ P Q, TM.roll (a, b) m o i = (P, Q) := ⟨_, _, rfl⟩
    exact ⟨P, Q, 0, roll_yes a b P Q m o i (by unfold I63; omega) (by omega) (by omega) h.1 hP, rroll_yes a b P Q m o i (by unfold I63; omega) (by omega) (by omega) h.1 hP⟩
  · exact ⟨0, 0, 1, roll_no a b n o i h, rroll_no a b n o i h⟩
/-- one answer of both Joins -/
theorem joins_one (a b c d n : Int) (wn : (Lit.int .i64 n).wf = true) : ∃ P Q E : Int,
    (∀ w, Calls Try.prog 14 #[.agg #[.int .i64 a, .int .i64 b], .agg #[.int .i64 c, .int .i64 d], .int .i64 n] w fun e w' => e = .returned (.tuple #[.agg #[.int .i64 P, .int .i64 Q], .int .i64 E]) ∧ Fresh w w') ∧
    (∀ w, Calls Try.prog 15 #[.agg #[.int .i64 a, .int .i64 b], .agg #[.int .i64 c, .int .i64 d], .int .i64 n] w fun e w' => e = .returned (.tuple #[.agg #[.int .i64 P, .int .i64 Q], .int .i64 E]) ∧ Fresh w w') := by
  obtain ⟨n0, n1⟩ := bounds_i64 wn
  by_cases h : TM.May (a, b) ∧ TM.May (c, d) ∧ 0 ≤ n
  · obtain ⟨m, rfl⟩ : ∃ m : Nat, n = (m : Int) := ⟨n.toNat, by omega⟩
    obtain ⟨P, Q, hP⟩ : ∃ P Q, TM.join (a, b) (c, d) m = (P, Q) := ⟨_, _, rfl⟩
    exact ⟨P, Q, 0, join_yes a b c d P Q m (by unfold I63; omega) h.1 h.2.1 hP, rjoin_yes a b c d P Q m (by unfold I63; omega) h.1 h.2.1 hP⟩
  · exact ⟨0, 0, 1, join_no a b c d n h, rjoin_no a b c d n h⟩
set_option maxRecDepth 100000 in
set_option maxHeartbeats 4000000 in
theorem trolls_any (a b c d n o i : Int) (wn : (Lit.int .i64 n).wf = true) (wo : (Lit.int .u8 o).wf = true) (wi : (Lit.int .u8 i).wf = true) (w : World) :
    Calls Try.prog 4 #[.agg #[.int .i64 a, .int .i64 b, .int .i64 c, .int .i64 d, .int .i64 n, .int .u8 o, .int .u8 i]] w fun e w' => e = .returned (.bool true) ∧ Fresh w w' := by
  obtain ⟨P, Q, E, hR, hRR⟩ := rolls_any a b n o i wn wo wi
  obtain ⟨A, B, D, hJ, hRJ⟩ := joins_one a b c d n wn
  have HR := Lib.hid hR
  have HRR := Lib.hid hRR
  have HJ := Lib.hid hJ
  have HRJ := Lib.hid hRJ
  have e1 := eq_self P
  have e2 := eq_self Q
  have e3 := eq_self A
  have e4 := eq_self B
  have e5 := eq_self E
  have e6 := eq_self D
  clear hR hRR hJ hRJ
  have HT := Lib.hid (TwoB.start7 w #[.int .i64 a, .int .i64 b, .int .i64 c, .int .i64 d, .int .i64 n, .int .u8 o, .int .u8 i] a b c d)
  clear wn wo wi
  go_enter Try.func4, Try.ntmps4
  go_wp2_with fail
  generalize ((w.alloc (.cells #[.int .i64 a, .int .i64 b, .int .i64 c, .int .i64 d, .int .i64 n, .int .u8 o, .int .u8 i] 31)).alloc (.cells #[.int .i64 a, .int .i64 b] 24)).alloc (.cells #[.int .i64 c, .int .i64 d] 24) = W0 at *
  generalize w.heap.size = g0 at *
  generalize hg1 : g0 + 1 = g1 at *
  generalize hg2 : g1 + 1 = g2 at *
  clear hg1 hg2
  refine (shown_yes _).mono ?_
  rintro e w1 ⟨rfl, hf⟩
  have H1 := Lib.hid (HT.out.step hf)
  clear hf HT
  have c1 := H1.out.s.2.1
  have c2 := H1.out.s.2.2.1
  have c3 := H1.out.s.2.2.2.1
  have c4 := H1.out.s.2.2.2.2
  go_wp2_with fail
  refine (HR.out _).mono ?_
  rintro e w2 ⟨rfl, hf⟩
  have H2 := Lib.hid ((H1.out.step hf).alloc #[.int .i64 P, .int .i64 Q] 24)
  have X2 := Lib.hid (Box.alloc w2 (.int .i64 P) (.int .i64 Q))
  clear hf H1 c1 c2 c3 c4 HR
  have c1 := H2.out.s.2.1
  have c2 := H2.out.s.2.2.1
  have c3 := H2.out.s.2.2.2.1
  have c4 := H2.out.s.2.2.2.2
  go_wp2_with fail
  generalize w2.alloc (.cells #[.int .i64 P, .int .i64 Q] 24) = W2 at *
  generalize w2.heap.size = k2 at *
  refine (HRR.out _).mono ?_
  rintro e w3 ⟨rfl, hf⟩
  have H3 := Lib.hid ((H2.out.step hf).alloc #[.int .i64 P, .int .i64 Q] 24)
  have Y2 := Lib.hid ((X2.out.step hf).old (.cells #[.int .i64 P, .int .i64 Q] 24))
  clear X2
  have X2 := Y2
  clear Y2
  have X3 := Lib.hid (Box.alloc w3 (.int .i64 P) (.int .i64 Q))
  clear hf H2 c1 c2 c3 c4 HRR
  have c1 := H3.out.s.2.1
  have c2 := H3.out.s.2.2.1
  have c3 := H3.out.s.2.2.2.1
  have c4 := H3.out.s.2.2.2.2
  go_wp2_with fail
  generalize w3.alloc (.cells #[.int .i64 P, .int .i64 Q] 24) = W3 at *
  generalize w3.heap.size = k3 at *
  refine (HJ.out _).mono ?_
  rintro e w4 ⟨rfl, hf⟩
  have H4 := Lib.hid ((H3.out.step hf).alloc #[.int .i64 A, .int .i64 B] 24)
  have Y2 := Lib.hid ((X2.out.step hf).old (.cells #[.int .i64 A, .int .i64 B] 24))
  clear X2
  have X2 := Y2
  clear Y2
  have Y3 := Lib.hid ((X3.out.step hf).old (.cells #[.int .i64 A, .int .i64 B] 24))
  clear X3
  have X3 := Y3
  clear Y3
  have X4 := Lib.hid (Box.alloc w4 (.int .i64 A) (.int .i64 B))
  clear hf H3 c1 c2 c3 c4 HJ
  have c1 := H4.out.s.2.1
  have c2 := H4.out.s.2.2.1
  have c3 := H4.out.s.2.2.2.1
  have c4 := H4.out.s.2.2.2.2
  go_wp2_with fail
  generalize w4.alloc (.cells #[.int .i64 A, .int .i64 B] 24) = W4 at *
  generalize w4.heap.size = k4 at *
  refine (HRJ.out _).mono ?_
  rintro e w5 ⟨rfl, hf⟩
  have H5 := Lib.hid ((H4.out.step hf).alloc #[.int .i64 A, .int .i64 B] 24)
  have Y2 := Lib.hid ((X2.out.step hf).old (.cells #[.int .i64 A, .int .i64 B] 24))
  clear X2
  have X2 := Y2
  clear Y2
  have Y3 := Lib.hid ((X3.out.step hf).old (.cells #[.int .i64 A, .int .i64 B] 24))
  clear X3
  have X3 := Y3
  clear Y3
  have Y4 := Lib.hid ((X4.out.step hf).old (.cells #[.int .i64 A, .int .i64 B] 24))
  clear X4
  have X4 := Y4
  clear Y4
  have X5 := Lib.hid (Box.alloc w5 (.int .i64 A) (.int .i64 B))
  clear hf H4 c1 c2 c3 c4 HRJ
  have d2 := X2.out.c0
  have b2 := X2.out.c1
  have d3 := X3.out.c0
  have b3 := X3.out.c1
  have d4 := X4.out.c0
  have b4 := X4.out.c1
  go_wp2
  go_ret
  exact ⟨rfl, H5.out.1⟩
end Go.Proofs.Ytgealgjmplmmoaa
