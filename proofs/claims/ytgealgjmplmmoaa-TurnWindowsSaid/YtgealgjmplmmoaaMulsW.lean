/- TurnMuls walked: it returns true. -/
import Derived.Test.YtgealgjmplmmoaaLawsA
import Derived.Test.YtgealgjmplmmoaaJoinsLW
namespace Go.Proofs.Ytgealgjmplmmoaa
open Go.RowKit
/-- May's answer -/
def mayB (a b : Int) : Bool := decide (0 ≤ a ∧ a < 8191 ∧ 0 ≤ b ∧ b < 8191)
theorem may_any (a b : Int) (e : Bool) (h : mayB a b = e) (w : World) :
    Calls Try.prog 16 #[.agg #[.int .i64 a, .int .i64 b]] w fun r w' => r = .returned (.bool e) ∧ Fresh w w' := by
  subst h
  by_cases hm : MayT a b
  · have : mayB a b = true := decide_eq_true hm
    rw [this]
    exact may_yes a b hm.1 hm.2.1 hm.2.2.1 hm.2.2.2 w
  · have : mayB a b = false := decide_eq_false hm
    rw [this]
    exact may_no a b hm w
theorem rmay_any (a b : Int) (e : Bool) (h : mayB a b = e) (w : World) :
    Calls Try.prog 17 #[.agg #[.int .i64 a, .int .i64 b]] w fun r w' => r = .returned (.bool e) ∧ Fresh w w' := by
  subst h
  by_cases hm : MayT a b
  · have : mayB a b = true := decide_eq_true hm
    rw [this]
    exact rmay_yes a b hm.1 hm.2.1 hm.2.2.1 hm.2.2.2 w
  · have : mayB a b = false := decide_eq_false hm
    rw [this]
    exact rmay_no a b hm w
/-- one answer of both Muls -/
theorem muls_any (a b c d : Int) : ∃ A B : Int,
    (∀ w, Calls Try.prog 18 #[.agg #[.int .i64 a, .int .i64 b], .agg #[.int .i64 c, .int .i64 d]] w fun e w' => e = .returned (.agg #[.int .i64 A, .int .i64 B]) ∧ Fresh w w') ∧
    (∀ w, Calls Try.prog 19 #[.agg #[.int .i64 a, .int .i64 b], .agg #[.int .i64 c, .int .i64 d]] w fun e w' => e = .returned (.agg #[.int .i64 A, .int .i64 B]) ∧ Fresh w w') := by
  by_cases h1 : MayT a b
  · by_cases h2 : MayT c d
    · obtain ⟨A, B, h⟩ : ∃ A B, TM.mul (a, b) (c, d) = (A, B) := ⟨_, _, rfl⟩
      exact ⟨A, B, mul_to a b c d A B h1 h2 h, rmul_to a b c d A B h1 h2 h⟩
    · exact ⟨0, 0, mul_no a b c d (.inr h2), rmul_no a b c d (.inr h2)⟩
  · exact ⟨0, 0, mul_no a b c d (.inl h1), rmul_no a b c d (.inl h1)⟩
theorem eq_selfB (e : Bool) : (e == e) = true := by cases e <;> rfl
/-- two boxes, in a world that has at most grown -/
def TwoB (w W : World) (g k : Nat) (a b c d : Int) : Prop := Fresh w W ∧ Box W g (.int .i64 a) (.int .i64 b) ∧ Box W k (.int .i64 c) (.int .i64 d)
theorem TwoB.step {w W W' : World} {g k : Nat} {a b c d : Int} (h : TwoB w W g k a b c d) (hf : Fresh W W') : TwoB w W' g k a b c d := ⟨h.1.trans hf, h.2.1.step hf, h.2.2.step hf⟩
/-- with what a walk reads of it -/
def TwoS (w W : World) (g k : Nat) (a b c d : Int) : Prop := TwoB w W g k a b c d ∧ W.cell? ⟨g, 0, none⟩ = some (.int .i64 a) ∧ W.cell? ⟨g, 1, none⟩ = some (.int .i64 b) ∧ W.cell? ⟨k, 0, none⟩ = some (.int .i64 c) ∧ W.cell? ⟨k, 1, none⟩ = some (.int .i64 d)
theorem TwoB.s {w W : World} {g k : Nat} {a b c d : Int} (h : TwoB w W g k a b c d) : TwoB w W g k a b c d ∧ W.cell? ⟨g, 0, none⟩ = some (.int .i64 a) ∧ W.cell? ⟨g, 1, none⟩ = some (.int .i64 b) ∧ W.cell? ⟨k, 0, none⟩ = some (.int .i64 c) ∧ W.cell? ⟨k, 1, none⟩ = some (.int .i64 d) := ⟨h, h.2.1.c0, h.2.1.c1, h.2.2.c0, h.2.2.c1⟩
theorem TwoB.start (w : World) (a b c d : Int) : TwoB w ((w.alloc (.cells #[.int .i64 a, .int .i64 b] 24)).alloc (.cells #[.int .i64 c, .int .i64 d] 24)) w.heap.size (w.heap.size + 1) a b c d := by
  have e1 : (w.alloc (.cells #[.int .i64 a, .int .i64 b] 24)).heap.size = w.heap.size + 1 := by show (w.heap.push _).size = _; simp
  have b0 := Box.alloc w (.int .i64 a) (.int .i64 b)
  have b1 := Box.alloc (w.alloc (.cells #[.int .i64 a, .int .i64 b] 24)) (.int .i64 c) (.int .i64 d)
  rw [e1] at b1
  exact ⟨((Fresh.refl w).alloc _ _).alloc _ _, b0.old _, b1⟩
set_option maxRecDepth 100000 in
set_option maxHeartbeats 4000000 in
theorem tmuls_any (a b c d : Int) (n : Nat) (hn : U64 n) (w : World) :
    Calls Try.prog 5 #[.agg #[.int .i64 a, .int .i64 b], .agg #[.int .i64 c, .int .i64 d], .int .u64 (n : Int)] w fun e w' => e = .returned (.bool true) ∧ Fresh w w' := by
  obtain ⟨A, B, hA, hR⟩ := muls_any a b c d
  obtain ⟨P, Q, hP⟩ : ∃ P Q, TM.power n = (P, Q) := ⟨_, _, rfl⟩
  obtain ⟨v, hv⟩ : ∃ v, mayB a b = v := ⟨_, rfl⟩
  have HA := Lib.hid hA
  have HR := Lib.hid hR
  have HP := Lib.hid hP
  have HV := Lib.hid hv
  have HN := Lib.hid hn
  have e1 := eq_self P
  have e2 := eq_self Q
  have e3 := eq_self A
  have e4 := eq_self B
  have e5 := eq_selfB v
  have HT := Lib.hid (TwoB.start w a b c d)
  clear hA hR hP hv hn
  go_enter Try.func5, Try.ntmps5
  go_wp2_with fail
  generalize (w.alloc (.cells #[.int .i64 a, .int .i64 b] 24)).alloc (.cells #[.int .i64 c, .int .i64 d] 24) = W0 at *
  generalize hg : w.heap.size = g at *
  refine (shown_yes _).mono ?_
  rintro e w1 ⟨rfl, hf⟩
  have H0 := Lib.hid (HT.out.step hf)
  clear hf
  have c1 := H0.out.s.2.1
  have c2 := H0.out.s.2.2.1
  have c3 := H0.out.s.2.2.2.1
  have c4 := H0.out.s.2.2.2.2
  go_wp2_with fail
  go_region_held3 (fun w' => TwoB w w' g (g + 1) a b c d ∧ w'.cell? ⟨g, 0, none⟩ = some (.int .i64 a) ∧ w'.cell? ⟨g, 1, none⟩ = some (.int .i64 b) ∧ w'.cell? ⟨g + 1, 0, none⟩ = some (.int .i64 c) ∧ w'.cell? ⟨g + 1, 1, none⟩ = some (.int .i64 d))
    (first
      | exact (H0.out.step (Fresh.refl _).drew).s
      | exact H1.out.s)
    (first
      | (go_at_call 16; refine (may_any a b v HV.out _).mono ?_; rintro e w5 ⟨rfl, hf⟩; have H1 := Lib.hid (TwoB.step (‹TwoB w _ g (g + 1) a b c d ∧ _›).1 hf); clear hf)
      | (go_at_call 17; refine (rmay_any a b v HV.out _).mono ?_; rintro e w5 ⟨rfl, hf⟩; have H1 := Lib.hid (TwoB.step (‹TwoB w _ g (g + 1) a b c d ∧ _›).1 hf); clear hf)
      | (go_at_call 18; refine (HA.out _).mono ?_; rintro e w5 ⟨rfl, hf⟩; have H1 := Lib.hid (TwoB.step (‹TwoB w _ g (g + 1) a b c d ∧ _›).1 hf); clear hf)
      | (go_at_call 19; refine (HR.out _).mono ?_; rintro e w5 ⟨rfl, hf⟩; have H1 := Lib.hid (TwoB.step (‹TwoB w _ g (g + 1) a b c d ∧ _›).1 hf); clear hf)
      | (go_at_call 20; refine (power_nat n HN.out P Q HP.out _).mono ?_; rintro e w5 ⟨rfl, hf⟩; have H1 := Lib.hid (TwoB.step (‹TwoB w _ g (g + 1) a b c d ∧ _›).1 hf); clear hf)
      | (go_at_call 21; refine (rpower_nat n HN.out P Q HP.out _).mono ?_; rintro e w5 ⟨rfl, hf⟩; have H1 := Lib.hid (TwoB.step (‹TwoB w _ g (g + 1) a b c d ∧ _›).1 hf); clear hf))
  all_goals
    go_wp2
    go_ret
    exact ⟨rfl, H1.out.1⟩
end Go.Proofs.Ytgealgjmplmmoaa
