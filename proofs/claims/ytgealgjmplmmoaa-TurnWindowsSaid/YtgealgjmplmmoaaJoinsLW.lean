/- TurnJoins walked: it returns true. -/
import Derived.Test.YtgealgjmplmmoaaLawsA
import Derived.Test.YtgealgjmplmmoaaJoinW
namespace Go.Proofs.Ytgealgjmplmmoaa
open Go.RowKit
/-- one box more, in a world that has at most grown -/
def OneB (w W : World) (g : Nat) (P Q : Int) : Prop := Fresh w W ∧ Box W g (.int .i64 P) (.int .i64 Q)
theorem OneB.step {w W W' : World} {g : Nat} {P Q : Int} (h : OneB w W g P Q) (hf : Fresh W W') : OneB w W' g P Q := ⟨h.1.trans hf, h.2.step hf⟩
theorem OneB.s {w W : World} {g : Nat} {P Q : Int} (h : OneB w W g P Q) : OneB w W g P Q ∧ W.cell? ⟨g, 0, none⟩ = some (.int .i64 P) ∧ W.cell? ⟨g, 1, none⟩ = some (.int .i64 Q) := ⟨h, h.2.c0, h.2.c1⟩
set_option maxRecDepth 100000 in
set_option maxHeartbeats 2000000 in
theorem joins_any (s t : ByteArray) (hs : s.size ≤ 140737488351232) (ht : t.size ≤ 140737488351232) (w : World) :
    Calls Try.prog 9 #[.string s, .string t] w fun e w' => e = .returned (.bool true) ∧ Fresh w w' := by
  obtain ⟨A, B, hA⟩ : ∃ A B, TM.print s.data.toList = (A, B) := ⟨_, _, rfl⟩
  obtain ⟨C, D, hC⟩ : ∃ C D, TM.print t.data.toList = (C, D) := ⟨_, _, rfl⟩
  obtain ⟨P, Q, hP⟩ : ∃ P Q, TM.join (A, B) (C, D) t.size = (P, Q) := ⟨_, _, rfl⟩
  have hst : TM.print (s ++ t).data.toList = (P, Q) := by
    rw [ByteArray.data_append, Array.toList_append, TM.print_append, hA, hC]; exact hP
  have hsz : (s ++ t).size ≤ maxLen := by rw [ByteArray.size_append]; unfold maxLen; omega
  have hMP : TM.May (P, Q) := by rw [← hP]; exact TM.join_may _ _ _
  have HA := Lib.hid hA
  have HC := Lib.hid hC
  have HP := Lib.hid hP
  have HST := Lib.hid hst
  have HSZ := Lib.hid hsz
  have HMA : Hid (TM.May (A, B)) := Lib.hid (by rw [← hA]; exact TM.print_may _)
  have HMC : Hid (TM.May (C, D)) := Lib.hid (by rw [← hC]; exact TM.print_may _)
  have Hs : Hid (s.size ≤ maxLen) := Lib.hid (by unfold maxLen; omega)
  have Ht : Hid (t.size ≤ maxLen) := Lib.hid (by unfold maxLen; omega)
  have HI : Hid (I63 t.size) := Lib.hid (by unfold I63; omega)
  have e1 := eq_self P
  have e2 := eq_self Q
  have hadd : ∀ w, (Op.stringOp .add s t).run Try.prog w = .ok (.string (s ++ t)) w := fun w => run_string_add_sum w s t (by omega)
  obtain ⟨m0, m1, m2, m3⟩ := hMP
  simp only at m0 m1 m2 m3
  clear hA hC hP hst hsz hs ht
  go_enter Try.func9, Try.ntmps9
  go_wp2_with fail
  refine (shown_yes _).mono ?_
  rintro e w1 ⟨rfl, hf⟩
  have F1 := Lib.hid hf
  clear hf
  go_wp2_with fail
  refine (print_any s Hs.out A B HA.out _).mono ?_
  rintro e w2 ⟨rfl, hf⟩
  have F2 := Lib.hid (F1.out.trans hf)
  clear hf F1
  go_wp2_with fail
  refine (print_any t Ht.out C D HC.out _).mono ?_
  rintro e w3 ⟨rfl, hf⟩
  have F3 := Lib.hid (F2.out.trans hf)
  clear hf F2
  go_wp2_with fail
  refine (join_yes A B C D P Q t.size HI.out HMA.out HMC.out HP.out _).mono ?_
  rintro e w4 ⟨rfl, hf⟩
  have F4 := Lib.hid (F3.out.trans hf)
  clear hf F3
  go_wp2_with fail
  have H0 : Hid (OneB w (w4.alloc (.cells #[.int .i64 P, .int .i64 Q] 24)) w4.heap.size P Q) := Lib.hid ⟨F4.out.alloc _ _, Box.alloc _ _ _⟩
  generalize w4.alloc (.cells #[.int .i64 P, .int .i64 Q] 24) = W at *
  generalize w4.heap.size = g at *
  have c1 := H0.out.2.c0
  have c2 := H0.out.2.c1
  clear F4
  go_region_held3 (fun w' => OneB w w' g P Q ∧ w'.cell? ⟨g, 0, none⟩ = some (.int .i64 P) ∧ w'.cell? ⟨g, 1, none⟩ = some (.int .i64 Q))
    (first
      | exact (H0.out.step (Fresh.refl _).drew).s
      | exact H1.out.s)
    (first
      | (go_at_call 11; refine (print_any (s ++ t) HSZ.out P Q HST.out _).mono ?_; rintro e w5 ⟨rfl, hf⟩; have H1 := Lib.hid (OneB.step (‹OneB w _ g P Q ∧ _›).1 hf); clear hf)
      | (go_at_call 16; refine (may_yes P Q m0 m1 m2 m3 _).mono ?_; rintro e w5 ⟨rfl, hf⟩; have H1 := Lib.hid (OneB.step (‹OneB w _ g P Q ∧ _›).1 hf); clear hf))
  all_goals
    go_wp2
    go_ret
    exact ⟨rfl, H1.out.1⟩
end Go.Proofs.Ytgealgjmplmmoaa
