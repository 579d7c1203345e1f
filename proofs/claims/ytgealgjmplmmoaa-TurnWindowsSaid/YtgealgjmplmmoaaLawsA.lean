/- TurnPrints and TurnPowers walked: they return true. -/
import Derived.Test.YtgealgjmplmmoaaShown
import Derived.Test.YtgealgjmplmmoaaRPutW
namespace Go.Proofs.Ytgealgjmplmmoaa
open Go.RowKit
theorem eq_self (P : Int) : ((P : Int) == P) = true := beq_self_eq_true _
set_option maxHeartbeats 800000 in
theorem prints_any (s : ByteArray) (hs : s.size ≤ maxLen) (w : World) :
    Calls Try.prog 6 #[.string s] w fun e w' => e = .returned (.bool true) ∧ Fresh w w' := by
  obtain ⟨P, Q, hPQ⟩ : ∃ P Q, TM.print s.data.toList = (P, Q) := ⟨_, _, rfl⟩
  have HP := Lib.hid hPQ
  have Hs := Lib.hid hs
  have e1 := eq_self P
  have e2 := eq_self Q
  clear hPQ hs
  go_enter Try.func6, Try.ntmps6
  go_wp2_with fail
  refine (shown_yes _).mono ?_
  rintro e w1 ⟨rfl, hf⟩
  have F1 := Lib.hid hf
  clear hf
  go_wp2_with fail
  refine (print_any s Hs.out P Q HP.out _).mono ?_
  rintro e w2 ⟨rfl, hf⟩
  have F2 := Lib.hid (F1.out.trans hf)
  clear hf
  go_wp2_with fail
  refine (rprint_any s Hs.out P Q HP.out _).mono ?_
  rintro e w3 ⟨rfl, hf⟩
  have F3 := Lib.hid (F2.out.trans hf)
  clear hf
  go_wp2
  go_ret
  exact ⟨rfl, F3.out⟩
set_option maxRecDepth 100000 in
set_option maxHeartbeats 1000000 in
theorem powers_m (m n : Nat) (h : (4611686018427387904 : Int) < (m : Int)) (w : World) :
    Calls Try.prog 8 #[.int .u64 (m : Int), .int .u64 (n : Int)] w fun e w' => e = .returned (.bool true) ∧ Fresh w w' := by
  go_enter Try.func8, Try.ntmps8
  go_wp2_with fail
  refine (shown_yes w).mono ?_
  rintro e w1 ⟨rfl, hf⟩
  have F1 := Lib.hid hf
  clear hf
  go_wp2
  go_ret
  exact ⟨rfl, F1.out⟩
set_option maxRecDepth 100000 in
set_option maxHeartbeats 1000000 in
theorem powers_n (m n : Nat) (h : ¬ (4611686018427387904 : Int) < (m : Int)) (h2 : (4611686018427387904 : Int) < (n : Int)) (w : World) :
    Calls Try.prog 8 #[.int .u64 (m : Int), .int .u64 (n : Int)] w fun e w' => e = .returned (.bool true) ∧ Fresh w w' := by
  go_enter Try.func8, Try.ntmps8
  go_wp2_with fail
  refine (shown_yes w).mono ?_
  rintro e w1 ⟨rfl, hf⟩
  have F1 := Lib.hid hf
  clear hf
  go_wp2
  go_ret
  exact ⟨rfl, F1.out⟩
theorem power_sum (m n : Nat) (P Q : Int) (hN : U64 (m + n)) (h : TM.power (m + n) = (P, Q)) (w : World) :
    Calls Try.prog 20 #[.int .u64 ((m : Int) + (n : Int))] w fun e w' => e = .returned (.agg #[.int .i64 P, .int .i64 Q]) ∧ Fresh w w' := by
  have := power_nat (m + n) hN P Q h w
  rwa [Int.natCast_add] at this
set_option maxRecDepth 100000 in
set_option maxHeartbeats 1000000 in
theorem powers_of (m n : Nat) (A B C D P Q : Int) (h : ¬ (4611686018427387904 : Int) < (m : Int)) (h2 : ¬ (4611686018427387904 : Int) < (n : Int))
    (um : U64 m) (un : U64 n) (us : U64 (m + n)) (e1 : Hid (TM.power m = (A, B))) (e2 : Hid (TM.power n = (C, D))) (e3 : Hid (TM.power (m + n) = (P, Q))) (e4 : Hid (TM.mul (A, B) (C, D) = (P, Q)))
    (m1 : Hid (TM.May (A, B))) (m2 : Hid (TM.May (C, D))) (w : World) :
    Calls Try.prog 8 #[.int .u64 (m : Int), .int .u64 (n : Int)] w fun e w' => e = .returned (.bool true) ∧ Fresh w w' := by
  have t1 := eq_self P
  have t2 := eq_self Q
  go_enter Try.func8, Try.ntmps8
  go_wp2_with fail
  refine (shown_yes w).mono ?_
  rintro e w1 ⟨rfl, hf⟩
  have F1 := Lib.hid hf
  clear hf
  go_wp2_with fail
  refine (power_sum m n P Q us e3.out _).mono ?_
  rintro e w2 ⟨rfl, hf⟩
  have F2 := Lib.hid (F1.out.trans hf)
  clear hf
  go_wp2_with fail
  refine (power_nat m um A B e1.out _).mono ?_
  rintro e w3 ⟨rfl, hf⟩
  have F3 := Lib.hid (F2.out.trans hf)
  clear hf
  go_wp2_with fail
  refine (power_nat n un C D e2.out _).mono ?_
  rintro e w4 ⟨rfl, hf⟩
  have F4 := Lib.hid (F3.out.trans hf)
  clear hf
  go_wp2_with fail
  refine (mul_to A B C D P Q m1.out m2.out e4.out _).mono ?_
  rintro e w5 ⟨rfl, hf⟩
  have F5 := Lib.hid (F4.out.trans hf)
  clear hf
  go_wp2
  go_ret
  exact ⟨rfl, F5.out⟩
theorem powers_any (m n : Nat) (hm : U64 m) (hn : U64 n) (w : World) :
    Calls Try.prog 8 #[.int .u64 (m : Int), .int .u64 (n : Int)] w fun e w' => e = .returned (.bool true) ∧ Fresh w w' := by
  by_cases h : (4611686018427387904 : Int) < (m : Int)
  · exact powers_m m n h w
  by_cases h2 : (4611686018427387904 : Int) < (n : Int)
  · exact powers_n m n h h2 w
  have us : U64 (m + n) := by unfold U64; omega
  exact powers_of m n _ _ _ _ _ _ h h2 hm hn us (Lib.hid rfl) (Lib.hid rfl) (Lib.hid rfl) (Lib.hid (TM.power_add m n).symm) (Lib.hid (TM.power_may m)) (Lib.hid (TM.power_may n)) w
theorem word_of {a : Int} (h : (Lit.int .u64 a).wf = true) : ∃ X : Nat, U64 X ∧ a = (X : Int) := by
  have hb : 0 ≤ a ∧ a ≤ 18446744073709551615 := by simpa [Lit.wf, IntKind.min, IntKind.max, IntKind.bits, IntKind.signed] using h
  exact ⟨a.toNat, by unfold U64; omega, by omega⟩
theorem byte_of {a : Int} (h : (Lit.int .u8 a).wf = true) : ∃ X : Nat, X < 256 ∧ a = (X : Int) := by
  have hb : 0 ≤ a ∧ a ≤ 255 := by simpa [Lit.wf, IntKind.min, IntKind.max, IntKind.bits, IntKind.signed] using h
  exact ⟨a.toNat, by omega, by omega⟩
end Go.Proofs.Ytgealgjmplmmoaa
