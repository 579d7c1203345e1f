/- turn.Roll walked. -/
import Derived.Test.YtgealgjmplmmoaaJoinW
namespace Go.Proofs.Ytgealgjmplmmoaa
open Go.RowKit
theorem cdiff_run (x y z u re im : Nat) (h : cSumBits .sub .f64 x y z u = some (re, im)) (w : World) : (binOp .sub 48 (.complex .f64 x y) (.complex .f64 z u)).run Try.prog w = .ok (.complex .f64 re im) w :=
  run_complex_sum w .sub (.inr rfl) 48 .f64 x y z u re im h
/-- a turn less a byte's power, in words -/
theorem less_words (a b R T : Int) (c : Nat) (P Q : Int) (hm : TM.May (a, b)) (hr : TM.May (R, T)) (hc : c < 256) (h : TM.red (TM.cs (a, b) (TM.cm (TM.byte c) (R, T))) = (P, Q)) :
    ∃ q g1 g2 x y : Nat, (∀ w, (binOp .add 50 (.float .f64 (floatOfInt .f64 (c : Int))) (.float .f64 4607182418800017408)).run Try.prog w = .ok (.float .f64 q) w) ∧
      (∀ w, (binOp .mul 48 (.complex .f64 q 0) (.complex .f64 (floatOfInt .f64 R) (floatOfInt .f64 T))).run Try.prog w = .ok (.complex .f64 g1 g2) w) ∧
      (∀ w, (binOp .sub 48 (.complex .f64 (floatOfInt .f64 a) (floatOfInt .f64 b)) (.complex .f64 g1 g2)).run Try.prog w = .ok (.complex .f64 x y) w) ∧
      (∃ m, FL.Is x m ∧ m % 8191 = P) ∧ (∃ n, FL.Is y n ∧ n % 8191 = Q) := by
  obtain ⟨h0, h1, h2, h3⟩ := hm
  obtain ⟨k0, k1, k2, k3⟩ := hr
  simp only at h0 h1 h2 h3 k0 k1 k2 k3
  obtain ⟨q, e2, i3⟩ := FL.is_add (FL.is_int (c : Int) (by omega)) is_lit1 (by omega)
  obtain ⟨g1, g2, e1, i1, i2⟩ := FL.is_cmul i3 is_lit0 (FL.is_int R (by omega)) (FL.is_int T (by omega)) (by omega) (by omega) (by omega) (by omega)
  have b1 := FL.natAbs_mul_lt (m := (c : Int) + 1) (n := R) (by omega) (by omega)
  have b2 := FL.natAbs_mul_lt (m := (c : Int) + 1) (n := T) (by omega) (by omega)
  obtain ⟨x, y, e3, i4, i5⟩ := FL.is_cdiff (FL.is_int a (by omega)) (FL.is_int b (by omega)) i1 i2 (by omega) (by omega)
  refine ⟨q, g1, g2, x, y, add_run _ _ _ e2, cmul_run _ _ _ _ _ _ e1, cdiff_run _ _ _ _ _ _ e3, ⟨_, i4, ?_⟩, ⟨_, i5, ?_⟩⟩
  · exact congrArg Prod.fst h
  · exact congrArg Prod.snd h
set_option maxRecDepth 100000 in
set_option maxHeartbeats 2000000 in
theorem roll_yes (a b P Q : Int) (m o i : Nat) (hn : I63 (m + 1)) (ho : o < 256) (hi : i < 256) (hx : TM.May (a, b)) (h : TM.roll (a, b) m o i = (P, Q)) (w : World) :
    Calls Try.prog 12 #[.agg #[.int .i64 a, .int .i64 b], .int .i64 ((m : Int) + 1), .int .u8 (o : Int), .int .u8 (i : Int)] w fun e w' => e = .returned (.tuple #[.agg #[.int .i64 P, .int .i64 Q], .int .i64 0]) ∧ Fresh w w' := by
  obtain ⟨R, T, hRT⟩ : ∃ R T, TM.power m = (R, T) := ⟨_, _, rfl⟩
  have hM1 : TM.May (R, T) := by rw [← hRT]; exact TM.power_may m
  obtain ⟨A, B, hAB⟩ : ∃ A B, TM.red (TM.cs (a, b) (TM.cm (TM.byte o) (R, T))) = (A, B) := ⟨_, _, rfl⟩
  have hM2 : TM.May (A, B) := by rw [← hAB]; exact TM.red_may _
  have hPQ : TM.put (A, B) i = (P, Q) := by rw [← hAB, ← hRT]; exact h
  obtain ⟨q, g1, g2, x1, y1, r1, r2, r3, i1, i2⟩ := less_words a b R T o A B hx hM1 ho hAB
  obtain ⟨re, im, q2, x2, y2, r4, r5, r6, i3, i4⟩ := put_words A B i P Q hM2 hi hPQ
  have I1 := Lib.hid i1
  have I2 := Lib.hid i2
  have I3 := Lib.hid i3
  have I4 := Lib.hid i4
  have HRT := Lib.hid hRT
  have HU := Lib.hid (show U64 m by unfold I63 at hn; unfold U64; omega)
  have hw := wrap_63 m (by unfold I63 at hn ⊢; omega)
  have hb1 : m + 1 ≤ 2 ^ 63 - 1 := by unfold I63 at hn; omega
  have hb0 : (0 : Int) ≤ (m : Int) := Int.natCast_nonneg m
  obtain ⟨h0, h1, h2, h3⟩ := hx
  simp only at h0 h1 h2 h3
  have b0 := Box.alloc w (.int .i64 a) (.int .i64 b)
  have b1 := Box.alloc (w.alloc (.cells #[.int .i64 a, .int .i64 b] 24)) (.int .i64 0) (.int .i64 0)
  have e1 : (w.alloc (.cells #[.int .i64 a, .int .i64 b] 24)).heap.size = w.heap.size + 1 := by show (w.heap.push _).size = _; simp
  rw [e1] at b1
  have HB := Lib.hid (And.intro (b0.old (.cells #[.int .i64 0, .int .i64 0] 24)) b1)
  have HF := Lib.hid (((Fresh.refl w).alloc #[.int .i64 a, .int .i64 b] 24).alloc #[.int .i64 0, .int .i64 0] 24)
  clear b0 b1 e1 i1 i2 i3 i4 hRT hM1 hAB hM2 hPQ h hn
  go_enter Try.func12, Try.ntmps12
  go_wp2_with fail
  generalize hW : (w.alloc (.cells #[.int .i64 a, .int .i64 b] 24)).alloc (.cells #[.int .i64 0, .int .i64 0] 24) = W0 at *
  clear hW
  refine (may_yes a b h0 h1 h2 h3 _).mono ?_
  rintro e w1 ⟨rfl, hf⟩
  have K1 := Lib.hid (HB.out.1.step hf)
  have K2 := Lib.hid (HB.out.2.step hf)
  have HF1 := Lib.hid (HF.out.trans hf)
  clear hf HB HF
  go_wp2_with fail
  refine (power_nat m HU.out R T HRT.out _).mono ?_
  rintro e w2 ⟨rfl, hf⟩
  have L1 := Lib.hid (K1.out.step hf)
  have L2 := Lib.hid (K2.out.step hf)
  have HF2 := Lib.hid (HF1.out.trans hf)
  clear hf K1 K2 HF1
  go_wp2_with fail
  refine (as_is _ _ _).mono ?_
  rintro e w3 ⟨rfl, hf⟩
  have K1 := Lib.hid (L1.out.step hf)
  have K2 := Lib.hid (L2.out.step hf)
  have HF1 := Lib.hid (HF2.out.trans hf)
  clear hf L1 L2 HF2
  have c1 := K1.out.c0
  have c2 := K1.out.c1
  go_wp2_with fail
  refine (as_is _ _ _).mono ?_
  rintro e w4 ⟨rfl, hf⟩
  have L1 := Lib.hid (K1.out.step hf)
  have L2 := Lib.hid (K2.out.step hf)
  have HF2 := Lib.hid (HF1.out.trans hf)
  clear hf K1 K2 HF1 c1 c2
  go_wp2_with fail
  refine (from_at _ _ _ _ I1.out I2.out _).mono ?_
  rintro e w5 ⟨rfl, hf⟩
  have K2 := Lib.hid (L2.out.step hf)
  have HF1 := Lib.hid (HF2.out.trans hf)
  clear hf L1 L2 HF2
  go_wp2_with fail
  refine (as_is _ _ _).mono ?_
  rintro e w6 ⟨rfl, hf⟩
  have L2 := Lib.hid ((K2.out.old _).step hf)
  have HF2 := Lib.hid ((HF1.out.alloc _ _).trans hf)
  clear hf K2 HF1
  go_wp2_with fail
  refine (from_at _ _ _ _ I3.out I4.out _).mono ?_
  rintro e w7 ⟨rfl, hf⟩
  have K2 := Lib.hid (L2.out.step hf)
  have HF1 := Lib.hid (HF2.out.trans hf)
  clear hf L2 HF2
  have g5 := K2.out.c0
  have g6 := K2.out.c1
  have g7 := K2.out.f0 0
  have g8 := K2.out.f0 1
  have hz := K2.out.lt
  go_wp2
  have hb := K2.out.put (.int .i64 P) (.int .i64 Q)
  exact bodyPost_ret (v := .tuple #[.agg #[.int .i64 P, .int .i64 Q], .int .i64 0]) (by simp [results, Try.results12, asAddr, box_res hb]) rfl ⟨rfl, fresh_put HF1.out (Nat.le_succ _) _ _⟩
set_option maxHeartbeats 1000000 in
theorem roll_nx (a b n : Int) (o i : Nat) (hx : ¬ MayT a b) (w : World) :
    Calls Try.prog 12 #[.agg #[.int .i64 a, .int .i64 b], .int .i64 n, .int .u8 (o : Int), .int .u8 (i : Int)] w fun e w' => e = .returned (.tuple #[.agg #[.int .i64 0, .int .i64 0], .int .i64 1]) ∧ Fresh w w' := by
  have Hx := Lib.hid hx
  clear hx
  have b0 := Box.alloc w (.int .i64 a) (.int .i64 b)
  have b1 := Box.alloc (w.alloc (.cells #[.int .i64 a, .int .i64 b] 24)) (.int .i64 0) (.int .i64 0)
  have e1 : (w.alloc (.cells #[.int .i64 a, .int .i64 b] 24)).heap.size = w.heap.size + 1 := by show (w.heap.push _).size = _; simp
  rw [e1] at b1
  have HB := Lib.hid (And.intro (b0.old (.cells #[.int .i64 0, .int .i64 0] 24)) b1)
  have HF := Lib.hid (((Fresh.refl w).alloc #[.int .i64 a, .int .i64 b] 24).alloc #[.int .i64 0, .int .i64 0] 24)
  clear b0 b1 e1
  go_enter Try.func12, Try.ntmps12
  go_wp2_with fail
  generalize hW : (w.alloc (.cells #[.int .i64 a, .int .i64 b] 24)).alloc (.cells #[.int .i64 0, .int .i64 0] 24) = W0 at *
  clear hW
  refine (may_no a b Hx.out _).mono ?_
  rintro e w1 ⟨rfl, hf⟩
  have K2 := Lib.hid (HB.out.2.step hf)
  have HF1 := Lib.hid (HF.out.trans hf)
  clear hf HB HF
  have g5 := K2.out.c0
  have g6 := K2.out.c1
  have g7 := K2.out.f0 0
  have g8 := K2.out.f0 1
  have hz := K2.out.lt
  go_wp2
  have hb := K2.out.put (.int .i64 0) (.int .i64 0)
  exact bodyPost_ret (v := .tuple #[.agg #[.int .i64 0, .int .i64 0], .int .i64 1]) (by simp [results, Try.results12, asAddr, box_res hb]) rfl ⟨rfl, fresh_put HF1.out (Nat.le_succ _) _ _⟩
set_option maxHeartbeats 1000000 in
theorem roll_nn (a b n : Int) (o i : Nat) (hx : TM.May (a, b)) (hn : n < 1) (w : World) :
    Calls Try.prog 12 #[.agg #[.int .i64 a, .int .i64 b], .int .i64 n, .int .u8 (o : Int), .int .u8 (i : Int)] w fun e w' => e = .returned (.tuple #[.agg #[.int .i64 0, .int .i64 0], .int .i64 1]) ∧ Fresh w w' := by
  obtain ⟨h0, h1, h2, h3⟩ := hx
  simp only at h0 h1 h2 h3
  have b0 := Box.alloc w (.int .i64 a) (.int .i64 b)
  have b1 := Box.alloc (w.alloc (.cells #[.int .i64 a, .int .i64 b] 24)) (.int .i64 0) (.int .i64 0)
  have e1 : (w.alloc (.cells #[.int .i64 a, .int .i64 b] 24)).heap.size = w.heap.size + 1 := by show (w.heap.push _).size = _; simp
  rw [e1] at b1
  have HB := Lib.hid (And.intro (b0.old (.cells #[.int .i64 0, .int .i64 0] 24)) b1)
  have HF := Lib.hid (((Fresh.refl w).alloc #[.int .i64 a, .int .i64 b] 24).alloc #[.int .i64 0, .int .i64 0] 24)
  clear b0 b1 e1
  go_enter Try.func12, Try.ntmps12
  go_wp2_with fail
  generalize hW : (w.alloc (.cells #[.int .i64 a, .int .i64 b] 24)).alloc (.cells #[.int .i64 0, .int .i64 0] 24) = W0 at *
  clear hW
  refine (may_yes a b h0 h1 h2 h3 _).mono ?_
  rintro e w1 ⟨rfl, hf⟩
  have K2 := Lib.hid (HB.out.2.step hf)
  have HF1 := Lib.hid (HF.out.trans hf)
  clear hf HB HF
  have g5 := K2.out.c0
  have g6 := K2.out.c1
  have g7 := K2.out.f0 0
  have g8 := K2.out.f0 1
  have hz := K2.out.lt
  go_wp2
  have hb := K2.out.put (.int .i64 0) (.int .i64 0)
  exact bodyPost_ret (v := .tuple #[.agg #[.int .i64 0, .int .i64 0], .int .i64 1]) (by simp [results, Try.results12, asAddr, box_res hb]) rfl ⟨rfl, fresh_put HF1.out (Nat.le_succ _) _ _⟩
theorem roll_no (a b n : Int) (o i : Nat) (h : ¬ (TM.May (a, b) ∧ 1 ≤ n)) (w : World) :
    Calls Try.prog 12 #[.agg #[.int .i64 a, .int .i64 b], .int .i64 n, .int .u8 (o : Int), .int .u8 (i : Int)] w fun e w' => e = .returned (.tuple #[.agg #[.int .i64 0, .int .i64 0], .int .i64 1]) ∧ Fresh w w' := by
  by_cases hx : TM.May (a, b)
  · exact roll_nn a b n o i hx (Int.not_le.1 fun h1 => h ⟨hx, h1⟩) w
  · exact roll_nx a b n o i hx w
end Go.Proofs.Ytgealgjmplmmoaa
