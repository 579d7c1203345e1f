/- The document's Roll of turns, walked. -/
import Derived.Test.YtgealgjmplmmoaaRollW
import Derived.Test.YtgealgjmplmmoaaRPutW
namespace Go.Proofs.Ytgealgjmplmmoaa
open Go.RowKit
set_option maxHeartbeats 1000000 in
theorem rroll_nx (a b n : Int) (o i : Nat) (hx : ¬ MayT a b) (w : World) :
    Calls Try.prog 13 #[.agg #[.int .i64 a, .int .i64 b], .int .i64 n, .int .u8 (o : Int), .int .u8 (i : Int)] w fun e w' => e = .returned (.tuple #[.agg #[.int .i64 0, .int .i64 0], .int .i64 1]) ∧ Fresh w w' := by
  have Hx := Lib.hid hx
  clear hx
  have b0 := Box.alloc w (.int .i64 a) (.int .i64 b)
  have b1 := Box.alloc (w.alloc (.cells #[.int .i64 a, .int .i64 b] 24)) (.int .i64 0) (.int .i64 0)
  have e1 : (w.alloc (.cells #[.int .i64 a, .int .i64 b] 24)).heap.size = w.heap.size + 1 := by show (w.heap.push _).size = _; simp
  rw [e1] at b1
  have HB := Lib.hid (And.intro (b0.old (.cells #[.int .i64 0, .int .i64 0] 24)) b1)
  have HF := Lib.hid (((Fresh.refl w).alloc #[.int .i64 a, .int .i64 b] 24).alloc #[.int .i64 0, .int .i64 0] 24)
  clear b0 b1 e1
  go_enter Try.func13, Try.ntmps13
  go_wp2_with fail
  generalize hW : (w.alloc (.cells #[.int .i64 a, .int .i64 b] 24)).alloc (.cells #[.int .i64 0, .int .i64 0] 24) = W0 at *
  clear hW
  refine (rmay_no a b Hx.out _).mono ?_
  rintro e w1 ⟨rfl, hf⟩
  have K2 := Lib.hid (HB.out.2.step hf)
  have HF1 := Lib.hid (HF.out.trans hf)
  clear hf HB HF
  have g5 := K2.out.c0
  have g6 := K2.out.c1
  have g7 := K2.out.f0 0
  have g8 := K2.out.f0 1
  have hz := K2.out.lt
  go_wp2
  have hb := K2.out.put (.int .i64 0) (.int .i64 0)
  exact bodyPost_ret (v := .tuple #[.agg #[.int .i64 0, .int .i64 0], .int .i64 1]) (by simp [results, Try.results13, asAddr, box_res hb]) rfl ⟨rfl, fresh_put HF1.out (Nat.le_succ _) _ _⟩
set_option maxHeartbeats 1000000 in
theorem rroll_nn (a b n : Int) (o i : Nat) (hx : TM.May (a, b)) (hn : n < 1) (w : World) :
    Calls Try.prog 13 #[.agg #[.int .i64 a, .int .i64 b], .int .i64 n, .int .u8 (o : Int), .int .u8 (i : Int)] w fun e w' => e = .returned (.tuple #[.agg #[.int .i64 0, .int .i64 0], .int .i64 1]) ∧ Fresh w w' := by
  obtain ⟨h0, h1, h2, h3⟩ := hx
  simp only at h0 h1 h2 h3
  have b0 := Box.alloc w (.int .i64 a) (.int .i64 b)
  have b1 := Box.alloc (w.alloc (.cells #[.int .i64 a, .int .i64 b] 24)) (.int .i64 0) (.int .i64 0)
  have e1 : (w.alloc (.cells #[.int .i64 a, .int .i64 b] 24)).heap.size = w.heap.size + 1 := by show (w.heap.push _).size = _; simp
  rw [e1] at b1
  have HB := Lib.hid (And.intro (b0.old (.cells #[.int .i64 0, .int .i64 0] 24)) b1)
  have HF := Lib.hid (((Fresh.refl w).alloc #[.int .i64 a, .int .i64 b] 24).alloc #[.int .i64 0, .int .i64 0] 24)
  clear b0 b1 e1
  go_enter Try.func13, Try.ntmps13
  go_wp2_with fail
  generalize hW : (w.alloc (.cells #[.int .i64 a, .int .i64 b] 24)).alloc (.cells #[.int .i64 0, .int .i64 0] 24) = W0 at *
  clear hW
  refine (rmay_yes a b h0 h1 h2 h3 _).mono ?_
  rintro e w1 ⟨rfl, hf⟩
  have K2 := Lib.hid (HB.out.2.step hf)
  have HF1 := Lib.hid (HF.out.trans hf)
  clear hf HB HF
  have g5 := K2.out.c0
  have g6 := K2.out.c1
  have g7 := K2.out.f0 0
  have g8 := K2.out.f0 1
  have hz := K2.out.lt
  go_wp2
  have hb := K2.out.put (.int .i64 0) (.int .i64 0)
  exact bodyPost_ret (v := .tuple #[.agg #[.int .i64 0, .int .i64 0], .int .i64 1]) (by simp [results, Try.results13, asAddr, box_res hb]) rfl ⟨rfl, fresh_put HF1.out (Nat.le_succ _) _ _⟩
theorem rroll_no (a b n : Int) (o i : Nat) (h : ¬ (TM.May (a, b) ∧ 1 ≤ n)) (w : World) :
    Calls Try.prog 13 #[.agg #[.int .i64 a, .int .i64 b], .int .i64 n, .int .u8 (o : Int), .int .u8 (i : Int)] w fun e w' => e = .returned (.tuple #[.agg #[.int .i64 0, .int .i64 0], .int .i64 1]) ∧ Fresh w w' := by
  by_cases hx : TM.May (a, b)
  · exact rroll_nn a b n o i hx (Int.not_le.1 fun h1 => h ⟨hx, h1⟩) w
  · exact rroll_nx a b n o i hx w
set_option maxRecDepth 100000 in
set_option maxHeartbeats 2000000 in
theorem rroll_yes (a b P Q : Int) (m o i : Nat) (hn : I63 (m + 1)) (ho : o < 256) (hi : i < 256) (hx : TM.May (a, b)) (h : TM.roll (a, b) m o i = (P, Q)) (w : World) :
    Calls Try.prog 13 #[.agg #[.int .i64 a, .int .i64 b], .int .i64 ((m : Int) + 1), .int .u8 (o : Int), .int .u8 (i : Int)] w fun e w' => e = .returned (.tuple #[.agg #[.int .i64 P, .int .i64 Q], .int .i64 0]) ∧ Fresh w w' := by
  obtain ⟨R, T, hRT⟩ : ∃ R T, TM.power m = (R, T) := ⟨_, _, rfl⟩
  have hM1 : TM.May (R, T) := by rw [← hRT]; exact TM.power_may m
  obtain ⟨G, H, hGH⟩ : ∃ G H, TM.mul (R, T) ((o : Int) + 1, 0) = (G, H) := ⟨_, _, rfl⟩
  have hM3 : TM.May (G, H) := by rw [← hGH]; exact TM.mul_may _ _
  obtain ⟨A, B, hAB⟩ : ∃ A B, TM.red (TM.cs (a, b) (TM.cm (TM.byte o) (R, T))) = (A, B) := ⟨_, _, rfl⟩
  have hM2 : TM.May (A, B) := by rw [← hAB]; exact TM.red_may _
  have hPQ : TM.put (A, B) i = (P, Q) := by rw [← hAB, ← hRT]; exact h
  have hA : (a + 8191 - G) % 8191 = A := by
    have e1 : (R * ((o : Int) + 1) - T * 0) % 8191 = G := congrArg Prod.fst hGH
    have e2 : (a - (((o : Int) + 1) * R - 0 * T)) % 8191 = A := congrArg Prod.fst hAB
    rw [Int.mul_comm] at e1
    omega
  have hB : (b + 8191 - H) % 8191 = B := by
    have e1 : (R * 0 + T * ((o : Int) + 1)) % 8191 = H := congrArg Prod.snd hGH
    have e2 : (b - (((o : Int) + 1) * T + 0 * R)) % 8191 = B := congrArg Prod.snd hAB
    rw [Int.mul_comm T] at e1
    omega
  have HRT := Lib.hid hRT
  have HGH := Lib.hid hGH
  have HPQ := Lib.hid hPQ
  have HMO : Hid (TM.May ((o : Int) + 1, 0)) := Lib.hid (by unfold TM.May; simp only; omega)
  have HM1 := Lib.hid hM1
  have HM2 := Lib.hid hM2
  have HU := Lib.hid (show U64 m by unfold I63 at hn; unfold U64; omega)
  have hw := wrap_63 m (by unfold I63 at hn ⊢; omega)
  have hb1 : m + 1 ≤ 2 ^ 63 - 1 := by unfold I63 at hn; omega
  have hb0 : (0 : Int) ≤ (m : Int) := Int.natCast_nonneg m
  obtain ⟨h0, h1, h2, h3⟩ := hx
  obtain ⟨k0, k1, k2, k3⟩ := hM3
  simp only at h0 h1 h2 h3 k0 k1 k2 k3
  have HA := Lib.hid hA
  have HBB := Lib.hid hB
  clear hA hB hRT hM1 hGH hAB hM2 hPQ h hn
  have b0 := Box.alloc w (.int .i64 a) (.int .i64 b)
  have b1 := Box.alloc (w.alloc (.cells #[.int .i64 a, .int .i64 b] 24)) (.int .i64 0) (.int .i64 0)
  have e1 : (w.alloc (.cells #[.int .i64 a, .int .i64 b] 24)).heap.size = w.heap.size + 1 := by show (w.heap.push _).size = _; simp
  rw [e1] at b1
  have HB := Lib.hid (And.intro (b0.old (.cells #[.int .i64 0, .int .i64 0] 24)) b1)
  have HF := Lib.hid (((Fresh.refl w).alloc #[.int .i64 a, .int .i64 b] 24).alloc #[.int .i64 0, .int .i64 0] 24)
  clear b0 b1 e1
  go_enter Try.func13, Try.ntmps13
  go_wp2_with fail
  generalize hW : (w.alloc (.cells #[.int .i64 a, .int .i64 b] 24)).alloc (.cells #[.int .i64 0, .int .i64 0] 24) = W0 at *
  clear hW
  refine (rmay_yes a b h0 h1 h2 h3 _).mono ?_
  rintro e w1 ⟨rfl, hf⟩
  have K1 := Lib.hid (HB.out.1.step hf)
  have K2 := Lib.hid (HB.out.2.step hf)
  have HF1 := Lib.hid (HF.out.trans hf)
  clear hf HB HF
  go_wp2_with fail
  refine (rpower_nat m HU.out R T HRT.out _).mono ?_
  rintro e w2 ⟨rfl, hf⟩
  have L1 := Lib.hid (K1.out.step hf)
  have L2 := Lib.hid (K2.out.step hf)
  have HF2 := Lib.hid (HF1.out.trans hf)
  clear hf K1 K2 HF1
  go_wp2_with fail
  refine (rmul_to R T ((o : Int) + 1) 0 G H HM1.out HMO.out HGH.out _).mono ?_
  rintro e w3 ⟨rfl, hf⟩
  have K1 := Lib.hid (L1.out.step hf)
  have K2 := Lib.hid (L2.out.step hf)
  have HF1 := Lib.hid (HF2.out.trans hf)
  clear hf L1 L2 HF2
  have c1 := K1.out.c0
  have c2 := K1.out.c1
  have z1 := K1.out.lt
  go_wp2_with fail
  rw [HA.out, HBB.out]
  refine (rput_to A B P Q i HM2.out hi HPQ.out _).mono ?_
  rintro e w4 ⟨rfl, hf⟩
  have L2 := Lib.hid (((K2.out.old _).old _).step hf)
  have HF2 := Lib.hid (((HF1.out.alloc _ _).alloc _ _).trans hf)
  clear hf K1 K2 HF1 c1 c2 z1
  have g5 := L2.out.c0
  have g6 := L2.out.c1
  have g7 := L2.out.f0 0
  have g8 := L2.out.f0 1
  have hz := L2.out.lt
  go_wp2
  have hb := L2.out.put (.int .i64 P) (.int .i64 Q)
  exact bodyPost_ret (v := .tuple #[.agg #[.int .i64 P, .int .i64 Q], .int .i64 0]) (by simp [results, Try.results13, asAddr, box_res hb]) rfl ⟨rfl, fresh_put HF2.out (Nat.le_succ _) _ _⟩
end Go.Proofs.Ytgealgjmplmmoaa
