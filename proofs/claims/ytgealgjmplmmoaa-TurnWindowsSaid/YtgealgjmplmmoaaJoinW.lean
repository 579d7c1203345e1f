/- turn.Join walked. -/
import Derived.Test.YtgealgjmplmmoaaPrnW
import Derived.Deep.RegionHeld3
namespace Go.Proofs.Ytgealgjmplmmoaa
open Go.RowKit
theorem join_words (c d A B P Q : Int) (hm : TM.May (A, B)) (hy : TM.May (c, d)) (h : (A + c) % 8191 = P ∧ (B + d) % 8191 = Q) :
    ∃ x y : Nat, (∀ w, (binOp .add 48 (.complex .f64 (floatOfInt .f64 A) (floatOfInt .f64 B)) (.complex .f64 (floatOfInt .f64 c) (floatOfInt .f64 d))).run Try.prog w = .ok (.complex .f64 x y) w) ∧
      (∃ m, FL.Is x m ∧ m % 8191 = P) ∧ (∃ n, FL.Is y n ∧ n % 8191 = Q) := by
  obtain ⟨h0, h1, h2, h3⟩ := hm
  obtain ⟨k0, k1, k2, k3⟩ := hy
  simp only at h0 h1 h2 h3 k0 k1 k2 k3
  obtain ⟨x, y, e3, i4, i5⟩ := FL.is_csum (FL.is_int A (by omega)) (FL.is_int B (by omega)) (FL.is_int c (by omega)) (FL.is_int d (by omega)) (by omega) (by omega)
  exact ⟨x, y, csum_run _ _ _ _ _ _ e3, ⟨_, i4, h.1⟩, ⟨_, i5, h.2⟩⟩
def I63 (n : Nat) : Prop := n < 9223372036854775808
theorem wrap_63 (n : Nat) (h : I63 n) : IntKind.u64.wrap (n : Int) = (n : Int) := by rw [IntKind.wrap_u64]; unfold I63 at h; omega
set_option maxRecDepth 100000 in
set_option maxHeartbeats 4000000 in
theorem join_yes (a b c d P Q : Int) (n : Nat) (hn : I63 n) (hx : TM.May (a, b)) (hy : TM.May (c, d)) (h : TM.join (a, b) (c, d) n = (P, Q)) (w : World) :
    Calls Try.prog 14 #[.agg #[.int .i64 a, .int .i64 b], .agg #[.int .i64 c, .int .i64 d], .int .i64 (n : Int)] w fun e w' => e = .returned (.tuple #[.agg #[.int .i64 P, .int .i64 Q], .int .i64 0]) ∧ Fresh w w' := by
  obtain ⟨R, T, hRT⟩ : ∃ R T, TM.power n = (R, T) := ⟨_, _, rfl⟩
  obtain ⟨A, B, hAB⟩ : ∃ A B, TM.mul (a, b) (R, T) = (A, B) := ⟨_, _, rfl⟩
  have hM1 : TM.May (R, T) := by rw [← hRT]; exact TM.power_may n
  have hM2 : TM.May (A, B) := by rw [← hAB]; exact TM.mul_may _ _
  have hPQ : (A + c) % 8191 = P ∧ (B + d) % 8191 = Q := by
    have e : TM.red (TM.ca (A, B) (c, d)) = (P, Q) := by rw [← h, ← hAB, ← hRT]; rfl
    exact ⟨congrArg Prod.fst e, congrArg Prod.snd e⟩
  obtain ⟨p, q, r1, ip, iq⟩ := join_words c d A B P Q hM2 hy hPQ
  have Hp := Lib.hid ip
  have Hq := Lib.hid iq
  have HRT := Lib.hid hRT
  have HAB := Lib.hid hAB
  have HX := Lib.hid hx
  have HY := Lib.hid hy
  have HR := Lib.hid hM1
  have HU := Lib.hid (show U64 n by unfold I63 at hn; unfold U64; omega)
  have hw := wrap_63 n hn
  have hn0 : (0 : Int) ≤ (n : Int) := Int.natCast_nonneg n
  have hnlt : ¬ (n : Int) < 0 := by omega
  obtain ⟨h0, h1, h2, h3⟩ := hx
  obtain ⟨k0, k1, k2, k3⟩ := hy
  simp only at h0 h1 h2 h3 k0 k1 k2 k3
  have HT := Lib.hid (Three.start w a b c d)
  clear ip iq hRT hAB hM1 hM2 hPQ h hn
  go_enter Try.func14, Try.ntmps14
  go_wp2_with fail
  generalize hW : ((w.alloc (.cells #[.int .i64 a, .int .i64 b] 24)).alloc (.cells #[.int .i64 c, .int .i64 d] 24)).alloc (.cells #[.int .i64 0, .int .i64 0] 24) = W0 at *
  clear hW
  refine (may_yes a b h0 h1 h2 h3 _).mono ?_
  rintro e w1 ⟨rfl, hf⟩
  have HT1 := Lib.hid (HT.out.step hf)
  clear hf HT
  obtain ⟨-, c1, c2, c3, c4⟩ := HT1.out.s
  go_wp2_with fail
  refine (may_yes c d k0 k1 k2 k3 _).mono ?_
  rintro e w2 ⟨rfl, hf⟩
  have HT2 := Lib.hid (HT1.out.step hf)
  clear hf HT1 c1 c2 c3 c4
  obtain ⟨-, c1, c2, c3, c4⟩ := HT2.out.s
  go_wp2_with fail
  go_region_held3 (fun w' => Three w w' a b c d ∧ w'.cell? ⟨w.heap.size, 0, none⟩ = some (.int .i64 a) ∧ w'.cell? ⟨w.heap.size, 1, none⟩ = some (.int .i64 b) ∧
      w'.cell? ⟨w.heap.size + 1, 0, none⟩ = some (.int .i64 c) ∧ w'.cell? ⟨w.heap.size + 1, 1, none⟩ = some (.int .i64 d))
    (first
      | exact (HT2.out.step (Fresh.refl _).drew).s
      | exact HT3.out.s
      | exact (HT3.out.put _ _).s)
    (first
      | (go_at_call 20; refine (power_nat n HU.out R T HRT.out _).mono ?_; rintro e w3 ⟨rfl, hf⟩; have HT3 := Lib.hid (Three.step (‹Three w _ a b c d ∧ _›).1 hf); clear hf)
      | (go_at_call 18; refine (mul_to a b R T A B HX.out HR.out HAB.out _).mono ?_; rintro e w3 ⟨rfl, hf⟩; have HT3 := Lib.hid (Three.step (‹Three w _ a b c d ∧ _›).1 hf); clear hf)
      | (go_at_call 24; refine (as_is _ _ _).mono ?_; rintro e w3 ⟨rfl, hf⟩; have HT3 := Lib.hid (Three.step (‹Three w _ a b c d ∧ _›).1 hf); clear hf)
      | (go_at_call 23; refine (from_at _ _ _ _ Hp.out Hq.out _).mono ?_; rintro e w3 ⟨rfl, hf⟩; have HT3 := Lib.hid (Three.step (‹Three w _ a b c d ∧ _›).1 hf); clear hf; obtain ⟨_, _, _, _, _, hx⟩ := HT3.out; have Hx := Lib.hid hx; have g5 := hx.c0; have g6 := hx.c1; have g7 := hx.f0 0; have g8 := hx.f0 1; have hz3 := hx.lt; clear hx))
  go_wp2
  have hb := Hx.out.put (.int .i64 P) (.int .i64 Q)
  exact bodyPost_ret (v := .tuple #[.agg #[.int .i64 P, .int .i64 Q], .int .i64 0]) (by simp [results, Try.results14, asAddr, box_res hb]) rfl ⟨rfl, (HT3.out.put _ _).1⟩
set_option maxHeartbeats 1000000 in
theorem join_nx (a b c d n : Int) (hx : ¬ MayT a b) (w : World) :
    Calls Try.prog 14 #[.agg #[.int .i64 a, .int .i64 b], .agg #[.int .i64 c, .int .i64 d], .int .i64 n] w fun e w' => e = .returned (.tuple #[.agg #[.int .i64 0, .int .i64 0], .int .i64 1]) ∧ Fresh w w' := by
  have Hx := Lib.hid hx
  clear hx
  have HT := Lib.hid (Three.start w a b c d)
  go_enter Try.func14, Try.ntmps14
  go_wp2_with fail
  generalize hW : ((w.alloc (.cells #[.int .i64 a, .int .i64 b] 24)).alloc (.cells #[.int .i64 c, .int .i64 d] 24)).alloc (.cells #[.int .i64 0, .int .i64 0] 24) = W0 at *
  clear hW
  refine (may_no a b Hx.out _).mono ?_
  rintro e w1 ⟨rfl, hf⟩
  have HT1 := Lib.hid (HT.out.step hf)
  clear hf HT
  obtain ⟨-, c1, c2, c3, c4⟩ := HT1.out.s
  clear c1 c2 c3 c4
  obtain ⟨-, -, -, x, y, hx⟩ := HT1.out
  have Hx := Lib.hid hx
  have g5 := hx.c0
  have g6 := hx.c1
  have g7 := hx.f0 0
  have g8 := hx.f0 1
  have hz3 := hx.lt
  clear hx
  go_wp2
  have hb := Hx.out.put (.int .i64 0) (.int .i64 0)
  exact bodyPost_ret (v := .tuple #[.agg #[.int .i64 0, .int .i64 0], .int .i64 1]) (by simp [results, Try.results14, asAddr, box_res hb]) rfl ⟨rfl, (HT1.out.put _ _).1⟩
set_option maxHeartbeats 1000000 in
theorem join_ny (a b c d n : Int) (hx : TM.May (a, b)) (hy : ¬ MayT c d) (w : World) :
    Calls Try.prog 14 #[.agg #[.int .i64 a, .int .i64 b], .agg #[.int .i64 c, .int .i64 d], .int .i64 n] w fun e w' => e = .returned (.tuple #[.agg #[.int .i64 0, .int .i64 0], .int .i64 1]) ∧ Fresh w w' := by
  obtain ⟨h0, h1, h2, h3⟩ := hx
  simp only at h0 h1 h2 h3
  have Hy := Lib.hid hy
  clear hy
  have HT := Lib.hid (Three.start w a b c d)
  go_enter Try.func14, Try.ntmps14
  go_wp2_with fail
  generalize hW : ((w.alloc (.cells #[.int .i64 a, .int .i64 b] 24)).alloc (.cells #[.int .i64 c, .int .i64 d] 24)).alloc (.cells #[.int .i64 0, .int .i64 0] 24) = W0 at *
  clear hW
  refine (may_yes a b h0 h1 h2 h3 _).mono ?_
  rintro e w1 ⟨rfl, hf⟩
  have HT1 := Lib.hid (HT.out.step hf)
  clear hf HT
  obtain ⟨-, c1, c2, c3, c4⟩ := HT1.out.s
  go_wp2_with fail
  refine (may_no c d Hy.out _).mono ?_
  rintro e w2 ⟨rfl, hf⟩
  have HT2 := Lib.hid (HT1.out.step hf)
  clear hf HT1 c1 c2 c3 c4
  obtain ⟨-, c1, c2, c3, c4⟩ := HT2.out.s
  clear c1 c2 c3 c4
  obtain ⟨-, -, -, x, y, hx⟩ := HT2.out
  have Hx := Lib.hid hx
  have g5 := hx.c0
  have g6 := hx.c1
  have g7 := hx.f0 0
  have g8 := hx.f0 1
  have hz3 := hx.lt
  clear hx
  go_wp2
  have hb := Hx.out.put (.int .i64 0) (.int .i64 0)
  exact bodyPost_ret (v := .tuple #[.agg #[.int .i64 0, .int .i64 0], .int .i64 1]) (by simp [results, Try.results14, asAddr, box_res hb]) rfl ⟨rfl, (HT2.out.put _ _).1⟩
set_option maxHeartbeats 1000000 in
theorem join_nn (a b c d n : Int) (hx : TM.May (a, b)) (hy : TM.May (c, d)) (hn : n < 0) (w : World) :
    Calls Try.prog 14 #[.agg #[.int .i64 a, .int .i64 b], .agg #[.int .i64 c, .int .i64 d], .int .i64 n] w fun e w' => e = .returned (.tuple #[.agg #[.int .i64 0, .int .i64 0], .int .i64 1]) ∧ Fresh w w' := by
  obtain ⟨h0, h1, h2, h3⟩ := hx
  simp only at h0 h1 h2 h3
  obtain ⟨k0, k1, k2, k3⟩ := hy
  simp only at k0 k1 k2 k3
  have HT := Lib.hid (Three.start w a b c d)
  go_enter Try.func14, Try.ntmps14
  go_wp2_with fail
  generalize hW : ((w.alloc (.cells #[.int .i64 a, .int .i64 b] 24)).alloc (.cells #[.int .i64 c, .int .i64 d] 24)).alloc (.cells #[.int .i64 0, .int .i64 0] 24) = W0 at *
  clear hW
  refine (may_yes a b h0 h1 h2 h3 _).mono ?_
  rintro e w1 ⟨rfl, hf⟩
  have HT1 := Lib.hid (HT.out.step hf)
  clear hf HT
  obtain ⟨-, c1, c2, c3, c4⟩ := HT1.out.s
  go_wp2_with fail
  refine (may_yes c d k0 k1 k2 k3 _).mono ?_
  rintro e w2 ⟨rfl, hf⟩
  have HT2 := Lib.hid (HT1.out.step hf)
  clear hf HT1 c1 c2 c3 c4
  obtain ⟨-, c1, c2, c3, c4⟩ := HT2.out.s
  clear c1 c2 c3 c4
  obtain ⟨-, -, -, x, y, hx⟩ := HT2.out
  have Hx := Lib.hid hx
  have g5 := hx.c0
  have g6 := hx.c1
  have g7 := hx.f0 0
  have g8 := hx.f0 1
  have hz3 := hx.lt
  clear hx
  go_wp2
  have hb := Hx.out.put (.int .i64 0) (.int .i64 0)
  exact bodyPost_ret (v := .tuple #[.agg #[.int .i64 0, .int .i64 0], .int .i64 1]) (by simp [results, Try.results14, asAddr, box_res hb]) rfl ⟨rfl, (HT2.out.put _ _).1⟩
/-- a turn that may not be, or a number below 0 -/
theorem join_no (a b c d n : Int) (h : ¬ (TM.May (a, b) ∧ TM.May (c, d) ∧ 0 ≤ n)) (w : World) :
    Calls Try.prog 14 #[.agg #[.int .i64 a, .int .i64 b], .agg #[.int .i64 c, .int .i64 d], .int .i64 n] w fun e w' => e = .returned (.tuple #[.agg #[.int .i64 0, .int .i64 0], .int .i64 1]) ∧ Fresh w w' := by
  by_cases hx : TM.May (a, b)
  · by_cases hy : TM.May (c, d)
    · exact join_nn a b c d n hx hy (Int.not_le.1 fun h0 => h ⟨hx, hy, h0⟩) w
    · exact join_ny a b c d n hx hy w
  · exact join_nx a b c d n hx w
end Go.Proofs.Ytgealgjmplmmoaa
