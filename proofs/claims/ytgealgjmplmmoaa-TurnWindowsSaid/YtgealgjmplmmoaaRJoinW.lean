/- The document's Join of turns, walked. -/
import Derived.Test.YtgealgjmplmmoaaJoinW
import Derived.Deep.RegionHeld3
namespace Go.Proofs.Ytgealgjmplmmoaa
open Go.RowKit
set_option maxHeartbeats 1000000 in
theorem rjoin_nxy (a b c d n : Int) (hx : ¬ MayT a b) (hy : TM.May (c, d)) (w : World) :
    Calls Try.prog 15 #[.agg #[.int .i64 a, .int .i64 b], .agg #[.int .i64 c, .int .i64 d], .int .i64 n] w fun e w' => e = .returned (.tuple #[.agg #[.int .i64 0, .int .i64 0], .int .i64 1]) ∧ Fresh w w' := by
  have Hx := Lib.hid hx
  clear hx
  obtain ⟨k0, k1, k2, k3⟩ := hy
  simp only at k0 k1 k2 k3
  have HT := Lib.hid (Three.start w a b c d)
  go_enter Try.func15, Try.ntmps15
  go_wp2_with fail
  generalize hW : ((w.alloc (.cells #[.int .i64 a, .int .i64 b] 24)).alloc (.cells #[.int .i64 c, .int .i64 d] 24)).alloc (.cells #[.int .i64 0, .int .i64 0] 24) = W0 at *
  clear hW
  refine (rmay_no a b Hx.out _).mono ?_
  rintro e w1 ⟨rfl, hf⟩
  have HT1 := Lib.hid (HT.out.step hf)
  clear hf HT
  obtain ⟨-, c1, c2, c3, c4⟩ := HT1.out.s
  go_wp2_with fail
  refine (rmay_yes c d k0 k1 k2 k3 _).mono ?_
  rintro e w2 ⟨rfl, hf⟩
  have HT2 := Lib.hid (HT1.out.step hf)
  clear hf HT1 c1 c2 c3 c4
  obtain ⟨-, c1, c2, c3, c4⟩ := HT2.out.s
  clear c1 c2 c3 c4
  obtain ⟨-, -, -, x, y, hx⟩ := HT2.out
  have Hx := Lib.hid hx
  have g5 := hx.c0
  have g6 := hx.c1
  have g7 := hx.f0 0
  have g8 := hx.f0 1
  have hz3 := hx.lt
  clear hx
  go_wp2
  have hb := Hx.out.put (.int .i64 0) (.int .i64 0)
  exact bodyPost_ret (v := .tuple #[.agg #[.int .i64 0, .int .i64 0], .int .i64 1]) (by simp [results, Try.results15, asAddr, box_res hb]) rfl ⟨rfl, (HT2.out.put _ _).1⟩
set_option maxHeartbeats 1000000 in
theorem rjoin_nxny (a b c d n : Int) (hx : ¬ MayT a b) (hy : ¬ MayT c d) (w : World) :
    Calls Try.prog 15 #[.agg #[.int .i64 a, .int .i64 b], .agg #[.int .i64 c, .int .i64 d], .int .i64 n] w fun e w' => e = .returned (.tuple #[.agg #[.int .i64 0, .int .i64 0], .int .i64 1]) ∧ Fresh w w' := by
  have Hx := Lib.hid hx
  clear hx
  have Hy := Lib.hid hy
  clear hy
  have HT := Lib.hid (Three.start w a b c d)
  go_enter Try.func15, Try.ntmps15
  go_wp2_with fail
  generalize hW : ((w.alloc (.cells #[.int .i64 a, .int .i64 b] 24)).alloc (.cells #[.int .i64 c, .int .i64 d] 24)).alloc (.cells #[.int .i64 0, .int .i64 0] 24) = W0 at *
  clear hW
  refine (rmay_no a b Hx.out _).mono ?_
  rintro e w1 ⟨rfl, hf⟩
  have HT1 := Lib.hid (HT.out.step hf)
  clear hf HT
  obtain ⟨-, c1, c2, c3, c4⟩ := HT1.out.s
  go_wp2_with fail
  refine (rmay_no c d Hy.out _).mono ?_
  rintro e w2 ⟨rfl, hf⟩
  have HT2 := Lib.hid (HT1.out.step hf)
  clear hf HT1 c1 c2 c3 c4
  obtain ⟨-, c1, c2, c3, c4⟩ := HT2.out.s
  clear c1 c2 c3 c4
  obtain ⟨-, -, -, x, y, hx⟩ := HT2.out
  have Hx := Lib.hid hx
  have g5 := hx.c0
  have g6 := hx.c1
  have g7 := hx.f0 0
  have g8 := hx.f0 1
  have hz3 := hx.lt
  clear hx
  go_wp2
  have hb := Hx.out.put (.int .i64 0) (.int .i64 0)
  exact bodyPost_ret (v := .tuple #[.agg #[.int .i64 0, .int .i64 0], .int .i64 1]) (by simp [results, Try.results15, asAddr, box_res hb]) rfl ⟨rfl, (HT2.out.put _ _).1⟩
set_option maxHeartbeats 1000000 in
theorem rjoin_ny (a b c d n : Int) (hx : TM.May (a, b)) (hy : ¬ MayT c d) (w : World) :
    Calls Try.prog 15 #[.agg #[.int .i64 a, .int .i64 b], .agg #[.int .i64 c, .int .i64 d], .int .i64 n] w fun e w' => e = .returned (.tuple #[.agg #[.int .i64 0, .int .i64 0], .int .i64 1]) ∧ Fresh w w' := by
  obtain ⟨h0, h1, h2, h3⟩ := hx
  simp only at h0 h1 h2 h3
  have Hy := Lib.hid hy
  clear hy
  have HT := Lib.hid (Three.start w a b c d)
  go_enter Try.func15, Try.ntmps15
  go_wp2_with fail
  generalize hW : ((w.alloc (.cells #[.int .i64 a, .int .i64 b] 24)).alloc (.cells #[.int .i64 c, .int .i64 d] 24)).alloc (.cells #[.int .i64 0, .int .i64 0] 24) = W0 at *
  clear hW
  refine (rmay_yes a b h0 h1 h2 h3 _).mono ?_
  rintro e w1 ⟨rfl, hf⟩
  have HT1 := Lib.hid (HT.out.step hf)
  clear hf HT
  obtain ⟨-, c1, c2, c3, c4⟩ := HT1.out.s
  go_wp2_with fail
  refine (rmay_no c d Hy.out _).mono ?_
  rintro e w2 ⟨rfl, hf⟩
  have HT2 := Lib.hid (HT1.out.step hf)
  clear hf HT1 c1 c2 c3 c4
  obtain ⟨-, c1, c2, c3, c4⟩ := HT2.out.s
  clear c1 c2 c3 c4
  obtain ⟨-, -, -, x, y, hx⟩ := HT2.out
  have Hx := Lib.hid hx
  have g5 := hx.c0
  have g6 := hx.c1
  have g7 := hx.f0 0
  have g8 := hx.f0 1
  have hz3 := hx.lt
  clear hx
  go_wp2
  have hb := Hx.out.put (.int .i64 0) (.int .i64 0)
  exact bodyPost_ret (v := .tuple #[.agg #[.int .i64 0, .int .i64 0], .int .i64 1]) (by simp [results, Try.results15, asAddr, box_res hb]) rfl ⟨rfl, (HT2.out.put _ _).1⟩
set_option maxHeartbeats 1000000 in
theorem rjoin_nn (a b c d n : Int) (hx : TM.May (a, b)) (hy : TM.May (c, d)) (hn : n < 0) (w : World) :
    Calls Try.prog 15 #[.agg #[.int .i64 a, .int .i64 b], .agg #[.int .i64 c, .int .i64 d], .int .i64 n] w fun e w' => e = .returned (.tuple #[.agg #[.int .i64 0, .int .i64 0], .int .i64 1]) ∧ Fresh w w' := by
  obtain ⟨h0, h1, h2, h3⟩ := hx
  simp only at h0 h1 h2 h3
  obtain ⟨k0, k1, k2, k3⟩ := hy
  simp only at k0 k1 k2 k3
  have HT := Lib.hid (Three.start w a b c d)
  go_enter Try.func15, Try.ntmps15
  go_wp2_with fail
  generalize hW : ((w.alloc (.cells #[.int .i64 a, .int .i64 b] 24)).alloc (.cells #[.int .i64 c, .int .i64 d] 24)).alloc (.cells #[.int .i64 0, .int .i64 0] 24) = W0 at *
  clear hW
  refine (rmay_yes a b h0 h1 h2 h3 _).mono ?_
  rintro e w1 ⟨rfl, hf⟩
  have HT1 := Lib.hid (HT.out.step hf)
  clear hf HT
  obtain ⟨-, c1, c2, c3, c4⟩ := HT1.out.s
  go_wp2_with fail
  refine (rmay_yes c d k0 k1 k2 k3 _).mono ?_
  rintro e w2 ⟨rfl, hf⟩
  have HT2 := Lib.hid (HT1.out.step hf)
  clear hf HT1 c1 c2 c3 c4
  obtain ⟨-, c1, c2, c3, c4⟩ := HT2.out.s
  clear c1 c2 c3 c4
  obtain ⟨-, -, -, x, y, hx⟩ := HT2.out
  have Hx := Lib.hid hx
  have g5 := hx.c0
  have g6 := hx.c1
  have g7 := hx.f0 0
  have g8 := hx.f0 1
  have hz3 := hx.lt
  clear hx
  go_wp2
  have hb := Hx.out.put (.int .i64 0) (.int .i64 0)
  exact bodyPost_ret (v := .tuple #[.agg #[.int .i64 0, .int .i64 0], .int .i64 1]) (by simp [results, Try.results15, asAddr, box_res hb]) rfl ⟨rfl, (HT2.out.put _ _).1⟩
/-- a turn that may not be, or a number below 0 -/
theorem rjoin_no (a b c d n : Int) (h : ¬ (TM.May (a, b) ∧ TM.May (c, d) ∧ 0 ≤ n)) (w : World) :
    Calls Try.prog 15 #[.agg #[.int .i64 a, .int .i64 b], .agg #[.int .i64 c, .int .i64 d], .int .i64 n] w fun e w' => e = .returned (.tuple #[.agg #[.int .i64 0, .int .i64 0], .int .i64 1]) ∧ Fresh w w' := by
  by_cases hx : TM.May (a, b)
  · by_cases hy : TM.May (c, d)
    · exact rjoin_nn a b c d n hx hy (Int.not_le.1 fun h0 => h ⟨hx, hy, h0⟩) w
    · exact rjoin_ny a b c d n hx hy w
  · by_cases hy : TM.May (c, d)
    · exact rjoin_nxy a b c d n hx hy w
    · exact rjoin_nxny a b c d n hx hy w
theorem sThree {w W : World} {a b c d : Int} (h : Three w W a b c d) : Three w W a b c d ∧ W.cell? ⟨w.heap.size, 0, none⟩ = some (.int .i64 a) ∧ W.cell? ⟨w.heap.size, 1, none⟩ = some (.int .i64 b) := ⟨h, h.2.1.c0, h.2.1.c1⟩
theorem three_lt {w W : World} {a b c d : Int} (h : Three w W a b c d) : w.heap.size + 1 + 1 < W.heap.size := by
  obtain ⟨_, _, _, _, _, x2⟩ := h
  exact x2.lt
theorem Three.farput {w W : World} {a b c d : Int} (h : Three w W a b c d) {g : Nat} (hg : w.heap.size + 1 + 1 < g) (u v : Value) : Three w ((W.setCell ⟨g, 0, none⟩ u).setCell ⟨g, 1, none⟩ v) a b c d := by
  obtain ⟨f, x0, x1, x, y, x2⟩ := h
  exact ⟨fresh_put f (by omega) _ _, x0.far (by omega) _ _, x1.far (by omega) _ _, x, y, x2.far (by omega) _ _⟩
set_option maxRecDepth 100000 in
set_option maxHeartbeats 4000000 in
theorem rjoin_yes (a b c d P Q : Int) (n : Nat) (hn : I63 n) (hx : TM.May (a, b)) (hy : TM.May (c, d)) (h : TM.join (a, b) (c, d) n = (P, Q)) (w : World) :
    Calls Try.prog 15 #[.agg #[.int .i64 a, .int .i64 b], .agg #[.int .i64 c, .int .i64 d], .int .i64 (n : Int)] w fun e w' => e = .returned (.tuple #[.agg #[.int .i64 P, .int .i64 Q], .int .i64 0]) ∧ Fresh w w' := by
  obtain ⟨R, T, hRT⟩ : ∃ R T, TM.power n = (R, T) := ⟨_, _, rfl⟩
  obtain ⟨A, B, hAB⟩ : ∃ A B, TM.mul (a, b) (R, T) = (A, B) := ⟨_, _, rfl⟩
  have hM1 : TM.May (R, T) := by rw [← hRT]; exact TM.power_may n
  have hM2 : TM.May (A, B) := by rw [← hAB]; exact TM.mul_may _ _
  have hPQ : (A + c) % 8191 = P ∧ (B + d) % 8191 = Q := by
    have e : TM.red (TM.ca (A, B) (c, d)) = (P, Q) := by rw [← h, ← hAB, ← hRT]; rfl
    exact ⟨congrArg Prod.fst e, congrArg Prod.snd e⟩
  have HPQ := Lib.hid hPQ
  have HRT := Lib.hid hRT
  have HAB := Lib.hid hAB
  have HX := Lib.hid hx
  have HR := Lib.hid hM1
  have HU := Lib.hid (show U64 n by unfold I63 at hn; unfold U64; omega)
  have hw := wrap_63 n hn
  have hnlt : ¬ (n : Int) < 0 := by have := Int.natCast_nonneg n; omega
  obtain ⟨h0, h1, h2, h3⟩ := hx
  obtain ⟨k0, k1, k2, k3⟩ := hy
  obtain ⟨m0, m1, m2, m3⟩ := hM2
  simp only at h0 h1 h2 h3 k0 k1 k2 k3 m0 m1 m2 m3
  have HT := Lib.hid (Three.start w a b c d)
  clear hPQ hRT hAB hM1 h hn
  go_enter Try.func15, Try.ntmps15
  go_wp2_with fail
  generalize hW : ((w.alloc (.cells #[.int .i64 a, .int .i64 b] 24)).alloc (.cells #[.int .i64 c, .int .i64 d] 24)).alloc (.cells #[.int .i64 0, .int .i64 0] 24) = W0 at *
  clear hW
  refine (rmay_yes a b h0 h1 h2 h3 _).mono ?_
  rintro e w1 ⟨rfl, hf⟩
  have HT1 := Lib.hid (HT.out.step hf)
  clear hf HT
  obtain ⟨-, c1, c2, c3, c4⟩ := HT1.out.s
  go_wp2_with fail
  refine (rmay_yes c d k0 k1 k2 k3 _).mono ?_
  rintro e w2 ⟨rfl, hf⟩
  have HT2 := Lib.hid (HT1.out.step hf)
  clear hf HT1 c1 c2 c3 c4
  obtain ⟨-, c1, c2, c3, c4⟩ := HT2.out.s
  go_wp2_with fail
  have z4 := three_lt HT2.out
  go_region_held3 (fun w' => Three w w' a b c d ∧ w'.cell? ⟨w.heap.size, 0, none⟩ = some (.int .i64 a) ∧ w'.cell? ⟨w.heap.size, 1, none⟩ = some (.int .i64 b))
    (first
      | exact sThree (HT2.out.step (Fresh.refl _).drew)
      | exact sThree HT3.out
      | exact sThree (HT3.out.farput (by assumption) _ _)
      | exact sThree (HT3.out.step ((Fresh.refl _).alloc _ _))
      | exact sThree (HT2.out.step ((Fresh.refl _).drew.alloc _ _)))
    (first
      | (go_at_call 21; refine (rpower_nat n HU.out R T HRT.out _).mono ?_; rintro e w3 ⟨rfl, hf⟩; have HT3 := Lib.hid (Three.step (‹Three w _ a b c d ∧ _›).1 hf); (first | have HN := Lib.hid (Box.step (Box.drew (Box.alloc w2 (.int .i64 0) (.int .i64 0))) hf) | have HN := Lib.hid (Box.step (Box.alloc _ (.int .i64 0) (.int .i64 0)) hf) | have HN := Lib.hid (HN.out.step hf) | skip); (try (have n0 := HN.out.c0; have n1 := HN.out.c1; have n2 := HN.out.f0 0; have n3 := HN.out.f0 1; have n4 := HN.out.lt; (try simp only [heap_drew] at n0 n1 n2 n3 n4))); clear hf; have z4 := three_lt HT3.out)
      | (go_at_call 19; refine (rmul_to a b R T A B HX.out HR.out HAB.out _).mono ?_; rintro e w3 ⟨rfl, hf⟩; have HT3 := Lib.hid (Three.step (‹Three w _ a b c d ∧ _›).1 hf); (first | have HN := Lib.hid (Box.step (Box.drew (Box.alloc w2 (.int .i64 0) (.int .i64 0))) hf) | have HN := Lib.hid (Box.step (Box.alloc _ (.int .i64 0) (.int .i64 0)) hf) | have HN := Lib.hid (HN.out.step hf) | skip); (try (have n0 := HN.out.c0; have n1 := HN.out.c1; have n2 := HN.out.f0 0; have n3 := HN.out.f0 1; have n4 := HN.out.lt; (try simp only [heap_drew] at n0 n1 n2 n3 n4))); clear hf; have z4 := three_lt HT3.out))
  all_goals
    have HTf := Lib.hid (‹Three w _ a b c d ∧ _›).1
    (first | have HB := Lib.hid (HN.out.put (.int .i64 A) (.int .i64 B)) | have HB := Lib.hid (Box.alloc w3 (.int .i64 A) (.int .i64 B)))
    clear c1 c2 c3 c4
    (try generalize w3.alloc (.cells #[.int .i64 A, .int .i64 B] 24) = Wf at *)
    obtain ⟨-, -, y1, rx, ry, rr⟩ := HTf.out
    have Hr := Lib.hid rr
    have c1 := y1.c0
    have c2 := y1.c1
    have c3 := HB.out.c0
    have c4 := HB.out.c1
    have g5 := rr.c0
    have g6 := rr.c1
    have g7 := rr.f0 0
    have g8 := rr.f0 1
    have hz3 := rr.lt
    clear rr y1
    go_wp2
    have hb := Hr.out.put (.int .i64 ((A + c) % 8191)) (.int .i64 ((B + d) % 8191))
    exact bodyPost_ret (v := .tuple #[.agg #[.int .i64 ((A + c) % 8191), .int .i64 ((B + d) % 8191)], .int .i64 0]) (by simp [results, Try.results15, asAddr, box_res hb]) rfl ⟨by rw [HPQ.out.1, HPQ.out.2], (HTf.out.put _ _).1⟩
end Go.Proofs.Ytgealgjmplmmoaa
