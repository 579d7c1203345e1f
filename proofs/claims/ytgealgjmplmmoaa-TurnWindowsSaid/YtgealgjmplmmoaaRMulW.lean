/- The document's May and Mul of turns, walked. -/
import Derived.Test.YtgealgjmplmmoaaPwrW
namespace Go.Proofs.Ytgealgjmplmmoaa
open Go.RowKit
set_option maxHeartbeats 400000 in
theorem rmay_yes (a b : Int) (h0 : 0 ≤ a) (h1 : a < 8191) (h2 : 0 ≤ b) (h3 : b < 8191) (w : World) :
    Calls Try.prog 17 #[.agg #[.int .i64 a, .int .i64 b]] w fun e w' => e = .returned (.bool true) ∧ Fresh w w' := by
  have Hf := Lib.hid (Fresh.refl w)
  go_enter Try.func17, Try.ntmps17
  go_wp2
  go_ret
  exact ⟨rfl, Hf.out.alloc _ _⟩
set_option maxHeartbeats 400000 in
theorem rmay_no (a b : Int) (h : ¬ MayT a b) (w : World) :
    Calls Try.prog 17 #[.agg #[.int .i64 a, .int .i64 b]] w fun e w' => e = .returned (.bool false) ∧ Fresh w w' := by
  have Hf := Lib.hid (Fresh.refl w)
  by_cases h0 : 0 ≤ a
  · by_cases h1 : a < 8191
    · by_cases h2 : 0 ≤ b
      · have h3 : ¬ b < 8191 := fun h3 => h ⟨h0, h1, h2, h3⟩
        clear h
        go_enter Try.func17, Try.ntmps17
        go_wp2
        go_ret
        exact ⟨rfl, Hf.out.alloc _ _⟩
      · clear h
        go_enter Try.func17, Try.ntmps17
        go_wp2
        go_ret
        exact ⟨rfl, Hf.out.alloc _ _⟩
    · clear h
      go_enter Try.func17, Try.ntmps17
      go_wp2
      go_ret
      exact ⟨rfl, Hf.out.alloc _ _⟩
  · clear h
    go_enter Try.func17, Try.ntmps17
    go_wp2
    go_ret
    exact ⟨rfl, Hf.out.alloc _ _⟩

theorem prod_bounds {a c : Int} (h0 : 0 ≤ a) (h1 : a < 8191) (k0 : 0 ≤ c) (k1 : c < 8191) : 0 ≤ a * c ∧ a * c ≤ 67076100 := by
  refine ⟨Int.mul_nonneg h0 k0, ?_⟩
  have := Int.mul_le_mul (show a ≤ 8190 by omega) (show c ≤ 8190 by omega) k0 (by omega)
  simpa using this
set_option maxHeartbeats 800000 in
theorem rmul_to (a b c d A B : Int) (hx : TM.May (a, b)) (hy : TM.May (c, d)) (h : TM.mul (a, b) (c, d) = (A, B)) (w : World) :
    Calls Try.prog 19 #[.agg #[.int .i64 a, .int .i64 b], .agg #[.int .i64 c, .int .i64 d]] w fun e w' => e = .returned (.agg #[.int .i64 A, .int .i64 B]) ∧ Fresh w w' := by
  have hA : (a * c - b * d) % 8191 = A := congrArg Prod.fst h
  have hB : (a * d + b * c) % 8191 = B := congrArg Prod.snd h
  obtain ⟨h0, h1, h2, h3⟩ := hx
  obtain ⟨k0, k1, k2, k3⟩ := hy
  simp only at h0 h1 h2 h3 k0 k1 k2 k3
  obtain ⟨p0, p1⟩ := prod_bounds h0 h1 k0 k1
  obtain ⟨q0, q1⟩ := prod_bounds h2 h3 k2 k3
  obtain ⟨r0, r1⟩ := prod_bounds h0 h1 k2 k3
  obtain ⟨s0, s1⟩ := prod_bounds h2 h3 k0 k1
  have HA := Lib.hid (show (a * c + 67092481 - b * d) % 8191 = A by omega)
  have HB := Lib.hid (show (a * d + b * c) % 8191 = B by omega)
  clear hA hB h
  have HT := Lib.hid (Three.start w a b c d)
  go_enter Try.func19, Try.ntmps19
  go_wp2_with fail
  generalize hW : ((w.alloc (.cells #[.int .i64 a, .int .i64 b] 24)).alloc (.cells #[.int .i64 c, .int .i64 d] 24)).alloc (.cells #[.int .i64 0, .int .i64 0] 24) = W0 at *
  clear hW
  refine (rmay_yes a b h0 h1 h2 h3 _).mono ?_
  rintro e w1 ⟨rfl, hf⟩
  have HT1 := Lib.hid (HT.out.step hf)
  clear hf HT
  obtain ⟨-, c1, c2, c3, c4⟩ := HT1.out.s
  go_wp2_with fail
  refine (rmay_yes c d k0 k1 k2 k3 _).mono ?_
  rintro e w2 ⟨rfl, hf⟩
  have HT2 := Lib.hid (HT1.out.step hf)
  clear hf HT1 c1 c2 c3 c4
  obtain ⟨-, c1, c2, c3, c4⟩ := HT2.out.s
  obtain ⟨-, -, -, x, y, hx⟩ := HT2.out
  have Hx := Lib.hid hx
  have g5 := hx.c0
  have g6 := hx.c1
  have g7 := hx.f0 0
  have g8 := hx.f0 1
  have hz3 := hx.lt
  clear hx
  go_wp2
  have hb := Hx.out.put (.int .i64 ((a * c + 67092481 - b * d) % 8191)) (.int .i64 ((a * d + b * c) % 8191))
  exact bodyPost_ret (v := .agg #[.int .i64 ((a * c + 67092481 - b * d) % 8191), .int .i64 ((a * d + b * c) % 8191)]) (by simp [results, Try.results19, asAddr, box_res hb]) rfl ⟨ret_agg ⟨HA.out, HB.out⟩, (HT2.out.put _ _).1⟩
set_option maxHeartbeats 800000 in
theorem rmul_no (a b c d : Int) (h : ¬ MayT a b ∨ ¬ MayT c d) (w : World) :
    Calls Try.prog 19 #[.agg #[.int .i64 a, .int .i64 b], .agg #[.int .i64 c, .int .i64 d]] w fun e w' => e = .returned (.agg #[.int .i64 0, .int .i64 0]) ∧ Fresh w w' := by
  have HT := Lib.hid (Three.start w a b c d)
  by_cases hm : MayT a b
  · have hn : ¬ MayT c d := h.resolve_left (fun h => h hm)
    obtain ⟨h0, h1, h2, h3⟩ := hm
    have HN := Lib.hid hn
    clear h hn
    go_enter Try.func19, Try.ntmps19
    go_wp2_with fail
    generalize hW : ((w.alloc (.cells #[.int .i64 a, .int .i64 b] 24)).alloc (.cells #[.int .i64 c, .int .i64 d] 24)).alloc (.cells #[.int .i64 0, .int .i64 0] 24) = W0 at *
    clear hW
    refine (rmay_yes a b h0 h1 h2 h3 _).mono ?_
    rintro e w1 ⟨rfl, hf⟩
    have HT1 := Lib.hid (HT.out.step hf)
    clear hf HT
    obtain ⟨-, c1, c2, c3, c4⟩ := HT1.out.s
    go_wp2_with fail
    refine (rmay_no c d HN.out _).mono ?_
    rintro e w2 ⟨rfl, hf⟩
    have HT2 := Lib.hid (HT1.out.step hf)
    clear hf HT1 c1 c2 c3 c4
    obtain ⟨-, -, -, x, y, hx⟩ := HT2.out
    have Hx := Lib.hid hx
    have g5 := hx.c0
    have g6 := hx.c1
    have g7 := hx.f0 0
    have g8 := hx.f0 1
    have hz3 := hx.lt
    clear hx
    go_wp2
    have hb := Hx.out.put (.int .i64 0) (.int .i64 0)
    exact bodyPost_ret (v := .agg #[.int .i64 0, .int .i64 0]) (by simp [results, Try.results19, asAddr, box_res hb]) rfl ⟨rfl, (HT2.out.put _ _).1⟩
  · have HN := Lib.hid hm
    clear h hm
    by_cases hn : MayT c d
    · obtain ⟨h0, h1, h2, h3⟩ := hn
      go_enter Try.func19, Try.ntmps19
      go_wp2_with fail
      generalize hW : ((w.alloc (.cells #[.int .i64 a, .int .i64 b] 24)).alloc (.cells #[.int .i64 c, .int .i64 d] 24)).alloc (.cells #[.int .i64 0, .int .i64 0] 24) = W0 at *
      clear hW
      refine (rmay_no a b HN.out _).mono ?_
      rintro e w1 ⟨rfl, hf⟩
      have HT1 := Lib.hid (HT.out.step hf)
      clear hf HT
      obtain ⟨-, c1, c2, c3, c4⟩ := HT1.out.s
      go_wp2_with fail
      refine (rmay_yes c d h0 h1 h2 h3 _).mono ?_
      rintro e w2 ⟨rfl, hf⟩
      have HT2 := Lib.hid (HT1.out.step hf)
      clear hf HT1 c1 c2 c3 c4
      obtain ⟨-, -, -, x, y, hx⟩ := HT2.out
      have Hx := Lib.hid hx
      have g5 := hx.c0
      have g6 := hx.c1
      have g7 := hx.f0 0
      have g8 := hx.f0 1
      have hz3 := hx.lt
      clear hx
      go_wp2
      have hb := Hx.out.put (.int .i64 0) (.int .i64 0)
      exact bodyPost_ret (v := .agg #[.int .i64 0, .int .i64 0]) (by simp [results, Try.results19, asAddr, box_res hb]) rfl ⟨rfl, (HT2.out.put _ _).1⟩
    · have HM := Lib.hid hn
      clear hn
      go_enter Try.func19, Try.ntmps19
      go_wp2_with fail
      generalize hW : ((w.alloc (.cells #[.int .i64 a, .int .i64 b] 24)).alloc (.cells #[.int .i64 c, .int .i64 d] 24)).alloc (.cells #[.int .i64 0, .int .i64 0] 24) = W0 at *
      clear hW
      refine (rmay_no a b HN.out _).mono ?_
      rintro e w1 ⟨rfl, hf⟩
      have HT1 := Lib.hid (HT.out.step hf)
      clear hf HT
      obtain ⟨-, c1, c2, c3, c4⟩ := HT1.out.s
      go_wp2_with fail
      refine (rmay_no c d HM.out _).mono ?_
      rintro e w2 ⟨rfl, hf⟩
      have HT2 := Lib.hid (HT1.out.step hf)
      clear hf HT1 c1 c2 c3 c4
      obtain ⟨-, -, -, x, y, hx⟩ := HT2.out
      have Hx := Lib.hid hx
      have g5 := hx.c0
      have g6 := hx.c1
      have g7 := hx.f0 0
      have g8 := hx.f0 1
      have hz3 := hx.lt
      clear hx
      go_wp2
      have hb := Hx.out.put (.int .i64 0) (.int .i64 0)
      exact bodyPost_ret (v := .agg #[.int .i64 0, .int .i64 0]) (by simp [results, Try.results19, asAddr, box_res hb]) rfl ⟨rfl, (HT2.out.put _ _).1⟩
end Go.Proofs.Ytgealgjmplmmoaa
