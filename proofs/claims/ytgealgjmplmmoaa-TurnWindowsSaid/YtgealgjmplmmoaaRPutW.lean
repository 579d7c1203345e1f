/- The document's put and Print of turns, walked. -/
import Derived.Test.YtgealgjmplmmoaaPrnW
import Derived.Deep.RegionWith
namespace Go.Proofs.Ytgealgjmplmmoaa
open Go.RowKit
set_option maxRecDepth 100000 in
set_option maxHeartbeats 1000000 in
theorem rput_to (a b P Q : Int) (c : Nat) (hm : TM.May (a, b)) (hc : c < 256) (h : TM.put (a, b) c = (P, Q)) (w : World) :
    Calls Try.prog 25 #[.agg #[.int .i64 a, .int .i64 b], .int .u8 (c : Int)] w fun e w' => e = .returned (.agg #[.int .i64 P, .int .i64 Q]) ∧ Fresh w w' := by
  obtain ⟨A, B, hAB⟩ : ∃ A B, TM.mul (a, b) TM.step = (A, B) := ⟨_, _, rfl⟩
  have hMay : TM.May (A, B) := by rw [← hAB]; exact TM.mul_may _ _
  have hP : (A + (c : Int) + 1) % 8191 = P := by
    have e1 : (a * 5 - b * 3) % 8191 = A := congrArg Prod.fst hAB
    have e2 : (a * 5 - b * 3 + ((c : Int) + 1)) % 8191 = P := congrArg Prod.fst h
    omega
  have hQ : B = Q := by
    have e1 : (a * 3 + b * 5) % 8191 = B := congrArg Prod.snd hAB
    have e2 : (a * 3 + b * 5 + 0) % 8191 = Q := congrArg Prod.snd h
    omega
  obtain ⟨k0, k1, k2, k3⟩ := hMay
  simp only at k0 k1 k2 k3
  have HP := Lib.hid (And.intro hP hQ)
  have HA := Lib.hid hAB
  have HM := Lib.hid hm
  clear hP hQ hAB hm h
  have b0 := Box.alloc w (.int .i64 a) (.int .i64 b)
  have b1 := Box.alloc (w.alloc (.cells #[.int .i64 a, .int .i64 b] 24)) (.int .i64 0) (.int .i64 0)
  have e1 : (w.alloc (.cells #[.int .i64 a, .int .i64 b] 24)).heap.size = w.heap.size + 1 := by show (w.heap.push _).size = _; simp
  rw [e1] at b1
  have HB := Lib.hid (And.intro (b0.old (.cells #[.int .i64 0, .int .i64 0] 24)) b1)
  have HF := Lib.hid (((Fresh.refl w).alloc #[.int .i64 a, .int .i64 b] 24).alloc #[.int .i64 0, .int .i64 0] 24)
  clear b0 b1 e1
  go_enter Try.func25, Try.ntmps25
  go_wp2_with fail
  generalize hW : (w.alloc (.cells #[.int .i64 a, .int .i64 b] 24)).alloc (.cells #[.int .i64 0, .int .i64 0] 24) = W0 at *
  clear hW
  refine (rmul_to a b 5 3 A B HM.out TM.step_may HA.out _).mono ?_
  rintro e w1 ⟨rfl, hf⟩
  have K1 := Lib.hid (HB.out.1.step hf)
  have K2 := Lib.hid (HB.out.2.step hf)
  have HF1 := Lib.hid (HF.out.trans hf)
  clear hf HB HF
  have g1 := K1.out.c0
  have g2 := K1.out.c1
  have g3 := K1.out.f0 0
  have g4 := K1.out.f0 1
  have g5 := K2.out.c0
  have g6 := K2.out.c1
  have g7 := K2.out.f0 0
  have g8 := K2.out.f0 1
  have z1 := K1.out.lt
  have z2 := K2.out.lt
  go_wp2
  have hb := (K2.out.far (k := w.heap.size) (by omega) (.int .i64 A) (.int .i64 B)).put (.int .i64 ((A + (c : Int) + 1) % 8191)) (.int .i64 B)
  exact bodyPost_ret (v := .agg #[.int .i64 ((A + (c : Int) + 1) % 8191), .int .i64 B]) (by simp [results, Try.results25, asAddr, box_res hb]) rfl ⟨ret_agg HP.out, fresh_put (fresh_put HF1.out (Nat.le_refl _) _ _) (Nat.le_succ _) _ _⟩
set_option maxRecDepth 100000 in
set_option maxHeartbeats 8000000 in
theorem rprint_any (s : ByteArray) (hs : s.size ≤ maxLen) (P Q : Int) (hP : TM.print s.data.toList = (P, Q)) (w : World) :
    Calls Try.prog 22 #[.string s] w fun e w' => e = .returned (.agg #[.int .i64 P, .int .i64 Q]) ∧ Fresh w w' := by
  unfold maxLen at hs
  have hPP := Lib.hid hP
  clear hP
  have HB := Lib.hid (Two.start w)
  go_enter Try.func22, Try.ntmps22
  go_wp2
  generalize hW : (w.alloc (.cells #[.int .i64 0, .int .i64 0] 24)).alloc (.cells #[.int .i64 0, .int .i64 0] 24) = W0 at *
  clear hW
  go_loopw [4] (fun s4 W => ∃ (k : Nat) (a b : Int), k ≤ s.size ∧ TM.print (s.data.toList.take k) = (a, b) ∧ Two w W a b ∧ s4 = .int .i64 (k : Int)) (fun s4 _ => s.size - (intOf s4).toNat)
  case atStart => exact ⟨0, 0, 0, by omega, rfl, HB.out, rfl⟩
  case round =>
    obtain ⟨k, a, b, hk, hpr, htwo, rfl⟩ := hrel
    have HT := Lib.hid htwo
    have HR := Lib.hid hpr
    have HM := Lib.hid (show TM.May (a, b) by rw [← hpr]; exact TM.print_may _)
    clear htwo hpr HB
    obtain ⟨-, -, bz⟩ := HT.out
    have c1 := bz.c0
    have c2 := bz.c1
    have f1 := bz.f0 0
    have f2 := bz.f0 1
    have hz := bz.lt
    clear bz
    by_cases hlt : k < s.size
    · have i0 : (0 : Int) ≤ (k : Int) := Int.natCast_nonneg _
      have i1 : (k : Int) < (s.size : Int) := by omega
      have hcb : ((s[k]'hlt).toNat : Int) < 256 := by have := (s[k]'hlt).toNat_lt; omega
      obtain ⟨P1, Q1, hP1⟩ : ∃ P1 Q1, TM.put (a, b) (s[k]'hlt).toNat = (P1, Q1) := ⟨_, _, rfl⟩
      have HP1 := Lib.hid hP1
      clear hP1
      go_wp2_with fail
      go_region_with (go_at_call 25; refine (rput_to _ _ _ _ _ HM.out (by omega) HP1.out _).mono ?_; rintro e w4 ⟨rfl, hf⟩; have HT4 := Lib.hid (Two.step HT.out ((Fresh.refl _).drew.trans hf)); clear hf; have hx := HT4.out.2.2; have g5 := hx.c0; have g6 := hx.c1; have g7 := hx.f0 0; have g8 := hx.f0 1; have hz3 := hx.lt; clear hx)
      all_goals
        go_wp2
        go_roundw
        case rel => exact ⟨k + 1, P1, Q1, by omega, by rw [take_snoc s k hlt, TM.print_snoc, HR.out, HP1.out], HT4.out.put P1 Q1, by go_num⟩
        case measure => simp [intOf]; omega
    · have hkk := Lib.hid (show TM.print (s.data.toList.take k) = TM.print s.data.toList by rw [List.take_of_length_le (by simp; omega)])
      obtain ⟨-, ⟨x, y, bx⟩, -⟩ := HT.out
      have Hx := Lib.hid bx
      have g5 := bx.c0
      have g6 := bx.c1
      have g7 := bx.f0 0
      have g8 := bx.f0 1
      have hz2 := bx.lt
      clear bx
      go_wp2
      have hb := Hx.out.put (.int .i64 a) (.int .i64 b)
      have hab : a = P ∧ b = Q := by
        have := hkk.out
        rw [HR.out, hPP.out] at this
        exact ⟨congrArg Prod.fst this, congrArg Prod.snd this⟩
      exact bodyPost_ret (v := .agg #[.int .i64 a, .int .i64 b]) (by simp [results, Try.results22, asAddr, box_res hb]) rfl ⟨ret_agg hab, fresh_put HT.out.1 (Nat.le_refl _) _ _⟩
end Go.Proofs.Ytgealgjmplmmoaa
