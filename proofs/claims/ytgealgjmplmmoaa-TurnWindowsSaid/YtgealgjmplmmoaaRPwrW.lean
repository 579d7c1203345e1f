/- The document's Power of turns, walked. -/
import Derived.Test.YtgealgjmplmmoaaRMulW
namespace Go.Proofs.Ytgealgjmplmmoaa
open Go.RowKit
theorem half_u64w (n : Nat) (h : U64 n) : IntKind.u64.wrap ((n : Int) / 2) = ((n / 2 : Nat) : Int) := by
  rw [IntKind.wrap_u64]; unfold U64 at h; omega
theorem PBox.start2 (w : World) :
    PBox w (((w.alloc (.cells #[.int .i64 0, .int .i64 0] 24)).alloc (.cells #[.int .i64 1, .int .i64 0] 24)).alloc (.cells #[.int .i64 5, .int .i64 3] 24)) (w.heap.size + 1) (w.heap.size + 1 + 1) 1 0 5 3 := by
  have h := PBox.start (Fresh.refl (w.alloc (.cells #[.int .i64 0, .int .i64 0] 24)))
  have e1 : (w.alloc (.cells #[.int .i64 0, .int .i64 0] 24)).heap.size = w.heap.size + 1 := by show (w.heap.push _).size = _; simp
  rw [e1] at h
  exact h
set_option maxRecDepth 100000 in
set_option maxHeartbeats 2000000 in
theorem rpower_nat (N : Nat) (hN : U64 N) (P Q : Int) (hP : TM.power N = (P, Q)) (w : World) :
    Calls Try.prog 21 #[.int .u64 (N : Int)] w fun e w' => e = .returned (.agg #[.int .i64 P, .int .i64 Q]) ∧ Fresh w w' := by
  have hPP := Lib.hid hP
  clear hP
  have HB := Lib.hid (PBox.start2 w)
  go_enter Try.func21, Try.ntmps21
  go_wp2
  generalize hW : ((w.alloc (.cells #[.int .i64 0, .int .i64 0] 24)).alloc (.cells #[.int .i64 1, .int .i64 0] 24)).alloc (.cells #[.int .i64 5, .int .i64 3] 24) = W0 at *
  clear hW
  obtain ⟨g, hg⟩ : ∃ g, g = w.heap.size + 1 := ⟨_, rfl⟩
  obtain ⟨h, hh⟩ : ∃ h, h = w.heap.size + 1 + 1 := ⟨_, rfl⟩
  go_loopw [0] (fun s W => ∃ (n : Nat) (c d a b : Int), U64 n ∧ PInv N n c d a b ∧ PBox w W (w.heap.size + 1) (w.heap.size + 1 + 1) c d a b ∧ s = .int .u64 (n : Int)) (fun s _ => (intOf s).toNat)
  case atStart => exact ⟨N, 1, 0, 5, 3, hN, ⟨TM.one_may, TM.step_may, TM.one_mul (TM.pw_may _ _)⟩, HB.out, rfl⟩
  case round =>
    obtain ⟨n, c, d, a, b, hu, hI, hbox, rfl⟩ := hrel
    have H := Lib.hid hbox
    have HI := Lib.hid hI
    clear hbox hI HB hg hh
    obtain ⟨hfr, hg1, hg2, ⟨rx, ry, br⟩, bg, bh⟩ := H.out
    have Hr := Lib.hid br
    have c1 := bg.c0
    have c2 := bg.c1
    have c3 := bh.c0
    have c4 := bh.c1
    by_cases h0 : n = 0
    · have ht : ¬ (0 : Int) < (n : Int) := by omega
      have r1 := br.c0
      have r2 := br.c1
      have r3 := br.f0 0
      have r4 := br.f0 1
      have hz := br.lt
      have HD := Lib.hid (PInv.done (by rw [← h0]; exact HI.out) hPP.out)
      clear h0 hfr br bg bh
      go_wp2
      have hb := Hr.out.put (.int .i64 c) (.int .i64 d)
      exact bodyPost_ret (v := .agg #[.int .i64 c, .int .i64 d]) (by simp [results, Try.results21, asAddr, box_res hb]) rfl ⟨ret_agg HD.out, fresh_put H.out.1 (Nat.le_refl _) _ _⟩
    · have ht : (0 : Int) < (n : Int) := by omega
      obtain ⟨X, Y, hXY⟩ : ∃ X Y, TM.mul (a, b) (a, b) = (X, Y) := ⟨_, _, rfl⟩
      have HX := Lib.hid hXY
      have Hhalf := Lib.hid (half_u64w n hu)
      clear hXY
      by_cases h1 : n % 2 = 1
      · have ho := (beq_iff_eq.2 (by omega) : ((n : Int) % 2 == 1) = true)
        have H1 := Lib.hid h1
        obtain ⟨A, B, hAB⟩ : ∃ A B, TM.mul (c, d) (a, b) = (A, B) := ⟨_, _, rfl⟩
        have HA := Lib.hid hAB
        clear hAB h1 hfr br bg bh
        go_wp2_with fail
        refine (rmul_to c d a b A B HI.out.1 HI.out.2.1 HA.out _).mono ?_
        rintro e W1 ⟨rfl, hf⟩
        have K1 := Lib.hid (H.out.step hf)
        have K2 := Lib.hid (K1.out.putG A B)
        clear hf c1 c2 c3 c4
        obtain ⟨-, -, -, -, bg, bh⟩ := K1.out
        have c1 := bg.c0
        have c2 := bg.c1
        have f1 := bg.f0 0
        have f2 := bg.f0 1
        have hz := bg.lt
        obtain ⟨-, -, -, -, -, bh2⟩ := K2.out
        have c3 := bh2.c0
        have c4 := bh2.c1
        clear bg bh bh2
        go_wp2_with fail
        refine (rmul_to a b a b X Y HI.out.2.1 HI.out.2.1 HX.out _).mono ?_
        rintro e W2 ⟨rfl, hf⟩
        have K3 := Lib.hid (K2.out.step hf)
        have K4 := Lib.hid (K3.out.putH X Y)
        clear hf c1 c2 c3 c4 f1 f2 hz
        obtain ⟨-, -, -, -, -, bh⟩ := K3.out
        have c3 := bh.c0
        have c4 := bh.c1
        have f1 := bh.f0 0
        have f2 := bh.f0 1
        have hz := bh.lt
        clear bh
        go_wp2
        go_roundw
        case rel => exact ⟨n / 2, A, B, X, Y, hu.half, HI.out.odd HA.out HX.out H1.out, K4.out, by rw [Hhalf.out]⟩
        case measure => simp [intOf, Hhalf.out]; omega
    
      · have ho := (beq_eq_false_iff_ne.2 (by omega) : ((n : Int) % 2 == 1) = false)
        have H1 := Lib.hid h1
        clear h1 hfr br bg bh
        go_wp2_with fail
        refine (rmul_to a b a b X Y HI.out.2.1 HI.out.2.1 HX.out _).mono ?_
        rintro e W2 ⟨rfl, hf⟩
        have K3 := Lib.hid (H.out.step hf)
        have K4 := Lib.hid (K3.out.putH X Y)
        clear hf c1 c2 c3 c4
        obtain ⟨-, -, -, -, -, bh⟩ := K3.out
        have c3 := bh.c0
        have c4 := bh.c1
        have f1 := bh.f0 0
        have f2 := bh.f0 1
        have hz := bh.lt
        clear bh
        go_wp2
        go_roundw
        case rel => exact ⟨n / 2, c, d, X, Y, hu.half, HI.out.even HX.out H1.out, K4.out, by rw [Hhalf.out]⟩
        case measure => simp [intOf, Hhalf.out]; omega
end Go.Proofs.Ytgealgjmplmmoaa
