/- turn.Power walked: the step's power. -/
import Derived.Test.YtgealgjmplmmoaaTMulW
import Derived.Test.YtgealgjmplmmoaaTm
import Derived.ScopeJumps
namespace Go.Proofs.Ytgealgjmplmmoaa
open Go.RowKit
theorem mul_to (a b c d A B : Int) (hx : TM.May (a, b)) (hy : TM.May (c, d)) (h : TM.mul (a, b) (c, d) = (A, B)) (w : World) :
    Calls Try.prog 18 #[.agg #[.int .i64 a, .int .i64 b], .agg #[.int .i64 c, .int .i64 d]] w fun e w' => e = .returned (.agg #[.int .i64 A, .int .i64 B]) ∧ Fresh w w' := by
  have hA : (a * c - b * d) % 8191 = A := congrArg Prod.fst h
  have hB : (a * d + b * c) % 8191 = B := congrArg Prod.snd h
  obtain ⟨h0, h1, h2, h3⟩ := hx
  obtain ⟨k0, k1, k2, k3⟩ := hy
  have := mul_yes a b c d h0 h1 h2 h3 k0 k1 k2 k3 w
  rw [hA, hB] at this
  exact this
theorem is_lit5 : FL.Is 4617315517961601024 5 := by
  have := FL.Is.mk' false 5 (by omega)
  rw [show FL.wd false 5 = 4617315517961601024 by decide +kernel] at this
  exact this
theorem is_lit3 : FL.Is 4613937818241073152 3 := by
  have := FL.Is.mk' false 3 (by omega)
  rw [show FL.wd false 3 = 4613937818241073152 by decide +kernel] at this
  exact this
theorem from_step (w : World) :
    Calls Try.prog 23 #[.complex .f64 4617315517961601024 4613937818241073152] w fun e w' => e = .returned (.agg #[.int .i64 5, .int .i64 3]) ∧ Fresh w w' :=
  from_is _ _ 5 3 is_lit5 is_lit3 w
def U64 (n : Nat) : Prop := n < 18446744073709551616
theorem U64.half {n : Nat} (h : U64 n) : U64 (n / 2) := Nat.lt_of_le_of_lt (Nat.div_le_self _ _) h
theorem low_u64 (n : Nat) (h : U64 n) : bits .and .u64 (n : Int) 1 = ((n % 2 : Nat) : Int) := by
  rw [show (1 : Int) = ((1 : Nat) : Int) from rfl, bits_and_u64_nat n 1 h (by omega), Nat.and_one_is_mod]
theorem odd_yes (n : Nat) (h : U64 n) (hn : n % 2 = 1) : (bits .and .u64 (n : Int) 1 == 1) = true := by rw [low_u64 n h, hn]; rfl
theorem odd_no (n : Nat) (h : U64 n) (hn : ¬ n % 2 = 1) : (bits .and .u64 (n : Int) 1 == 1) = false := by
  rw [low_u64 n h, show n % 2 = 0 by omega]; rfl
theorem half_int (n : Nat) : ((n : Int) / 2) = ((n / 2 : Nat) : Int) := by omega
/-- the boxes of Power: the result's, the power so far, the square -/
def PBox (w W : World) (g h : Nat) (c d a b : Int) : Prop :=
  Fresh w W ∧ w.heap.size < g ∧ g < h ∧ (∃ x y : Int, Box W w.heap.size (.int .i64 x) (.int .i64 y)) ∧ Box W g (.int .i64 c) (.int .i64 d) ∧ Box W h (.int .i64 a) (.int .i64 b)
/-- what holds of the numbers -/
def PInv (N n : Nat) (c d a b : Int) : Prop := TM.May (c, d) ∧ TM.May (a, b) ∧ TM.mul (c, d) (TM.pw (a, b) n) = TM.power N
def powJ (w : World) (N : Nat) (a' : Act) (W : World) : Prop :=
  ∃ (n g h : Nat) (c d a b : Int), 0 < N ∧ U64 n ∧ n < N ∧ PInv N n c d a b ∧ PBox w W g h c d a b ∧ ∃ u5 u6 u7 u8 u9 u10 u11 u12 u13 u14 u15 u16 u17 u18 u19 u20 : Value,
    a' = { tmps := #[.int .u64 (n : Int), undef, .pointer (some ⟨w.heap.size, 0, none⟩), .pointer (some ⟨g, 0, none⟩), .pointer (some ⟨h, 0, none⟩), u5, u6, u7, u8, u9, u10, u11, u12, u13, u14, u15, u16, u17, u18, u19, u20], defers := [] }
theorem PBox.step {w W W' : World} {g h : Nat} {c d a b : Int} (H : PBox w W g h c d a b) (hf : Fresh W W') : PBox w W' g h c d a b := by
  obtain ⟨f, h1, h2, ⟨x, y, r⟩, bg, bh⟩ := H
  exact ⟨f.trans hf, h1, h2, ⟨x, y, r.step hf⟩, bg.step hf, bh.step hf⟩
theorem PBox.putG {w W : World} {g h : Nat} {c d a b : Int} (H : PBox w W g h c d a b) (u v : Int) : PBox w ((W.setCell ⟨g, 0, none⟩ (.int .i64 u)).setCell ⟨g, 1, none⟩ (.int .i64 v)) g h u v a b := by
  obtain ⟨f, h1, h2, ⟨x, y, r⟩, bg, bh⟩ := H
  exact ⟨fresh_put f (by omega) _ _, h1, h2, ⟨x, y, r.far (by omega) _ _⟩, bg.put _ _, bh.far (by omega) _ _⟩
theorem PBox.putH {w W : World} {g h : Nat} {c d a b : Int} (H : PBox w W g h c d a b) (u v : Int) : PBox w ((W.setCell ⟨h, 0, none⟩ (.int .i64 u)).setCell ⟨h, 1, none⟩ (.int .i64 v)) g h c d u v := by
  obtain ⟨f, h1, h2, ⟨x, y, r⟩, bg, bh⟩ := H
  exact ⟨fresh_put f (by omega) _ _, h1, h2, ⟨x, y, r.far (by omega) _ _⟩, bg.far (by omega) _ _, bh.put _ _⟩
theorem PBox.start {w W1 : World} (hf : Fresh (w.alloc (.cells #[.int .i64 0, .int .i64 0] 24)) W1) :
    PBox w ((W1.alloc (.cells #[.int .i64 1, .int .i64 0] 24)).alloc (.cells #[.int .i64 5, .int .i64 3] 24)) W1.heap.size (W1.heap.size + 1) 1 0 5 3 := by
  have b0 := (Box.alloc w (.int .i64 0) (.int .i64 0)).step hf
  have b1 := Box.alloc W1 (.int .i64 1) (.int .i64 0)
  have b2 := Box.alloc (W1.alloc (.cells #[.int .i64 1, .int .i64 0] 24)) (.int .i64 5) (.int .i64 3)
  have e1 : (W1.alloc (.cells #[.int .i64 1, .int .i64 0] 24)).heap.size = W1.heap.size + 1 := by show (W1.heap.push _).size = _; simp
  rw [e1] at b2
  exact ⟨((((Fresh.refl w).alloc _ _).trans hf).alloc _ _).alloc _ _, b0.lt, by omega, ⟨0, 0, (b0.old _).old _⟩, b1.old _, b2⟩
theorem PInv.odd {N n : Nat} {c d a b A B X Y : Int} (h : PInv N n c d a b) (h1 : TM.mul (c, d) (a, b) = (A, B)) (h2 : TM.mul (a, b) (a, b) = (X, Y)) (hn : n % 2 = 1) : PInv N (n / 2) A B X Y := by
  obtain ⟨m1, m2, e⟩ := h
  refine ⟨by rw [← h1]; exact TM.mul_may _ _, by rw [← h2]; exact TM.mul_may _ _, ?_⟩
  rw [← h1, ← h2, ← e, TM.pw_half m2 (c, d) n, if_pos hn]
theorem PInv.even {N n : Nat} {c d a b X Y : Int} (h : PInv N n c d a b) (h2 : TM.mul (a, b) (a, b) = (X, Y)) (hn : ¬ n % 2 = 1) : PInv N (n / 2) c d X Y := by
  obtain ⟨m1, m2, e⟩ := h
  refine ⟨m1, by rw [← h2]; exact TM.mul_may _ _, ?_⟩
  rw [← h2, ← e, TM.pw_half m2 (c, d) n, if_neg hn]
theorem PInv.done {N : Nat} {c d a b P Q : Int} (h : PInv N 0 c d a b) (hP : TM.power N = (P, Q)) : c = P ∧ d = Q := by
  obtain ⟨m1, m2, e⟩ := h
  rw [show TM.pw (a, b) 0 = TM.one from rfl, TM.mul_one m1, hP] at e
  exact ⟨congrArg Prod.fst e, congrArg Prod.snd e⟩
theorem ret_agg {A B C D : Int} (h : A = C ∧ B = D) : Ending.returned (.agg #[.int .i64 A, .int .i64 B]) = .returned (.agg #[.int .i64 C, .int .i64 D]) := by rw [h.1, h.2]
theorem half_u64 (n : Nat) : Value.int .u64 ((n : Int) / 2) = .int .u64 ((n / 2 : Nat) : Int) := by rw [half_int]
set_option maxRecDepth 100000 in
set_option maxHeartbeats 4000000 in
theorem power_nat (N : Nat) (hN : U64 N) (P Q : Int) (hP : TM.power N = (P, Q)) (w : World) :
    Calls Try.prog 20 #[.int .u64 (N : Int)] w fun e w' => e = .returned (.agg #[.int .i64 P, .int .i64 Q]) ∧ Fresh w w' := by
  have hPP := Lib.hid hP
  clear hP
  have hu := hN
  go_enter Try.func20, Try.ntmps20
  go_wp2
  refine wp_scope_jumps 0 (powJ w N) (fun a' _ => (intOf (a'.tmps.getD 0 undef)).toNat) rfl ?_ ?_
  · go_wp2_with fail
    refine (from_step _).mono ?_
    rintro e W1 ⟨rfl, hf⟩
    have HF := Lib.hid hf
    clear hf
    have HB := Lib.hid (PBox.start HF.out)
    go_wp2_with fail
    generalize hW : (W1.alloc (.cells #[.int .i64 1, .int .i64 0] 24)).alloc (.cells #[.int .i64 5, .int .i64 3] 24) = W at *
    generalize hg : W1.heap.size = g at *
    generalize hh : g + 1 = h at *
    obtain ⟨a, b, c, d, hI, hbox⟩ : ∃ a b c d : Int, PInv N N c d a b ∧ PBox w W g h c d a b :=
      ⟨5, 3, 1, 0, ⟨TM.one_may, TM.step_may, TM.one_mul (TM.pw_may _ _)⟩, HB.out⟩
    have H := Lib.hid hbox
    have HI := Lib.hid hI
    clear hW hg hh HB HF hbox hI
    go_step3
    obtain ⟨hfr, hg1, hg2, ⟨rx, ry, br⟩, bg, bh⟩ := H.out
    have Hr := Lib.hid br
    have c1 := bg.c0
    have c2 := bg.c1
    have c3 := bh.c0
    have c4 := bh.c1
    by_cases h0 : N = 0
    · have ht : ((N : Int) == 0) = true := by rw [h0]; rfl
      have r1 := br.c0
      have r2 := br.c1
      have r3 := br.f0 0
      have r4 := br.f0 1
      have hz := br.lt
      have HD := Lib.hid (PInv.done (by rw [← h0]; exact HI.out) hPP.out)
      clear h0 hfr br bg bh
      go_wp2
      simp only [Exit.jump]
      have hb := Hr.out.put (.int .i64 c) (.int .i64 d)
      exact bodyPost_ret (v := .agg #[.int .i64 c, .int .i64 d]) (by simp [results, Try.results20, asAddr, box_res hb]) rfl ⟨ret_agg HD.out, fresh_put H.out.1 (Nat.le_refl _) _ _⟩
    · have ht : ((N : Int) == 0) = false := by rw [beq_eq_false_iff_ne]; omega
      obtain ⟨X, Y, hXY⟩ : ∃ X Y, TM.mul (a, b) (a, b) = (X, Y) := ⟨_, _, rfl⟩
      have HX := Lib.hid hXY
      have Hhalf := Lib.hid (half_u64 N)
      clear hXY
      by_cases h1 : N % 2 = 1
      · have ho := odd_yes N hu h1
        have H1 := Lib.hid h1
        obtain ⟨A, B, hAB⟩ : ∃ A B, TM.mul (c, d) (a, b) = (A, B) := ⟨_, _, rfl⟩
        have HA := Lib.hid hAB
        clear hAB h1 hfr br bg bh
        go_wp2_with fail
        refine (mul_to c d a b A B HI.out.1 HI.out.2.1 HA.out _).mono ?_
        rintro e W1 ⟨rfl, hf⟩
        have K1 := Lib.hid (H.out.step hf)
        have K2 := Lib.hid (K1.out.putG A B)
        clear hf c1 c2 c3 c4
        obtain ⟨-, -, -, -, bg, bh⟩ := K1.out
        have c1 := bg.c0
        have c2 := bg.c1
        have f1 := bg.f0 0
        have f2 := bg.f0 1
        have hz := bg.lt
        obtain ⟨-, -, -, -, -, bh2⟩ := K2.out
        have c3 := bh2.c0
        have c4 := bh2.c1
        clear bg bh bh2
        go_wp2_with fail
        refine (mul_to a b a b X Y HI.out.2.1 HI.out.2.1 HX.out _).mono ?_
        rintro e W2 ⟨rfl, hf⟩
        have K3 := Lib.hid (K2.out.step hf)
        have K4 := Lib.hid (K3.out.putH X Y)
        clear hf c1 c2 c3 c4 f1 f2 hz
        obtain ⟨-, -, -, -, -, bh⟩ := K3.out
        have c3 := bh.c0
        have c4 := bh.c1
        have f1 := bh.f0 0
        have f2 := bh.f0 1
        have hz := bh.lt
        clear bh
        go_wp2
        go_step3
        rw [Hhalf.out]
        refine ⟨rfl, N / 2, g, h, A, B, X, Y, by omega, hu.half, by omega, HI.out.odd HA.out HX.out H1.out, K4.out, _, _, _, _, _, _, _, _, _, _, _, _, _, _, _, _, rfl⟩
    
      · have ho := odd_no N hu h1
        have H1 := Lib.hid h1
        clear h1 hfr br bg bh
        go_wp2_with fail
        refine (mul_to a b a b X Y HI.out.2.1 HI.out.2.1 HX.out _).mono ?_
        rintro e W2 ⟨rfl, hf⟩
        have K3 := Lib.hid (H.out.step hf)
        have K4 := Lib.hid (K3.out.putH X Y)
        clear hf c1 c2 c3 c4
        obtain ⟨-, -, -, -, -, bh⟩ := K3.out
        have c3 := bh.c0
        have c4 := bh.c1
        have f1 := bh.f0 0
        have f2 := bh.f0 1
        have hz := bh.lt
        clear bh
        go_wp2
        go_step3
        rw [Hhalf.out]
        refine ⟨rfl, N / 2, g, h, c, d, X, Y, by omega, hu.half, by omega, HI.out.even HX.out H1.out, K4.out, _, _, _, _, _, _, _, _, _, _, _, _, _, _, _, _, rfl⟩
  · rintro a' W ⟨n, g, h, c, d, a, b, hpos, hu, hlt, hinv, hbox, u5, u6, u7, u8, u9, u10, u11, u12, u13, u14, u15, u16, u17, u18, u19, u20, rfl⟩
    have H := Lib.hid hbox
    have HI := Lib.hid hinv
    clear hbox hinv
    obtain ⟨hfr, hg1, hg2, ⟨rx, ry, br⟩, bg, bh⟩ := H.out
    have Hr := Lib.hid br
    have c1 := bg.c0
    have c2 := bg.c1
    have c3 := bh.c0
    have c4 := bh.c1
    by_cases h0 : n = 0
    · have ht : ((n : Int) == 0) = true := by rw [h0]; rfl
      have r1 := br.c0
      have r2 := br.c1
      have r3 := br.f0 0
      have r4 := br.f0 1
      have hz := br.lt
      have HD := Lib.hid (PInv.done (by rw [← h0]; exact HI.out) hPP.out)
      clear h0 hfr br bg bh
      go_wp2
      simp only [Exit.jump]
      have hb := Hr.out.put (.int .i64 c) (.int .i64 d)
      exact bodyPost_ret (v := .agg #[.int .i64 c, .int .i64 d]) (by simp [results, Try.results20, asAddr, box_res hb]) rfl ⟨ret_agg HD.out, fresh_put H.out.1 (Nat.le_refl _) _ _⟩
    · have ht : ((n : Int) == 0) = false := by rw [beq_eq_false_iff_ne]; omega
      obtain ⟨X, Y, hXY⟩ : ∃ X Y, TM.mul (a, b) (a, b) = (X, Y) := ⟨_, _, rfl⟩
      have HX := Lib.hid hXY
      have Hhalf := Lib.hid (half_u64 n)
      clear hXY
      by_cases h1 : n % 2 = 1
      · have ho := odd_yes n hu h1
        have H1 := Lib.hid h1
        obtain ⟨A, B, hAB⟩ : ∃ A B, TM.mul (c, d) (a, b) = (A, B) := ⟨_, _, rfl⟩
        have HA := Lib.hid hAB
        clear hAB h1 hfr br bg bh
        go_wp2_with fail
        refine (mul_to c d a b A B HI.out.1 HI.out.2.1 HA.out _).mono ?_
        rintro e W1 ⟨rfl, hf⟩
        have K1 := Lib.hid (H.out.step hf)
        have K2 := Lib.hid (K1.out.putG A B)
        clear hf c1 c2 c3 c4
        obtain ⟨-, -, -, -, bg, bh⟩ := K1.out
        have c1 := bg.c0
        have c2 := bg.c1
        have f1 := bg.f0 0
        have f2 := bg.f0 1
        have hz := bg.lt
        obtain ⟨-, -, -, -, -, bh2⟩ := K2.out
        have c3 := bh2.c0
        have c4 := bh2.c1
        clear bg bh bh2
        go_wp2_with fail
        refine (mul_to a b a b X Y HI.out.2.1 HI.out.2.1 HX.out _).mono ?_
        rintro e W2 ⟨rfl, hf⟩
        have K3 := Lib.hid (K2.out.step hf)
        have K4 := Lib.hid (K3.out.putH X Y)
        clear hf c1 c2 c3 c4 f1 f2 hz
        obtain ⟨-, -, -, -, -, bh⟩ := K3.out
        have c3 := bh.c0
        have c4 := bh.c1
        have f1 := bh.f0 0
        have f2 := bh.f0 1
        have hz := bh.lt
        clear bh
        go_wp2
        go_step3
        rw [Hhalf.out]
        refine ⟨rfl, ⟨n / 2, g, h, A, B, X, Y, hpos, hu.half, by omega, HI.out.odd HA.out HX.out H1.out, K4.out, _, _, _, _, _, _, _, _, _, _, _, _, _, _, _, _, rfl⟩, ?_⟩
        simp [intOf]; omega
      · have ho := odd_no n hu h1
        have H1 := Lib.hid h1
        clear h1 hfr br bg bh
        go_wp2_with fail
        refine (mul_to a b a b X Y HI.out.2.1 HI.out.2.1 HX.out _).mono ?_
        rintro e W2 ⟨rfl, hf⟩
        have K3 := Lib.hid (H.out.step hf)
        have K4 := Lib.hid (K3.out.putH X Y)
        clear hf c1 c2 c3 c4
        obtain ⟨-, -, -, -, -, bh⟩ := K3.out
        have c3 := bh.c0
        have c4 := bh.c1
        have f1 := bh.f0 0
        have f2 := bh.f0 1
        have hz := bh.lt
        clear bh
        go_wp2
        go_step3
        rw [Hhalf.out]
        refine ⟨rfl, ⟨n / 2, g, h, c, d, X, Y, hpos, hu.half, by omega, HI.out.even HX.out H1.out, K4.out, _, _, _, _, _, _, _, _, _, _, _, _, _, _, _, _, rfl⟩, ?_⟩
        simp [intOf]; omega
end Go.Proofs.Ytgealgjmplmmoaa
