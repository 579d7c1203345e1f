/- turn.Print walked. -/
import Derived.Test.YtgealgjmplmmoaaRPwrW
import Derived.Deep.RegionWith
namespace Go.Proofs.Ytgealgjmplmmoaa
open Go.RowKit
/-- two boxes: the result's, and the print so far -/
def Two (w W : World) (a b : Int) : Prop :=
  Fresh w W ∧ (∃ x y : Int, Box W w.heap.size (.int .i64 x) (.int .i64 y)) ∧ Box W (w.heap.size + 1) (.int .i64 a) (.int .i64 b)
theorem Two.step {w W W' : World} {a b : Int} (h : Two w W a b) (hf : Fresh W W') : Two w W' a b := by
  obtain ⟨f, ⟨x, y, r⟩, z⟩ := h
  exact ⟨f.trans hf, ⟨x, y, r.step hf⟩, z.step hf⟩
theorem Two.put {w W : World} {a b : Int} (h : Two w W a b) (u v : Int) : Two w ((W.setCell ⟨w.heap.size + 1, 0, none⟩ (.int .i64 u)).setCell ⟨w.heap.size + 1, 1, none⟩ (.int .i64 v)) u v := by
  obtain ⟨f, ⟨x, y, r⟩, z⟩ := h
  exact ⟨fresh_put f (by omega) _ _, ⟨x, y, r.far (by omega) _ _⟩, z.put _ _⟩
theorem Two.start (w : World) : Two w ((w.alloc (.cells #[.int .i64 0, .int .i64 0] 24)).alloc (.cells #[.int .i64 0, .int .i64 0] 24)) 0 0 := by
  have b0 := Box.alloc w (.int .i64 0) (.int .i64 0)
  have b1 := Box.alloc (w.alloc (.cells #[.int .i64 0, .int .i64 0] 24)) (.int .i64 0) (.int .i64 0)
  have e1 : (w.alloc (.cells #[.int .i64 0, .int .i64 0] 24)).heap.size = w.heap.size + 1 := by show (w.heap.push _).size = _; simp
  rw [e1] at b1
  exact ⟨((Fresh.refl w).alloc _ _).alloc _ _, ⟨0, 0, b0.old _⟩, b1⟩
theorem take_snoc (s : ByteArray) (k : Nat) (h : k < s.size) : s.data.toList.take (k + 1) = s.data.toList.take k ++ [s[k]] := by
  rw [List.take_succ_eq_append_getElem (by simpa using h)]; rfl
theorem is_lit1 : FL.Is 4607182418800017408 1 := by
  have := FL.Is.mk' false 1 (by omega)
  rw [show FL.wd false 1 = 4607182418800017408 by decide +kernel] at this
  exact this
theorem is_lit0 : FL.Is 0 0 := FL.Is.mk' false 0 (by omega)
theorem csum_run (x y z u re im : Nat) (h : cSumBits .add .f64 x y z u = some (re, im)) (w : World) : (binOp .add 48 (.complex .f64 x y) (.complex .f64 z u)).run Try.prog w = .ok (.complex .f64 re im) w :=
  run_complex_sum w .add (.inl rfl) 48 .f64 x y z u re im h
theorem from_at (x y : Nat) (A B : Int) (hx : ∃ m, FL.Is x m ∧ m % 8191 = A) (hy : ∃ n, FL.Is y n ∧ n % 8191 = B) (w : World) :
    Calls Try.prog 23 #[.complex .f64 x y] w fun e w' => e = .returned (.agg #[.int .i64 A, .int .i64 B]) ∧ Fresh w w' := by
  obtain ⟨m, hm, rfl⟩ := hx
  obtain ⟨n, hn, rfl⟩ := hy
  exact from_is x y m n hm hn w
/-- a byte put behind a turn, in words -/
theorem put_words (a b : Int) (c : Nat) (P Q : Int) (hm : TM.May (a, b)) (hc : c < 256) (h : TM.put (a, b) c = (P, Q)) :
    ∃ re im q x y : Nat, (∀ w, (binOp .mul 48 (.complex .f64 (floatOfInt .f64 a) (floatOfInt .f64 b)) (.complex .f64 4617315517961601024 4613937818241073152)).run Try.prog w = .ok (.complex .f64 re im) w) ∧
      (∀ w, (binOp .add 50 (.float .f64 (floatOfInt .f64 (c : Int))) (.float .f64 4607182418800017408)).run Try.prog w = .ok (.float .f64 q) w) ∧
      (∀ w, (binOp .add 48 (.complex .f64 re im) (.complex .f64 q 0)).run Try.prog w = .ok (.complex .f64 x y) w) ∧
      (∃ m, FL.Is x m ∧ m % 8191 = P) ∧ (∃ n, FL.Is y n ∧ n % 8191 = Q) := by
  obtain ⟨h0, h1, h2, h3⟩ := hm
  simp only at h0 h1 h2 h3
  obtain ⟨re, im, e1, i1, i2⟩ := FL.is_cmul (FL.is_int a (by omega)) (FL.is_int b (by omega)) is_lit5 is_lit3 (by omega) (by omega) (by omega) (by omega)
  obtain ⟨q, e2, i3⟩ := FL.is_add (FL.is_int (c : Int) (by omega)) is_lit1 (by omega)
  obtain ⟨x, y, e3, i4, i5⟩ := FL.is_csum i1 i2 i3 is_lit0 (by omega) (by omega)
  refine ⟨re, im, q, x, y, cmul_run _ _ _ _ _ _ e1, add_run _ _ _ e2, csum_run _ _ _ _ _ _ e3, ⟨_, i4, ?_⟩, ⟨_, i5, ?_⟩⟩
  · exact congrArg Prod.fst h
  · exact congrArg Prod.snd h
set_option maxRecDepth 100000 in
set_option maxHeartbeats 8000000 in
theorem print_any (s : ByteArray) (hs : s.size ≤ maxLen) (P Q : Int) (hP : TM.print s.data.toList = (P, Q)) (w : World) :
    Calls Try.prog 11 #[.string s] w fun e w' => e = .returned (.agg #[.int .i64 P, .int .i64 Q]) ∧ Fresh w w' := by
  unfold maxLen at hs
  have hPP := Lib.hid hP
  clear hP
  have HB := Lib.hid (Two.start w)
  go_enter Try.func11, Try.ntmps11
  go_wp2
  generalize hW : (w.alloc (.cells #[.int .i64 0, .int .i64 0] 24)).alloc (.cells #[.int .i64 0, .int .i64 0] 24) = W0 at *
  clear hW
  go_loopw [7] (fun s7 W => ∃ (k : Nat) (a b : Int), k ≤ s.size ∧ TM.print (s.data.toList.take k) = (a, b) ∧ Two w W a b ∧ s7 = .int .i64 (k : Int)) (fun s7 _ => s.size - (intOf s7).toNat)
  case atStart => exact ⟨0, 0, 0, by omega, rfl, HB.out, rfl⟩
  case round =>
    obtain ⟨k, a, b, hk, hpr, htwo, rfl⟩ := hrel
    have HT := Lib.hid htwo
    have HR := Lib.hid hpr
    have HM := Lib.hid (show TM.May (a, b) by rw [← hpr]; exact TM.print_may _)
    clear htwo hpr HB
    obtain ⟨-, -, bz⟩ := HT.out
    have c1 := bz.c0
    have c2 := bz.c1
    have f1 := bz.f0 0
    have f2 := bz.f0 1
    have hz := bz.lt
    clear bz
    by_cases hlt : k < s.size
    · have i0 : (0 : Int) ≤ (k : Int) := Int.natCast_nonneg _
      have i1 : (k : Int) < (s.size : Int) := by omega
      have hcb : ((s[k]'hlt).toNat : Int) < 256 := by have := (s[k]'hlt).toNat_lt; omega
      obtain ⟨P1, Q1, hP1⟩ : ∃ P1 Q1, TM.put (a, b) (s[k]'hlt).toNat = (P1, Q1) := ⟨_, _, rfl⟩
      obtain ⟨re, im, q, x, y, m1, m2, m3, ix, iy⟩ := put_words a b (s[k]'hlt).toNat P1 Q1 HM.out (by omega) hP1
      have Hx := Lib.hid ix
      have Hy := Lib.hid iy
      have HP1 := Lib.hid hP1
      clear ix iy hP1
      go_wp2_with fail
      go_region_with (first
          | (go_at_call 24; refine (as_is _ _ _).mono ?_; rintro e w3 ⟨rfl, hf⟩; have HT3 := Lib.hid (Two.step HT.out ((Fresh.refl _).drew.trans hf)); clear hf)
          | (go_at_call 23; refine (from_at _ _ _ _ Hx.out Hy.out _).mono ?_; rintro e w4 ⟨rfl, hf⟩; have HT4 := Lib.hid (Two.step HT3.out hf); clear hf; have hx := HT4.out.2.2; have g5 := hx.c0; have g6 := hx.c1; have g7 := hx.f0 0; have g8 := hx.f0 1; have hz3 := hx.lt; clear hx))
      all_goals
        go_wp2
        go_roundw
        case rel => exact ⟨k + 1, P1, Q1, by omega, by rw [take_snoc s k hlt, TM.print_snoc, HR.out, HP1.out], HT4.out.put P1 Q1, by go_num⟩
        case measure => simp [intOf]; omega
    · have hkk := Lib.hid (show TM.print (s.data.toList.take k) = TM.print s.data.toList by rw [List.take_of_length_le (by simp; omega)])
      obtain ⟨-, ⟨x, y, bx⟩, -⟩ := HT.out
      have Hx := Lib.hid bx
      have g5 := bx.c0
      have g6 := bx.c1
      have g7 := bx.f0 0
      have g8 := bx.f0 1
      have hz2 := bx.lt
      clear bx
      go_wp2
      have hb := Hx.out.put (.int .i64 a) (.int .i64 b)
      have hab : a = P ∧ b = Q := by
        have := hkk.out
        rw [HR.out, hPP.out] at this
        exact ⟨congrArg Prod.fst this, congrArg Prod.snd this⟩
      exact bodyPost_ret (v := .agg #[.int .i64 a, .int .i64 b]) (by simp [results, Try.results11, asAddr, box_res hb]) rfl ⟨ret_agg hab, fresh_put HT.out.1 (Nat.le_refl _) _ _⟩
end Go.Proofs.Ytgealgjmplmmoaa
