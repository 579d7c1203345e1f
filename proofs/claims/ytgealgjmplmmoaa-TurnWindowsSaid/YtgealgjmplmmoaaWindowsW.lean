/- TurnWindows walked: it returns true. -/
import Derived.Test.YtgealgjmplmmoaaRollsW
namespace Go.Proofs.Ytgealgjmplmmoaa
open Go.RowKit
set_option maxRecDepth 100000 in
set_option maxHeartbeats 1000000 in
theorem win_low (s : ByteArray) (n : Int) (h : n < 1) (w : World) :
    Calls Try.prog 3 #[.string s, .int .i64 n] w fun e w' => e = .returned (.bool true) ∧ Fresh w w' := by
  go_enter Try.func3, Try.ntmps3
  go_wp2_with fail
  refine (shown_yes _).mono ?_
  rintro e w1 ⟨rfl, hf⟩
  have F1 := Lib.hid hf
  clear hf
  go_wp2
  go_ret
  exact ⟨rfl, F1.out⟩
set_option maxRecDepth 100000 in
set_option maxHeartbeats 1000000 in
theorem win_high (s : ByteArray) (n : Int) (h : ¬ n < 1) (h2 : (s.size : Int) < n) (w : World) :
    Calls Try.prog 3 #[.string s, .int .i64 n] w fun e w' => e = .returned (.bool true) ∧ Fresh w w' := by
  go_enter Try.func3, Try.ntmps3
  go_wp2_with fail
  refine (shown_yes _).mono ?_
  rintro e w1 ⟨rfl, hf⟩
  have F1 := Lib.hid hf
  clear hf
  go_wp2
  go_ret
  exact ⟨rfl, F1.out⟩
set_option maxRecDepth 100000 in
set_option maxHeartbeats 1000000 in
theorem win_long (s : ByteArray) (n : Int) (h : ¬ n < 1) (h2 : ¬ (s.size : Int) < n) (h3 : (400 : Int) < (s.size : Int)) (w : World) :
    Calls Try.prog 3 #[.string s, .int .i64 n] w fun e w' => e = .returned (.bool true) ∧ Fresh w w' := by
  go_enter Try.func3, Try.ntmps3
  go_wp2_with fail
  refine (shown_yes _).mono ?_
  rintro e w1 ⟨rfl, hf⟩
  have F1 := Lib.hid hf
  clear hf
  go_wp2
  go_ret
  exact ⟨rfl, F1.out⟩
/-- the window's print -/
def win (s : ByteArray) (k i : Nat) : TM.T := TM.print (s.extract k i).data.toList
theorem ext_toList (s : ByteArray) (k i : Nat) : (s.extract k i).data.toList = (s.data.toList.drop k).take (i - k) := by
  simp [ByteArray.data_extract]
theorem win_step (s : ByteArray) (k m i : Nat) (hi : i = m + 1 + k) (hlt : i < s.size) (hks : k < s.size) :
    TM.roll (win s k i) m (s[k]'hks).toNat (s[i]'hlt).toNat = win s (k + 1) (i + 1) := by
  have hk' : k < s.data.toList.length := hks
  have hi' : i < s.data.toList.length := hlt
  have e1 : (s.extract k i).data.toList = s[k]'hks :: ((s.data.toList.drop (k + 1)).take m) := by
    rw [ext_toList, show i - k = m + 1 by omega, List.drop_eq_getElem_cons hk', List.take_succ_cons]
    rfl
  have e2 : (s.extract (k + 1) (i + 1)).data.toList = ((s.data.toList.drop (k + 1)).take m) ++ [s[i]'hlt] := by
    rw [ext_toList, show i + 1 - (k + 1) = m + 1 by omega, List.take_add_one, List.getElem?_drop, show k + 1 + m = i by omega, List.getElem?_eq_getElem hi']
    rfl
  have hl : ((s.data.toList.drop (k + 1)).take m).length = m := by
    rw [List.length_take, List.length_drop]
    have : s.data.toList.length = s.size := rfl
    omega
  have h := TM.roll_window (s[k]'hks) (s[i]'hlt) ((s.data.toList.drop (k + 1)).take m)
  rw [hl] at h
  unfold win
  rw [e1, e2]
  exact h
theorem OneB.alloc {w W : World} {g : Nat} {P Q : Int} (h : OneB w W g P Q) (cs : Array Value) (t : TypeId) : OneB w (W.alloc (.cells cs t)) g P Q := ⟨h.1.alloc _ _, h.2.old _⟩
theorem OneB.far {w W : World} {g k : Nat} {P Q : Int} (h : OneB w W g P Q) (hk : g ≠ k) (hw : w.heap.size ≤ k) (u v : Value) : OneB w ((W.setCell ⟨k, 0, none⟩ u).setCell ⟨k, 1, none⟩ v) g P Q := ⟨fresh_put h.1 hw _ _, h.2.far hk _ _⟩
set_option maxRecDepth 100000 in
set_option maxHeartbeats 4000000 in
theorem win_run (s : ByteArray) (m : Nat) (h1 : m + 1 ≤ s.size) (h2 : s.size ≤ 400) (w : World) :
    Calls Try.prog 3 #[.string s, .int .i64 ((m : Int) + 1)] w fun e w' => e = .returned (.bool true) ∧ Fresh w w' := by
  have t1 : ¬ ((m : Int) + 1) < 1 := by omega
  have t2 : ¬ (s.size : Int) < ((m : Int) + 1) := by omega
  have t3 : ¬ (400 : Int) < (s.size : Int) := by omega
  have b1 : (0 : Int) ≤ (m : Int) + 1 := by omega
  have b2 : (m : Int) + 1 ≤ (s.size : Int) := by omega
  obtain ⟨P, Q, hP⟩ : ∃ P Q, win s 0 (m + 1) = (P, Q) := ⟨_, _, rfl⟩
  have HP := Lib.hid hP
  have Hsz : Hid ((s.extract 0 (m + 1)).size ≤ maxLen) := Lib.hid (by rw [ByteArray.size_extract]; unfold maxLen; omega)
  clear hP
  go_enter Try.func3, Try.ntmps3
  go_wp2_with fail
  refine (shown_yes _).mono ?_
  rintro e w1 ⟨rfl, hf⟩
  have F1 := Lib.hid hf
  clear hf
  go_wp2_with fail
  refine (print_any (s.extract 0 (m + 1)) Hsz.out P Q HP.out _).mono ?_
  rintro e w2 ⟨rfl, hf⟩
  have H0 : Hid (OneB w (w2.alloc (.cells #[.int .i64 P, .int .i64 Q] 24)) w2.heap.size P Q) := Lib.hid ⟨(F1.out.trans hf).alloc _ _, Box.alloc _ _ _⟩
  have hwz : w.heap.size ≤ w2.heap.size := (F1.out.trans hf).below.size
  clear hf F1
  go_wp2_with fail
  have HG : Hid (w.heap.size ≤ w2.heap.size) := Lib.hid hwz
  clear hwz
  generalize w2.alloc (.cells #[.int .i64 P, .int .i64 Q] 24) = W0 at *
  generalize w2.heap.size = g at *
  go_loopw [7] (fun s7 W => ∃ (k : Nat) (a b : Int), m + 1 + k ≤ s.size ∧ win s k (m + 1 + k) = (a, b) ∧ OneB w W g a b ∧ s7 = .int .i64 ((m + 1 + k : Nat) : Int)) (fun s7 _ => s.size - (intOf s7).toNat)
  case atStart => exact ⟨0, P, Q, h1, HP.out, H0.out, rfl⟩
  case round =>
    obtain ⟨k, a, b, hk, hpr, hone, rfl⟩ := hrel
    have HT := Lib.hid hone
    have HR := Lib.hid hpr
    clear hpr H0 HP Hsz
    have c1 := hone.s.2.1
    have c2 := hone.s.2.2
    have f1 := hone.2.f0 0
    have f2 := hone.2.f0 1
    have hz := hone.2.lt
    clear hone
    obtain ⟨i, hi⟩ : ∃ i, i = m + 1 + k := ⟨_, rfl⟩
    rw [← hi]
    have hik : (i : Int) - ((m : Int) + 1) = (k : Int) := by omega
    have Hi := Lib.hid hi
    have Hk := Lib.hid hk
    by_cases hlt : i < s.size
    · have hks : k < s.size := by omega
      have i0 : (0 : Int) ≤ (k : Int) := Int.natCast_nonneg _
      have i1 : (k : Int) < (s.size : Int) := by omega
      have j0 : (0 : Int) ≤ (i : Int) := Int.natCast_nonneg _
      have j1 : (i : Int) < (s.size : Int) := by omega
      have k4 : (k : Int) ≤ 400 := by omega
      have i4 : (i : Int) ≤ 400 := by omega
      obtain ⟨A, B, hA⟩ : ∃ A B, TM.roll (a, b) m (s[k]'hks).toNat (s[i]'hlt).toNat = (A, B) := ⟨_, _, rfl⟩
      have HA := Lib.hid hA
      have HM : Hid (TM.May (a, b)) := Lib.hid (by rw [← HR.out]; exact TM.print_may _)
      have HI : Hid (I63 (m + 1)) := Lib.hid (by unfold I63; omega)
      have hri : win s k i = (a, b) := by rw [hi]; exact HR.out
      have kw1 : IntKind.i64.wrap ((k : Int) + 1) = (k : Int) + 1 := by rw [IntKind.wrap_i64]; omega
      have iw1 : IntKind.i64.wrap ((i : Int) + 1) = (i : Int) + 1 := by rw [IntKind.wrap_i64]; omega
      have ki : k ≤ i := by omega
      have ki2 : (k : Int) + 1 ≤ (i : Int) + 1 := by omega
      have k01 : (0 : Int) ≤ (k : Int) + 1 := by omega
      have i01 : (0 : Int) ≤ (i : Int) + 1 := by omega
      have i1s : (i : Int) + 1 ≤ (s.size : Int) := by omega
      have hwin := win_step s k m i hi hlt hks
      have HB' : Hid (win s (k + 1) (m + 1 + (k + 1)) = (A, B)) := Lib.hid (by rw [show m + 1 + (k + 1) = i + 1 by omega, ← hwin, hri, hA])
      have HB : Hid (TM.print (s.extract (k + 1) (i + 1)).data.toList = (A, B)) := Lib.hid (by have h := HB'.out; rw [show m + 1 + (k + 1) = i + 1 by omega] at h; exact h)
      have HS : Hid ((s.extract (k + 1) (i + 1)).size ≤ maxLen) := Lib.hid (by rw [ByteArray.size_extract]; unfold maxLen; omega)
      have e1 := eq_self A
      have e2 := eq_self B
      clear hA hi hk hwin hri
      go_wp2_with fail
      have kw : IntKind.i64.wrap (k : Int) = (k : Int) := by rw [IntKind.wrap_i64]; omega
      have hg1 : g ≠ wr.heap.size := Nat.ne_of_lt hz
      have hg2 : w.heap.size ≤ wr.heap.size := HT.out.1.below.size
      go_region_held3 (fun w' => OneB w w' g a b ∧ w'.cell? ⟨g, 0, none⟩ = some (.int .i64 a) ∧ w'.cell? ⟨g, 1, none⟩ = some (.int .i64 b))
        (first
          | exact (HT.out.step (Fresh.refl _).drew).s
          | exact H3.out.s
          | exact (H3.out.alloc _ _).s
          | exact (H3.out.far hg1 hg2 _ _).s
          | exact ((HT.out.step (Fresh.refl _).drew).alloc _ _).s)
        (first
          | (go_at_call 12; refine (roll_yes a b A B m (s[k]'hks).toNat (s[i]'hlt).toNat HI.out (UInt8.toNat_lt _) (UInt8.toNat_lt _) HM.out HA.out _).mono ?_; rintro e w3 ⟨rfl, hf⟩; have H3 := Lib.hid (OneB.step (‹OneB w _ g a b ∧ _›).1 hf); (first | have HN := Lib.hid (Box.step (Box.drew (Box.alloc wr (.int .i64 0) (.int .i64 0))) hf) | have HN := Lib.hid (Box.step (Box.alloc _ (.int .i64 0) (.int .i64 0)) hf) | skip); (try (have n0 := HN.out.c0; have n1 := HN.out.c1; have n2 := HN.out.f0 0; have n3 := HN.out.f0 1; have n4 := HN.out.lt; (try simp only [heap_drew] at n0 n1 n2 n3 n4))); clear hf))
      all_goals
        (first
          | (have H4 := Lib.hid (show TwoB w ((w3.setCell ⟨wr.heap.size, 0, none⟩ (.int .i64 A)).setCell ⟨wr.heap.size, 1, none⟩ (.int .i64 B)) g wr.heap.size a b A B from ⟨fresh_put H3.out.1 hg2 _ _, H3.out.2.far hg1 _ _, HN.out.put _ _⟩)
             clear c1 c2 f1 f2 hz H3 HN n0 n1 n2 n3 n4
             generalize (w3.setCell ⟨wr.heap.size, 0, none⟩ (.int .i64 A)).setCell ⟨wr.heap.size, 1, none⟩ (.int .i64 B) = Wf at *
             generalize wr.heap.size = G at H4 ⊢)
          | (have H4 := Lib.hid (show TwoB w (w3.alloc (.cells #[.int .i64 A, .int .i64 B] 24)) g w3.heap.size a b A B from ⟨H3.out.1.alloc _ _, H3.out.2.old _, Box.alloc _ _ _⟩)
             clear c1 c2 f1 f2 hz H3
             generalize w3.alloc (.cells #[.int .i64 A, .int .i64 B] 24) = Wf at *
             generalize w3.heap.size = G at H4 ⊢))
        have c1 := H4.out.s.2.1
        have c2 := H4.out.s.2.2.1
        have c3 := H4.out.s.2.2.2.1
        have c4 := H4.out.s.2.2.2.2
        go_wp2_with fail
        go_region_held3 (fun w' => TwoB w w' g G a b A B ∧ w'.cell? ⟨g, 0, none⟩ = some (.int .i64 a) ∧ w'.cell? ⟨g, 1, none⟩ = some (.int .i64 b) ∧ w'.cell? ⟨G, 0, none⟩ = some (.int .i64 A) ∧ w'.cell? ⟨G, 1, none⟩ = some (.int .i64 B))
          (first
            | exact (H4.out.step (Fresh.refl _).drew).s
            | exact H5.out.s)
          ((go_at_call 11; refine (print_any (s.extract (k + 1) (i + 1)) HS.out A B HB.out _).mono ?_; rintro e w5 ⟨rfl, hf⟩; have H5 := Lib.hid (TwoB.step (‹TwoB w _ g G a b A B ∧ _›).1 hf); clear hf))
        all_goals
          clear c1 c2 c3 c4
          have c1 := H5.out.s.2.1
          have c2 := H5.out.s.2.2.1
          have c3 := H5.out.s.2.2.2.1
          have c4 := H5.out.s.2.2.2.2
          have f1 := H5.out.2.1.f0 0
          have f2 := H5.out.2.1.f0 1
          have hz := H5.out.2.1.lt
          go_wp2
          go_roundw
          case rel => exact ⟨k + 1, A, B, by have := Hi.out; omega, HB'.out, ⟨fresh_put H5.out.1 HG.out _ _, H5.out.2.1.put _ _⟩, by have := Hi.out; go_num⟩
          case measure => simp [intOf]; omega
    · go_wp2
      go_ret
      exact ⟨rfl, HT.out.1⟩
theorem windows_any (s : ByteArray) (n : Int) (w : World) :
    Calls Try.prog 3 #[.string s, .int .i64 n] w fun e w' => e = .returned (.bool true) ∧ Fresh w w' := by
  by_cases h : n < 1
  · exact win_low s n h w
  by_cases h2 : (s.size : Int) < n
  · exact win_high s n h h2 w
  by_cases h3 : (400 : Int) < (s.size : Int)
  · exact win_long s n h h2 h3 w
  obtain ⟨m, rfl⟩ : ∃ m : Nat, n = (m : Int) + 1 := ⟨(n - 1).toNat, by omega⟩
  exact win_run s m (by omega) (by omega) w
end Go.Proofs.Ytgealgjmplmmoaa
