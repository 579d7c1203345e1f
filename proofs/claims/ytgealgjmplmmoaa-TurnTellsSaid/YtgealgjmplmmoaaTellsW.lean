/- TurnTells walked: it returns true. -/
import Derived.Test.YtgealgjmplmmoaaLawsA
import Derived.Laws.IdiomStrings
namespace Go.Proofs.Ytgealgjmplmmoaa
open Go.RowKit
/-- the world behind '[]byte(s)' -/
def bytesW (s : ByteArray) (C : Nat) (w : World) : World := w.drew.alloc (.cells (bytesRow s C) 5 ((bytesRow s C).size, (bytesRow s C).size + 1))
set_option maxRecDepth 100000 in
set_option maxHeartbeats 1000000 in
theorem tells_neg (s : ByteArray) (at_ : Int) (b : Int) (h : at_ < 0) (w : World) :
    Calls Try.prog 7 #[.string s, .int .i64 at_, .int .u8 b] w fun e w' => e = .returned (.bool true) ∧ Fresh w w' := by
  go_enter Try.func7, Try.ntmps7
  go_wp2_with fail
  refine (shown_yes _).mono ?_
  rintro e w1 ⟨rfl, hf⟩
  have F1 := Lib.hid hf
  clear hf
  go_wp2
  go_ret
  exact ⟨rfl, F1.out⟩
set_option maxRecDepth 100000 in
set_option maxHeartbeats 1000000 in
theorem tells_past (s : ByteArray) (k : Nat) (b : Int) (h : s.size ≤ k) (w : World) :
    Calls Try.prog 7 #[.string s, .int .i64 (k : Int), .int .u8 b] w fun e w' => e = .returned (.bool true) ∧ Fresh w w' := by
  have h1 : ¬ (k : Int) < (s.size : Int) := by omega
  have h0 : ¬ (k : Int) < 0 := by omega
  go_enter Try.func7, Try.ntmps7
  go_wp2_with fail
  refine (shown_yes _).mono ?_
  rintro e w1 ⟨rfl, hf⟩
  have F1 := Lib.hid hf
  clear hf
  go_wp2
  go_ret
  exact ⟨rfl, F1.out⟩
set_option maxRecDepth 100000 in
set_option maxHeartbeats 1000000 in
theorem tells_same (s : ByteArray) (k : Nat) (h : k < s.size) (w : World) :
    Calls Try.prog 7 #[.string s, .int .i64 (k : Int), .int .u8 ((s[k]'h).toNat : Int)] w fun e w' => e = .returned (.bool true) ∧ Fresh w w' := by
  have h1 : (k : Int) < (s.size : Int) := by omega
  have h0 : ¬ (k : Int) < 0 := by omega
  go_enter Try.func7, Try.ntmps7
  go_wp2_with fail
  refine (shown_yes _).mono ?_
  rintro e w1 ⟨rfl, hf⟩
  have F1 := Lib.hid hf
  clear hf
  go_wp2
  go_ret
  exact ⟨rfl, F1.out⟩
/-- the bytes, one of them turned -/
def setB (s : ByteArray) (k b : Nat) : List UInt8 := s.data.toList.set k (UInt8.ofNat b)
theorem bytes_heap (s : ByteArray) (C : Nat) (w : World) : (bytesW s C w).heap[w.heap.size]? = some (.cells (bytesRow s C) 5 ((bytesRow s C).size, (bytesRow s C).size + 1)) := heap_alloc_new w.drew _
theorem bytes_get (s : ByteArray) (C k : Nat) (h : k < s.size) : (bytesRow s C)[k]? = some (.int .u8 ((s[k]'h).toNat : Int)) := by
  have h' : k < s.data.size := h
  unfold bytesRow
  rw [Array.getElem?_append_left (by simpa using h')]
  rw [Array.getElem?_map, Array.getElem?_eq_getElem h']
  rfl
theorem bytes_size (s : ByteArray) (C : Nat) : s.size ≤ (bytesRow s C).size := by
  unfold bytesRow
  simp only [Array.size_append, Array.size_map]
  show s.data.size ≤ _
  omega
theorem bytes_cell (s : ByteArray) (C k : Nat) (h : k < s.size) (w : World) : (bytesW s C w).cell? ⟨w.heap.size, k, none⟩ = some (.int .u8 ((s[k]'h).toNat : Int)) := by
  rw [cell_of_row _ _ k _ _ _ (bytes_heap s C w), bytes_get s C k h]
theorem bytes_frozen (s : ByteArray) (C k : Nat) (h : k < s.size) (w : World) : (bytesW s C w).frozen? ⟨w.heap.size, k, none⟩ = false := by
  have h1 := bytes_size s C
  unfold World.frozen?
  rw [bytes_heap s C w]
  simp
  omega
theorem bytes_below (s : ByteArray) (C : Nat) (w : World) : Below w.heap.size w (bytesW s C w) := (Below.refl _ w).drew.alloc (Nat.le_refl _) _
theorem setB_self (s : ByteArray) (k b : Nat) (h : k < (setB s k b).length) : (setB s k b)[k]'h = UInt8.ofNat b := List.getElem_set_self h
theorem setB_other (s : ByteArray) (k b j : Nat) (hkj : k ≠ j) (hj : j < s.size) (h : j < (setB s k b).length) : (setB s k b)[j]'h = s[j]'hj := List.getElem_set_ne hkj h
theorem back_run (s : ByteArray) (C k b : Nat) (hb : b < 256) (w : World) :
    (convert 43 9 (.slice (some ⟨w.heap.size, 0, none⟩) s.size C)).run Try.prog ((bytesW s C w).setCell ⟨w.heap.size, k, none⟩ (.int .u8 (b : Int))) =
      .ok (.string ⟨(setB s k b).toArray⟩) ((bytesW s C w).setCell ⟨w.heap.size, k, none⟩ (.int .u8 (b : Int))) := by
  have hl : (setB s k b).length = s.size := by unfold setB; rw [List.length_set]; rfl
  have := run_convert_bytes_back (P := Try.prog) ((bytesW s C w).setCell ⟨w.heap.size, k, none⟩ (.int .u8 (b : Int))) 43 9 5 ⟨w.heap.size, 0, none⟩ C (setB s k b) (by kernel_rfl) (by kernel_rfl) (by kernel_rfl) (fun j hj => by
    have hjs : j < s.size := by rw [← hl]; exact hj
    have hadd : (⟨w.heap.size, 0, none⟩ : Addr).add j = ⟨w.heap.size, j, none⟩ := by unfold Addr.add; split <;> simp_all
    rw [hadd]
    by_cases hkj : k = j
    · subst hkj
      have hc := bytes_cell s C k hjs w
      rw [World.cell?_setCell_same _ _ _ hc]
      rw [setB_self]
      simp [Nat.mod_eq_of_lt hb]
    · have hc := bytes_cell s C j hjs w
      rw [World.cell?_setCell_other _ _ _ _ (by intro e; injection e; omega), hc]
      rw [setB_other s k b j hkj hjs])
  rw [hl] at this
  exact this
theorem split_at (s : ByteArray) (k : Nat) (h : k < s.size) : s.data.toList = s.data.toList.take k ++ s[k] :: s.data.toList.drop (k + 1) := by
  have h' : k < s.data.toList.length := h
  conv => lhs; rw [← List.take_append_drop k s.data.toList, List.drop_eq_getElem_cons h']
  rfl
theorem split_set (s : ByteArray) (k b : Nat) (h : k < s.size) : setB s k b = s.data.toList.take k ++ UInt8.ofNat b :: s.data.toList.drop (k + 1) := by
  have h' : k < s.data.toList.length := h
  unfold setB
  rw [List.set_eq_take_append_cons_drop, if_pos h']
set_option maxRecDepth 100000 in
set_option maxHeartbeats 1000000 in
theorem tells_of (s : ByteArray) (k b : Nat) (h : k < s.size) (hb : b < 256) (hne : (((s[k]'h).toNat : Int) == (b : Int)) = false) (A B P Q : Int) (e1 e2 : Bool)
    (hs : Hid (s.size ≤ maxLen)) (ht : Hid (((⟨(setB s k b).toArray⟩ : ByteArray)).size ≤ maxLen)) (hA : Hid (TM.print s.data.toList = (A, B))) (hP : Hid (TM.print (⟨(setB s k b).toArray⟩ : ByteArray).data.toList = (P, Q)))
    (q1 : (P == A) = e1) (q2 : (Q == B) = e2) (hq : Hid ((e1 && e2) = false)) (w : World) :
    Calls Try.prog 7 #[.string s, .int .i64 (k : Int), .int .u8 (b : Int)] w fun e w' => e = .returned (.bool true) ∧ Below w.heap.size w w' := by
  have h1 : (k : Int) < (s.size : Int) := by omega
  have h0 : ¬ (k : Int) < 0 := by omega
  have hconv : ∀ w, ∃ C, (convert 9 43 (.string s)).run Try.prog w = .ok (.slice (some ⟨w.heap.size, 0, none⟩) s.size C) (bytesW s C w) := fun w => ⟨_, run_bytes_of_string (P := Try.prog) w 9 43 5 s (by kernel_rfl) (by kernel_rfl) (by kernel_rfl)⟩
  have HC := Lib.hid hconv
  clear hconv
  go_enter Try.func7, Try.ntmps7
  go_wp2_with fail
  refine (shown_yes _).mono ?_
  rintro e w1 ⟨rfl, hf⟩
  have F1 := Lib.hid hf.below
  clear hf
  obtain ⟨C, hc⟩ := HC.out w1
  have g1 := bytes_cell s C k h w1
  have g2 := bytes_frozen s C k h w1
  have g3 := back_run s C k b hb w1
  have F2 := Lib.hid ((F1.out.trans ((bytes_below s C w1).mono F1.out.size)).setCell (p := ⟨w1.heap.size, k, none⟩) F1.out.size (.int .u8 (b : Int)))
  generalize setB s k b = L at *
  go_wp2_with fail
  refine (print_any _ ht.out P Q hP.out _).mono ?_
  rintro e w2 ⟨rfl, hf⟩
  have F3 := Lib.hid (F2.out.trans (hf.below.mono F2.out.size))
  clear hf g1 g2 g3 hc
  go_wp2_with fail
  refine (print_any s hs.out A B hA.out _).mono ?_
  rintro e w3 ⟨rfl, hf⟩
  have F4 := Lib.hid (F3.out.trans (hf.below.mono F3.out.size))
  clear hf
  clear hs ht hA hP HC
  have hq' := hq.out
  cases e1 <;> cases e2 <;> go_wp2
  all_goals first
    | (go_ret; exact ⟨rfl, F4.out⟩)
    | (exfalso; revert hq'; decide)
theorem not_both {P Q A B : Int} (h : (P, Q) ≠ (A, B)) : ((P == A) && (Q == B)) = false := by
  by_cases h1 : P = A
  · by_cases h2 : Q = B
    · exact absurd (by rw [h1, h2]) h
    · simp [h2]
  · simp [h1]
theorem tells_any (s : ByteArray) (at_ b : Int) (h0 : 0 ≤ b) (hb : b < 256) (hs : s.size ≤ maxLen) (w : World) :
    Calls Try.prog 7 #[.string s, .int .i64 at_, .int .u8 b] w fun e w' => e = .returned (.bool true) ∧ Below w.heap.size w w' := by
  by_cases hn : at_ < 0
  · exact (tells_neg s at_ b hn w).mono fun e w' h => ⟨h.1, h.2.below⟩
  obtain ⟨k, rfl⟩ : ∃ k : Nat, at_ = (k : Int) := ⟨at_.toNat, by omega⟩
  obtain ⟨c, rfl⟩ : ∃ c : Nat, b = (c : Int) := ⟨b.toNat, by omega⟩
  have hc : c < 256 := by omega
  by_cases hk : s.size ≤ k
  · exact (tells_past s k c hk w).mono fun e w' h => ⟨h.1, h.2.below⟩
  have hks : k < s.size := by omega
  by_cases he : ((s[k]'hks).toNat : Int) = (c : Int)
  · rw [← he]
    exact (tells_same s k hks w).mono fun e w' h => ⟨h.1, h.2.below⟩
  obtain ⟨A, B, hA⟩ : ∃ A B, TM.print s.data.toList = (A, B) := ⟨_, _, rfl⟩
  obtain ⟨P, Q, hP⟩ : ∃ P Q, TM.print (setB s k c) = (P, Q) := ⟨_, _, rfl⟩
  have hd : (P, Q) ≠ (A, B) := by
    intro e
    rw [← hA, ← hP, split_set s k c hks] at e
    have := TM.print_tells _ _ _ _ (e.trans (congrArg TM.print (split_at s k hks)))
    apply he
    rw [← this]
    simp [Nat.mod_eq_of_lt hc]
  have hl : (setB s k c).length = s.size := by unfold setB; rw [List.length_set]; rfl
  refine tells_of s k c hks hc (by simpa using he) A B P Q _ _ (Lib.hid hs) (Lib.hid ?_) (Lib.hid hA) (Lib.hid hP) rfl rfl (Lib.hid (not_both hd)) w
  show (setB s k c).toArray.size ≤ maxLen
  rw [List.size_toArray, hl]
  exact hs
end Go.Proofs.Ytgealgjmplmmoaa
