/- FieldTables walked: it returns true. -/
import Derived.Test.YthapmjnhnfcaeaaTo
import Derived.Test.YthapmjnhnfcaeaaRefX
namespace Go.Proofs.Ythapmjnhnfcaeaa
open Go.RowKit
/-- the tables laid into two variables -/
def twoW (w' : World) : World := (((w'.alloc (.cells (expA 0) 23)).alloc (.cells zlogA 24)).setRow w'.heap.size (expA 255)).setRow (w'.heap.size + 1) (logA 255)
theorem two_fresh {w w' : World} (h : Fresh w w') : Fresh w (twoW w') :=
  (((h.alloc _ _).alloc _ _).setRow h.below.size _).setRow (Nat.le_succ_of_le h.below.size) _
theorem two_heap (w' : World) : (twoW w').heap[w'.heap.size]? = some (.cells (expA 255) 23 (0, 0)) ∧ (twoW w').heap[w'.heap.size + 1]? = some (.cells (logA 255) 24 (0, 0)) := by
  have b0 := heap_alloc2_old w' (.cells (expA 0) 23) (.cells zlogA 24)
  have b1 := heap_alloc2_new w' (.cells (expA 0) 23) (.cells zlogA 24)
  have f1 := (setRow_other ((w'.alloc (.cells (expA 0) 23)).alloc (.cells zlogA 24)) w'.heap.size (w'.heap.size + 1) (expA 255) (by omega)).trans b1
  have f0 := setRow_heap ((w'.alloc (.cells (expA 0) 23)).alloc (.cells zlogA 24)) _ _ (expA 255) _ _ b0
  exact ⟨(setRow_other _ (w'.heap.size + 1) w'.heap.size (logA 255) (by omega)).trans f0, setRow_heap _ _ _ (logA 255) _ _ f1⟩
theorem two_mid (w' : World) : ((w'.alloc (.cells (expA 0) 23)).alloc (.cells zlogA 24)).heap[w'.heap.size]? = some (.cells (expA 0) 23 (0, 0)) ∧
    (((w'.alloc (.cells (expA 0) 23)).alloc (.cells zlogA 24)).setRow w'.heap.size (expA 255)).heap[w'.heap.size + 1]? = some (.cells zlogA 24 (0, 0)) := by
  have b0 := heap_alloc2_old w' (.cells (expA 0) 23) (.cells zlogA 24)
  have b1 := heap_alloc2_new w' (.cells (expA 0) 23) (.cells zlogA 24)
  exact ⟨b0, (setRow_other ((w'.alloc (.cells (expA 0) 23)).alloc (.cells zlogA 24)) w'.heap.size (w'.heap.size + 1) (expA 255) (by omega)).trans b1⟩
theorem two_sizes : (expA 255).size = 255 ∧ (logA 255).size = 256 ∧ (expA 0).size = 255 ∧ zlogA.size = 256 ∧ (Try.prog.info? 23).map (·.size) = some 255 ∧ (Try.prog.info? 24).map (·.size) = some 256 ∧
    (expA 255).all (·.oneCell') = true ∧ (logA 255).all (·.oneCell') = true :=
  ⟨expA_size _, logA_size _, expA_size _, by decide +kernel, by kernel_rfl, by kernel_rfl, one_exp _, one_log _⟩
theorem rlog_to (X L : Nat) (hX : X < 256) (h0 : X ≠ 0) (h : GF.lg X = L) (w : World) :
    Calls Try.prog 13 #[.int .u8 (X : Int)] w fun e w' => e = .returned (.tuple #[.int .i64 (L : Int), .int .i64 0]) ∧ w = w' := by
  subst h; exact rlog_nat X hX h0 w
set_option maxRecDepth 100000 in
set_option maxHeartbeats 1000000 in
theorem tabs_of (X L : Nat) (hX : X < 256) (h0 : X ≠ 0) (hL : L < 255) (eL : Hid (GF.lg X = L)) (eX : Hid (GF.ex L = X)) (w : World) :
    Calls Try.prog 3 #[.int .u8 (X : Int)] w fun e w' => e = .returned (.bool true) ∧ Fresh w w' := by
  have z1 := zero_exp
  have z2 := zero_log
  have ht : ((X : Int) == 0) = false := by rw [beq_eq_false_iff_ne]; omega
  have eL1 : ((L : Int) == (L : Int)) = true := beq_self_eq_true _
  have eX1 : ((X : Int) == (X : Int)) = true := beq_self_eq_true _
  have A2 := Lib.hid two_sizes
  go_enter Try.func3, Try.ntmps3
  go_wp2_with fail
  refine (shown_yes w).mono ?_
  rintro e w1 ⟨rfl, hf⟩
  have F1 := Lib.hid hf
  clear hf
  go_wp2_with fail
  refine (tables_any w1).mono ?_
  rintro e w2 ⟨rfl, hf⟩
  have F2 := Lib.hid (two_fresh (F1.out.trans hf))
  clear hf
  unfold tabE
  have A0 := Lib.hid (two_mid w2)
  have hc1 : (twoW w2).cell? ⟨w2.heap.size + 1, X, none⟩ = some (.int .i64 (L : Int)) := by
    rw [cell_of_row _ _ _ _ _ _ (two_heap w2).2, logA_get 255 X hX, if_neg h0, eL.out, if_pos hL]
  have hc2 : (twoW w2).cell? ⟨w2.heap.size, L, none⟩ = some (.int .u8 (X : Int)) := by
    rw [cell_of_row _ _ _ _ _ _ (two_heap w2).1, expA_get 255 L hL, if_pos hL, eX.out]
  go_wp2_with (first
    | (refine wpList_store_row rfl 23 (.tmp 4) (.tmp 11) rfl _ (expA 255) rfl rfl 23 (expA 0) A0.out.1 (by rw [A2.out.1]; exact A2.out.2.2.2.2.1) (by rw [A2.out.1, A2.out.2.2.1]) A2.out.2.2.2.2.2.2.1 ?_)
    | (refine wpList_store_row rfl 24 (.tmp 5) (.tmp 12) rfl _ (logA 255) rfl rfl 24 zlogA A0.out.2 (by rw [A2.out.2.1]; exact A2.out.2.2.2.2.2.1) (by rw [A2.out.2.1, A2.out.2.2.2.1]) A2.out.2.2.2.2.2.2.2 ?_))
  refine (rlog_to X L hX h0 eL.out (twoW w2)).mono ?_
  rintro e wz ⟨rfl, rfl⟩
  go_wp2
  go_ret
  exact ⟨rfl, F2.out⟩
set_option maxRecDepth 100000 in
set_option maxHeartbeats 1000000 in
theorem tabs_zero (w : World) :
    Calls Try.prog 3 #[.int .u8 0] w fun e w' => e = .returned (.bool true) ∧ Fresh w w' := by
  have z1 := zero_exp
  have z2 := zero_log
  have A2 := Lib.hid two_sizes
  go_enter Try.func3, Try.ntmps3
  go_wp2_with fail
  refine (shown_yes w).mono ?_
  rintro e w1 ⟨rfl, hf⟩
  have F1 := Lib.hid hf
  clear hf
  go_wp2_with fail
  refine (tables_any w1).mono ?_
  rintro e w2 ⟨rfl, hf⟩
  have F2 := Lib.hid (two_fresh (F1.out.trans hf))
  clear hf
  unfold tabE
  have A0 := Lib.hid (two_mid w2)
  have hc1 : (twoW w2).cell? ⟨w2.heap.size + 1, 0, none⟩ = some (.int .i64 (-1)) := by
    rw [cell_of_row _ _ _ _ _ _ (two_heap w2).2, logA_get 255 0 (by omega), if_pos rfl]
  go_wp2_with (first
    | (refine wpList_store_row rfl 23 (.tmp 4) (.tmp 11) rfl _ (expA 255) rfl rfl 23 (expA 0) A0.out.1 (by rw [A2.out.1]; exact A2.out.2.2.2.2.1) (by rw [A2.out.1, A2.out.2.2.1]) A2.out.2.2.2.2.2.2.1 ?_)
    | (refine wpList_store_row rfl 24 (.tmp 5) (.tmp 12) rfl _ (logA 255) rfl rfl 24 zlogA A0.out.2 (by rw [A2.out.2.1]; exact A2.out.2.2.2.2.2.1) (by rw [A2.out.2.1, A2.out.2.2.2.1]) A2.out.2.2.2.2.2.2.2 ?_))
  refine (rlog_zero (twoW w2)).mono ?_
  rintro e wz ⟨rfl, rfl⟩
  go_wp2
  go_ret
  exact ⟨rfl, F2.out⟩
theorem tabs_any (X : Nat) (hX : X < 256) (w : World) :
    Calls Try.prog 3 #[.int .u8 (X : Int)] w fun e w' => e = .returned (.bool true) ∧ Fresh w w' := by
  by_cases h0 : X = 0
  · subst h0; exact tabs_zero w
  · exact tabs_of X _ hX h0 (GF.lg_lt hX h0) (Lib.hid rfl) (Lib.hid (GF.ex_lg hX h0)) w
end Go.Proofs.Ythapmjnhnfcaeaa
