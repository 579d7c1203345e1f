/- field.Log walked. -/
import Derived.Test.YthapmjnhnfcaeaaTabW
namespace Go.Proofs.Ythapmjnhnfcaeaa
open Go.RowKit
set_option maxHeartbeats 400000 in
theorem log_zero (w : World) :
    Calls Try.prog 17 #[.int .u8 0] w fun e w' => e = .returned (.tuple #[.int .i64 0, .int .i64 1]) ∧ w = w' := by
  go_enter Try.func17, Try.ntmps17
  go_wp2
  go_ret2
  exact ⟨rfl, rfl⟩
set_option maxRecDepth 100000 in
set_option maxHeartbeats 400000 in
theorem log_nat (X : Nat) (hX : X < 256) (h0 : X ≠ 0) (w : World) :
    Calls Try.prog 17 #[.int .u8 (X : Int)] w fun e w' => e = .returned (.tuple #[.int .i64 ((GF.lg X : Nat) : Int), .int .i64 0]) ∧ Fresh w w' := by
  have z1 := zero_exp
  have z2 := zero_log
  have ht : ((X : Int) == 0) = false := by rw [beq_eq_false_iff_ne]; omega
  go_enter Try.func17, Try.ntmps17
  go_wp2_with fail
  refine (tables_any w).mono ?_
  rintro e w' ⟨rfl, hf⟩
  have HF := Lib.hid hf
  clear hf
  unfold tabE
  have b0 := heap_alloc2_old w' (.cells (expA 0) 23) (.cells zlogA 24)
  have b1 := heap_alloc2_new w' (.cells (expA 0) 23) (.cells zlogA 24)
  have hze := expA_size 255
  have hzl := logA_size 255
  have hz0 := expA_size 0
  have hz1 : zlogA.size = 256 := by decide +kernel
  have i23 : (Try.prog.info? 23).map (·.size) = some 255 := by kernel_rfl
  have i24 : (Try.prog.info? 24).map (·.size) = some 256 := by kernel_rfl
  have f1 := (setRow_other ((w'.alloc (.cells (expA 0) 23)).alloc (.cells zlogA 24)) w'.heap.size (w'.heap.size + 1) (expA 255) (by omega)).trans b1
  have g1 := setRow_heap (((w'.alloc (.cells (expA 0) 23)).alloc (.cells zlogA 24)).setRow w'.heap.size (expA 255)) _ _ (logA 255) _ _ f1
  have hge := logA_get 255 X hX
  have hfin : Fresh w ((((w'.alloc (.cells (expA 0) 23)).alloc (.cells zlogA 24)).setRow w'.heap.size (expA 255)).setRow (w'.heap.size + 1) (logA 255)) :=
    (((HF.out.alloc _ _).alloc _ _).setRow HF.out.below.size _).setRow (Nat.le_succ_of_le HF.out.below.size) _
  have HN := Lib.hid hfin
  have A0 := Lib.hid b0
  have A1 := Lib.hid f1
  have A2 := Lib.hid (And.intro hze (And.intro hzl (And.intro hz0 (And.intro hz1 (And.intro i23 (And.intro i24 (And.intro (one_exp 255) (one_log 255))))))))
  have hc : ((((w'.alloc (.cells (expA 0) 23)).alloc (.cells zlogA 24)).setRow w'.heap.size (expA 255)).setRow (w'.heap.size + 1) (logA 255)).cell? ⟨w'.heap.size + 1, X, none⟩ = some (.int .i64 ((GF.lg X : Nat) : Int)) := by
    rw [cell_of_row _ _ _ _ _ _ g1, hge, if_neg h0, if_pos (GF.lg_lt hX h0)]
  clear b0 b1 hze hzl hz0 hz1 i23 i24 f1 g1 hge hfin
  go_wp2_with (first
    | (refine wpList_store_row rfl 23 (.tmp 4) (.tmp 10) rfl _ (expA 255) rfl rfl 23 (expA 0) A0.out (by rw [A2.out.1]; exact A2.out.2.2.2.2.1) (by rw [A2.out.1, A2.out.2.2.1]) A2.out.2.2.2.2.2.2.1 ?_)
    | (refine wpList_store_row rfl 24 (.tmp 5) (.tmp 11) rfl _ (logA 255) rfl rfl 24 zlogA A1.out (by rw [A2.out.2.1]; exact A2.out.2.2.2.2.2.1) (by rw [A2.out.2.1, A2.out.2.2.2.1]) A2.out.2.2.2.2.2.2.2 ?_))
  go_ret2
  exact ⟨rfl, HN.out⟩
end Go.Proofs.Ythapmjnhnfcaeaa
