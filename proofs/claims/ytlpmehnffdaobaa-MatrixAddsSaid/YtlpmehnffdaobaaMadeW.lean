/- matrix.made walked, at each of its closures. -/
import Derived.Test.YtlpmehnffdaobaaMadeM
namespace Go.Proofs.Ytlpmehnffdaobaa
open Go.RowKit
set_option maxRecDepth 100000 in
set_option maxHeartbeats 4000000 in
theorem made_34 (R Cn : Nat) (hR : R ≤ 32) (hC : Cn ≤ 32) (Z : Nat → Nat → Nat) (w : World)
    (HC : Hid (∀ W : World, Fresh w W → ∀ r c, r < R → c < Cn → Calls Try.prog 34 #[.int .i64 (r : Int), .int .i64 (c : Int)] W fun e w' => e = .returned (.int .u8 (Z r c : Int)) ∧ ∃ k, w' = W.drewN k)) :
    Calls Try.prog 33 #[.int .i64 (R : Int), .int .i64 (Cn : Int), .func (.func 34) #[] #[]] w fun e w' => e = .returned (.slice (some ⟨w.heap.size, 0, none⟩) R R) ∧ Outer w w' R (fun _ => Cn) R Z := by
  have hmk22 := run_make_row' (P := Try.prog) 22 38 (.slice none 0 0) 24 Try.underlying22 info38 rfl .i64 .i64 R (by omega) (by omega)
  have hmk38 := run_make_row' (P := Try.prog) 38 5 (.int .u8 0) 1 Try.underlying38 info5 rfl .i64 .i64 Cn (by omega) (by omega)
  have hC3 : (Cn : Int) ≤ 32 := by omega
  have hR3 : (R : Int) ≤ 32 := by omega
  go_enter Try.func33, Try.ntmps33
  go_wp2
  clear hmk22
  go_loopg [13] R (fun g i wr => ∃ r : Nat, r ≤ R ∧ g = R - r ∧ i = .int .i64 r ∧ Outer w wr R (fun _ => Cn) r Z)
  case atStart => exact ⟨0, Nat.zero_le _, rfl, rfl, outer_start w R _ Z⟩
  case round =>
    obtain ⟨r, hr, rfl, rfl, hO⟩ := hrel
    by_cases hrG : r < R
    · have hrz : (r : Int) < (R : Int) := by omega
      have hsize := hO.size
      have hst1 : ∀ o, (wr.alloc o).cell? ⟨w.heap.size, r, none⟩ = some (top w.heap.size (fun _ => Cn) r r) := fun o => (hO.top.alloc o).cell hrG
      have hst2 : ∀ o, (wr.alloc o).frozen? ⟨w.heap.size, r, none⟩ = false := fun o => (hO.top.alloc o).frozen r
      go_wp2
      have hI0 := inner_start hO
      clear hst1 hst2 hsize hO
      go_loopg [22] Cn (fun g i wi => ∃ c : Nat, c ≤ Cn ∧ g = Cn - c ∧ i = .int .i64 c ∧ Inner w wi R (fun _ => Cn) r c Z)
      case atStart => exact ⟨0, Nat.zero_le _, rfl, rfl, hI0⟩
      case round =>
        obtain ⟨c, hc, rfl, rfl, hI⟩ := hrel
        clear hI0
        by_cases hcL : c < Cn
        · have hcz : (c : Int) < (Cn : Int) := by omega
          have t1 : wr.cell? ⟨w.heap.size, r, none⟩ = some (.slice (some ⟨w.heap.size + 1 + r, 0, none⟩) Cn Cn) := by simpa [top] using hI.top.cell hrG
          have t4 : wr.cell? ⟨w.heap.size + 1 + r, c, none⟩ = some (.int .u8 0) := by simpa using hI.cur.cell hcL
          have t5 : wr.frozen? ⟨w.heap.size + 1 + r, c, none⟩ = false := hI.cur.frozen c
          go_wp2_with fail
          have HI := Lib.hid hI
          clear hI
          go_region_with (go_at_call 34; refine (HC.out _ (HI.out.fresh.drew) r c hrG hcL).mono ?_; rintro e w4 ⟨rfl, k, rfl⟩)
          all_goals
            have HP := Lib.hid (inner_put (inner_drewN HI.out (1 + k)))
            go_wp2
            go_roundg (Cn - (c + 1))
            case measure => omega
            case rel => exact ⟨c + 1, by omega, rfl, by go_num, HP.out⟩
        · have hcc : c = Cn := by omega
          subst hcc
          have hO' := inner_done hI
          go_wp2
          go_roundg (R - (r + 1))
          case measure => omega
          case rel => exact ⟨r + 1, by omega, rfl, by go_num, hO'⟩
    · have hrr : r = R := by omega
      subst hrr
      go_wp2
      go_ret
      exact ⟨rfl, hO⟩
set_option maxRecDepth 100000 in
set_option maxHeartbeats 4000000 in
theorem made_35 (R Cn : Nat) (hR : R ≤ 32) (hC : Cn ≤ 32) (Z : Nat → Nat → Nat) (w : World)
    (HC : Hid (∀ W : World, Fresh w W → ∀ r c, r < R → c < Cn → Calls Try.prog 35 #[.int .i64 (r : Int), .int .i64 (c : Int)] W fun e w' => e = .returned (.int .u8 (Z r c : Int)) ∧ ∃ k, w' = W.drewN k)) :
    Calls Try.prog 33 #[.int .i64 (R : Int), .int .i64 (Cn : Int), .func (.func 35) #[] #[]] w fun e w' => e = .returned (.slice (some ⟨w.heap.size, 0, none⟩) R R) ∧ Outer w w' R (fun _ => Cn) R Z := by
  have hmk22 := run_make_row' (P := Try.prog) 22 38 (.slice none 0 0) 24 Try.underlying22 info38 rfl .i64 .i64 R (by omega) (by omega)
  have hmk38 := run_make_row' (P := Try.prog) 38 5 (.int .u8 0) 1 Try.underlying38 info5 rfl .i64 .i64 Cn (by omega) (by omega)
  have hC3 : (Cn : Int) ≤ 32 := by omega
  have hR3 : (R : Int) ≤ 32 := by omega
  go_enter Try.func33, Try.ntmps33
  go_wp2
  clear hmk22
  go_loopg [13] R (fun g i wr => ∃ r : Nat, r ≤ R ∧ g = R - r ∧ i = .int .i64 r ∧ Outer w wr R (fun _ => Cn) r Z)
  case atStart => exact ⟨0, Nat.zero_le _, rfl, rfl, outer_start w R _ Z⟩
  case round =>
    obtain ⟨r, hr, rfl, rfl, hO⟩ := hrel
    by_cases hrG : r < R
    · have hrz : (r : Int) < (R : Int) := by omega
      have hsize := hO.size
      have hst1 : ∀ o, (wr.alloc o).cell? ⟨w.heap.size, r, none⟩ = some (top w.heap.size (fun _ => Cn) r r) := fun o => (hO.top.alloc o).cell hrG
      have hst2 : ∀ o, (wr.alloc o).frozen? ⟨w.heap.size, r, none⟩ = false := fun o => (hO.top.alloc o).frozen r
      go_wp2
      have hI0 := inner_start hO
      clear hst1 hst2 hsize hO
      go_loopg [22] Cn (fun g i wi => ∃ c : Nat, c ≤ Cn ∧ g = Cn - c ∧ i = .int .i64 c ∧ Inner w wi R (fun _ => Cn) r c Z)
      case atStart => exact ⟨0, Nat.zero_le _, rfl, rfl, hI0⟩
      case round =>
        obtain ⟨c, hc, rfl, rfl, hI⟩ := hrel
        clear hI0
        by_cases hcL : c < Cn
        · have hcz : (c : Int) < (Cn : Int) := by omega
          have t1 : wr.cell? ⟨w.heap.size, r, none⟩ = some (.slice (some ⟨w.heap.size + 1 + r, 0, none⟩) Cn Cn) := by simpa [top] using hI.top.cell hrG
          have t4 : wr.cell? ⟨w.heap.size + 1 + r, c, none⟩ = some (.int .u8 0) := by simpa using hI.cur.cell hcL
          have t5 : wr.frozen? ⟨w.heap.size + 1 + r, c, none⟩ = false := hI.cur.frozen c
          go_wp2_with fail
          have HI := Lib.hid hI
          clear hI
          go_region_with (go_at_call 35; refine (HC.out _ (HI.out.fresh.drew) r c hrG hcL).mono ?_; rintro e w4 ⟨rfl, k, rfl⟩)
          all_goals
            have HP := Lib.hid (inner_put (inner_drewN HI.out (1 + k)))
            go_wp2
            go_roundg (Cn - (c + 1))
            case measure => omega
            case rel => exact ⟨c + 1, by omega, rfl, by go_num, HP.out⟩
        · have hcc : c = Cn := by omega
          subst hcc
          have hO' := inner_done hI
          go_wp2
          go_roundg (R - (r + 1))
          case measure => omega
          case rel => exact ⟨r + 1, by omega, rfl, by go_num, hO'⟩
    · have hrr : r = R := by omega
      subst hrr
      go_wp2
      go_ret
      exact ⟨rfl, hO⟩
set_option maxRecDepth 100000 in
set_option maxHeartbeats 4000000 in
theorem made_38 (R Cn : Nat) (hR : R ≤ 32) (hC : Cn ≤ 32) (p q : Value) (Z : Nat → Nat → Nat) (w : World)
    (HC : Hid (∀ W : World, Fresh w W → ∀ r c, r < R → c < Cn → Calls Try.prog 38 #[.int .i64 (r : Int), .int .i64 (c : Int), p, q] W fun e w' => e = .returned (.int .u8 (Z r c : Int)) ∧ ∃ k, w' = W.drewN k)) :
    Calls Try.prog 33 #[.int .i64 (R : Int), .int .i64 (Cn : Int), .func (.func 38) #[] #[p, q]] w fun e w' => e = .returned (.slice (some ⟨w.heap.size, 0, none⟩) R R) ∧ Outer w w' R (fun _ => Cn) R Z := by
  have hmk22 := run_make_row' (P := Try.prog) 22 38 (.slice none 0 0) 24 Try.underlying22 info38 rfl .i64 .i64 R (by omega) (by omega)
  have hmk38 := run_make_row' (P := Try.prog) 38 5 (.int .u8 0) 1 Try.underlying38 info5 rfl .i64 .i64 Cn (by omega) (by omega)
  have hC3 : (Cn : Int) ≤ 32 := by omega
  have hR3 : (R : Int) ≤ 32 := by omega
  go_enter Try.func33, Try.ntmps33
  go_wp2
  clear hmk22
  go_loopg [13] R (fun g i wr => ∃ r : Nat, r ≤ R ∧ g = R - r ∧ i = .int .i64 r ∧ Outer w wr R (fun _ => Cn) r Z)
  case atStart => exact ⟨0, Nat.zero_le _, rfl, rfl, outer_start w R _ Z⟩
  case round =>
    obtain ⟨r, hr, rfl, rfl, hO⟩ := hrel
    by_cases hrG : r < R
    · have hrz : (r : Int) < (R : Int) := by omega
      have hsize := hO.size
      have hst1 : ∀ o, (wr.alloc o).cell? ⟨w.heap.size, r, none⟩ = some (top w.heap.size (fun _ => Cn) r r) := fun o => (hO.top.alloc o).cell hrG
      have hst2 : ∀ o, (wr.alloc o).frozen? ⟨w.heap.size, r, none⟩ = false := fun o => (hO.top.alloc o).frozen r
      go_wp2
      have hI0 := inner_start hO
      clear hst1 hst2 hsize hO
      go_loopg [22] Cn (fun g i wi => ∃ c : Nat, c ≤ Cn ∧ g = Cn - c ∧ i = .int .i64 c ∧ Inner w wi R (fun _ => Cn) r c Z)
      case atStart => exact ⟨0, Nat.zero_le _, rfl, rfl, hI0⟩
      case round =>
        obtain ⟨c, hc, rfl, rfl, hI⟩ := hrel
        clear hI0
        by_cases hcL : c < Cn
        · have hcz : (c : Int) < (Cn : Int) := by omega
          have t1 : wr.cell? ⟨w.heap.size, r, none⟩ = some (.slice (some ⟨w.heap.size + 1 + r, 0, none⟩) Cn Cn) := by simpa [top] using hI.top.cell hrG
          have t4 : wr.cell? ⟨w.heap.size + 1 + r, c, none⟩ = some (.int .u8 0) := by simpa using hI.cur.cell hcL
          have t5 : wr.frozen? ⟨w.heap.size + 1 + r, c, none⟩ = false := hI.cur.frozen c
          go_wp2_with fail
          have HI := Lib.hid hI
          clear hI
          go_region_with (go_at_call 38; refine (HC.out _ (HI.out.fresh.drew) r c hrG hcL).mono ?_; rintro e w4 ⟨rfl, k, rfl⟩)
          all_goals
            have HP := Lib.hid (inner_put (inner_drewN HI.out (1 + k)))
            go_wp2
            go_roundg (Cn - (c + 1))
            case measure => omega
            case rel => exact ⟨c + 1, by omega, rfl, by go_num, HP.out⟩
        · have hcc : c = Cn := by omega
          subst hcc
          have hO' := inner_done hI
          go_wp2
          go_roundg (R - (r + 1))
          case measure => omega
          case rel => exact ⟨r + 1, by omega, rfl, by go_num, hO'⟩
    · have hrr : r = R := by omega
      subst hrr
      go_wp2
      go_ret
      exact ⟨rfl, hO⟩
end Go.Proofs.Ytlpmehnffdaobaa
