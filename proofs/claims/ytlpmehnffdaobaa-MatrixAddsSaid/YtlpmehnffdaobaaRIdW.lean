/- The document's Identity walked. -/
import Derived.Test.YtlpmehnffdaobaaOwn
import Derived.Test.YtlpmehnffdaobaaClosW
namespace Go.Proofs.Ytlpmehnffdaobaa
open Go.RowKit Go.Deep
set_option linter.unusedVariables false
theorem info22 : ∃ i, Try.prog.info? 38 = some i ∧ i.zero = some (.slice none 0 0) ∧ i.size = 1 ∧ i.bytes = 24 := by
  have h := info38
  cases hi : Try.prog.info? 38 with
  | none => rw [hi] at h; simp at h
  | some i =>
    rw [hi] at h
    simp at h
    exact ⟨i, rfl, h.1, h.2.1, h.2.2⟩
theorem rowB_alloc (W : World) (cs : Array Value) (m : Nat) (f : Nat → Nat) (h : ∀ j, j < m → cs[j]? = some (.int .u8 (f j : Int)) ∧ f j < 256) : RowB (W.alloc (.cells cs 5)) W.heap.size m f :=
  ⟨cs, 0, 0, blk_alloc_new _ _, h, fun j hj => by
    have hb : (W.alloc (.cells cs 5)).heap[W.heap.size]? = some (.cells cs 5 (0, 0)) := blk_alloc_new _ _
    unfold World.frozen?
    rw [show ((⟨W.heap.size, j, none⟩ : Addr).block) = W.heap.size from rfl, hb]
    simp⟩
theorem rowB_made (W : World) (n : Nat) : RowB (W.alloc (.cells (madeCells #[.int .u8 0] n) 5)) W.heap.size n (fun _ => 0) :=
  rowB_alloc W _ n _ fun j hj => ⟨by simp [madeCells, hj, Nat.mod_one], by show 0 < 256; omega⟩
/-- a place of the row that is made is set -/
theorem rid_row (W : World) (n i : Nat) (t : Value) : RowB ((W.alloc (.cells ((madeCells #[.int .u8 0] n).setIfInBounds i (.int .u8 1)) 5)).alloc (.cells #[t] 38)) W.heap.size n (idm i) := by
  have h : RowB (W.alloc (.cells ((madeCells #[.int .u8 0] n).setIfInBounds i (.int .u8 1)) 5)) W.heap.size n (idm i) := rowB_alloc W _ n _ fun j hj => by
    refine ⟨?_, idm_lt i j⟩
    rw [Array.getElem?_setIfInBounds]
    unfold idm
    by_cases e : i = j
    · subst e
      rw [if_pos rfl, if_pos (by simpa [madeCells] using hj), if_pos rfl]
      rfl
    · rw [if_neg e, if_neg e]
      simp [madeCells, hj, Nat.mod_one]
  exact h.of_block (blk_alloc_lt _ _ _ h.size)
theorem rid_below (W : World) (n i : Nat) (t : Value) : Below W.heap.size W ((W.alloc (.cells ((madeCells #[.int .u8 0] n).setIfInBounds i (.int .u8 1)) 5)).alloc (.cells #[t] 38)) :=
  ((Below.refl _ _).alloc (Nat.le_refl _) _).alloc (by simp) _
theorem two_size (W : World) (o p : Obj) : ((W.alloc o).alloc p).heap.size = W.heap.size + 1 + 1 := by
  show ((W.heap.push o).push p).size = _
  simp
theorem tmp_cell (W : World) (o : Obj) (t : Value) (ty : TypeId) : ((W.alloc o).alloc (.cells #[t] ty)).cell? ⟨W.heap.size + 1, 0, none⟩ = some t := by
  have e1 : (W.alloc o).heap.size = W.heap.size + 1 := by show (W.heap.push _).size = _; simp
  have r1 : ((W.alloc o).alloc (.cells #[t] ty)).rowIs (W.alloc o).heap.size ty 1 (fun _ => t) := World.rowIs_alloc _ #[t] ty (fun _ => t) (fun i hi => by
    have : i = 0 := by simpa using hi
    subst this; rfl)
  rw [e1] at r1
  exact r1.cell Nat.one_pos
set_option maxRecDepth 100000 in
set_option maxHeartbeats 4000000 in
theorem ridentity_no (n : Int) (h : ¬ (1 ≤ n ∧ n ≤ 32)) (w : World) : Calls Try.prog 16 #[.int .i64 n] w fun v w' => v = .returned (.tuple #[.slice none 0 0, .int .i64 1]) ∧ w' = w := by
  by_cases h1 : n < 1
  · go_enter Try.func16, Try.ntmps16
    go_wp2
    go_ret2
    exact ⟨rfl, rfl⟩
  · have h2 : 32 < n := by omega
    go_enter Try.func16, Try.ntmps16
    go_wp2
    go_ret2
    exact ⟨rfl, rfl⟩
set_option maxRecDepth 100000 in
set_option maxHeartbeats 4000000 in
theorem ridentity_yes (n : Nat) (h : 1 ≤ n ∧ n ≤ 32) (w : World) : Calls Try.prog 16 #[.int .i64 (n : Int)] w fun e w' => ∃ v G C, e = .returned (.tuple #[v, .int .i64 0]) ∧ Own w w' v n n G C idm := by
  obtain ⟨i0, hi, hz0, hz1, hz2⟩ := info22
  have hmk38 := run_make_row' (P := Try.prog) 38 5 (.int .u8 0) 1 Try.underlying38 info5 rfl .i64 .i64 n (by omega) (by omega)
  have t1 : ¬ (n : Int) < 1 := by omega
  have t2 : ¬ (32 : Int) < (n : Int) := by omega
  have t3 : (n : Int) ≤ 32 := by omega
  go_enter Try.func16, Try.ntmps16
  go_wp2
  go_loopw [4, 5] (fun v i wr => ∃ (k : Nat) (G C : Nat → Nat), k ≤ n ∧ i = .int .i64 (k : Int) ∧ Own w wr v k n G C idm) (fun _ i _ => n - (intOf i).toNat)
  case atStart => exact ⟨0, fun _ => 0, fun _ => 0, Nat.zero_le _, rfl, Own.start (Below.refl _ _) _ _ _ _⟩
  case round =>
    obtain ⟨k, G, C, hk, rfl, hO⟩ := hrel
    have HO := Lib.hid hO
    clear hO
    by_cases hkn : k < n
    · have k0 : (0 : Int) ≤ (k : Int) := by omega
      have k1 : (k : Int) < (n : Int) := by omega
      have k2 : (k : Int) ≤ 32 := by omega
      have kc : (wr.alloc (.cells (madeCells #[.int .u8 0] n) 5)).cell? ⟨wr.heap.size, k, none⟩ = some (.int .u8 0) := (rowB_made wr n).cell hkn
      have kf : (wr.alloc (.cells (madeCells #[.int .u8 0] n) 5)).frozen? ⟨wr.heap.size, k, none⟩ = false := (rowB_made wr n).frozen hkn
      have HB := Lib.hid (rid_below wr n k (.slice (some ⟨wr.heap.size, 0, none⟩) n n))
      have HR := Lib.hid (rid_row wr n k (.slice (some ⟨wr.heap.size, 0, none⟩) n n))
      go_wp2_with (first
        | (at_builtin; refine wpList_append_own _ rfl (.tmp 23) (.tmp 25) 22 rfl w.heap.size 38 i0 (.slice none 0 0) 1 24 Try.underlying22 hi hz0 hz1 hz2 rfl (by decide) _ _ _ rfl (HO.out.step HB.out).top ⟨wr.heap.size + 1, 0, none⟩ 1 1 [.slice (some ⟨wr.heap.size, 0, none⟩) n n] rfl rfl ?c1 ?c2 ?c3 ?c4 ?c5 ?_)
        | go_in)
      case c1 =>
        intro j u hj
        match j, hj with
        | 0, hj =>
          simp at hj
          subst hj
          simp [Addr.add]
      case c2 => intro u hu; simp at hu; subst hu; rfl
      case c3 => unfold maxLen; omega
      case c4 => omega
      case c5 => have := HO.out.below.size; simp; omega
      · intro v' w1 hown hgrow _
        have HP := Lib.hid (HO.out.push HB.out wr.heap.size n HO.out.below.size (fun i hi => Nat.ne_of_lt (HO.out.row i hi).2.2.2.size) ⟨Nat.le_refl _, by unfold maxLen; omega⟩ HR.out hown hgrow)
        clear hown hgrow
        go_wp2
        go_roundw
        case rel => exact ⟨k + 1, _, _, by omega, by go_num, HP.out⟩
        case measure => simp [intOf]; omega
    · have hkk : k = n := by omega
      subst hkk
      go_wp2
      go_ret2
      exact ⟨_, _, _, rfl, HO.out⟩
end Go.Proofs.Ytlpmehnffdaobaa
