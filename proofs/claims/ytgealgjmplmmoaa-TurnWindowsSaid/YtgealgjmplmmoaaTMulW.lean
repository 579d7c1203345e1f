/- turn.May and turn.Mul walked. -/
import Derived.Test.YtgealgjmplmmoaaPartW
import Derived.Deep.RegionHeld3
namespace Go.Proofs.Ytgealgjmplmmoaa
open Go.RowKit
/-- may a turn be -/
def MayT (a b : Int) : Prop := 0 ≤ a ∧ a < 8191 ∧ 0 ≤ b ∧ b < 8191
set_option maxHeartbeats 400000 in
theorem may_yes (a b : Int) (h0 : 0 ≤ a) (h1 : a < 8191) (h2 : 0 ≤ b) (h3 : b < 8191) (w : World) :
    Calls Try.prog 16 #[.agg #[.int .i64 a, .int .i64 b]] w fun e w' => e = .returned (.bool true) ∧ Fresh w w' := by
  have Hf := Lib.hid (Fresh.refl w)
  go_enter Try.func16, Try.ntmps16
  go_wp2
  go_ret
  exact ⟨rfl, Hf.out.alloc _ _⟩
set_option maxHeartbeats 400000 in
theorem may_no (a b : Int) (h : ¬ MayT a b) (w : World) :
    Calls Try.prog 16 #[.agg #[.int .i64 a, .int .i64 b]] w fun e w' => e = .returned (.bool false) ∧ Fresh w w' := by
  have Hf := Lib.hid (Fresh.refl w)
  by_cases h0 : 0 ≤ a
  · by_cases h1 : a < 8191
    · by_cases h2 : 0 ≤ b
      · have h3 : ¬ b < 8191 := fun h3 => h ⟨h0, h1, h2, h3⟩
        clear h
        go_enter Try.func16, Try.ntmps16
        go_wp2
        go_ret
        exact ⟨rfl, Hf.out.alloc _ _⟩
      · clear h
        go_enter Try.func16, Try.ntmps16
        go_wp2
        go_ret
        exact ⟨rfl, Hf.out.alloc _ _⟩
    · clear h
      go_enter Try.func16, Try.ntmps16
      go_wp2
      go_ret
      exact ⟨rfl, Hf.out.alloc _ _⟩
  · clear h
    go_enter Try.func16, Try.ntmps16
    go_wp2
    go_ret
    exact ⟨rfl, Hf.out.alloc _ _⟩
theorem cell_row {w : World} {g : Nat} {cs : Array Value} {t : TypeId} (hg : w.heap[g]? = some (.cells cs t (0, 0))) (j : Nat) : w.cell? ⟨g, j, none⟩ = cs[j]? := cell_of_row w g j cs t (0, 0) hg
/-- block g is a turn's box, and holds x, y -/
def Box (W : World) (g : Nat) (x y : Value) : Prop := W.heap[g]? = some (.cells #[x, y] 24 (0, 0))
theorem Box.c0 {W : World} {g : Nat} {x y : Value} (h : Box W g x y) : W.cell? ⟨g, 0, none⟩ = some x := cell_row h 0
theorem Box.c1 {W : World} {g : Nat} {x y : Value} (h : Box W g x y) : W.cell? ⟨g, 1, none⟩ = some y := cell_row h 1
theorem Box.f0 {W : World} {g : Nat} {x y : Value} (h : Box W g x y) (j : Nat) : W.frozen? ⟨g, j, none⟩ = false := frozen_of_row _ _ _ _ _ h
theorem Box.lt {W : World} {g : Nat} {x y : Value} (h : Box W g x y) : g < W.heap.size := (Array.getElem?_eq_some_iff.1 h).1
theorem Box.step {W W' : World} {g : Nat} {x y : Value} (h : Box W g x y) (hf : Fresh W W') : Box W' g x y := (hf.below.block g h.lt).trans h
theorem Box.drew {W : World} {g : Nat} {x y : Value} (h : Box W g x y) : Box W.drew g x y := h
theorem Box.put {W : World} {g : Nat} {x y : Value} (h : Box W g x y) (u v : Value) : Box ((W.setCell ⟨g, 0, none⟩ u).setCell ⟨g, 1, none⟩ v) g u v := by
  have h1 := heap_setCell_same W g 0 _ _ u h
  exact heap_setCell_same _ g 1 _ _ v h1
theorem Box.far {W : World} {g k : Nat} {x y : Value} (h : Box W g x y) (hk : g ≠ k) (u v : Value) : Box ((W.setCell ⟨k, 0, none⟩ u).setCell ⟨k, 1, none⟩ v) g x y := by
  have h1 := heap_setCell_other W ⟨k, 0, none⟩ g u hk
  have h2 := heap_setCell_other (W.setCell ⟨k, 0, none⟩ u) ⟨k, 1, none⟩ g v hk
  exact h2.trans (h1.trans h)
theorem fresh_put {a W : World} (h : Fresh a W) {g : Nat} (hg : a.heap.size ≤ g) (u v : Value) : Fresh a ((W.setCell ⟨g, 0, none⟩ u).setCell ⟨g, 1, none⟩ v) :=
  (h.setCell (p := ⟨g, 0, none⟩) hg u).setCell (p := ⟨g, 1, none⟩) hg v
theorem Box.alloc (W : World) (x y : Value) : Box (W.alloc (.cells #[x, y] 24)) W.heap.size x y := heap_alloc_new W _
theorem Box.old {W : World} {g : Nat} {x y : Value} (h : Box W g x y) (o : Obj) : Box (W.alloc o) g x y := (heap_alloc_old W o h.lt).trans h
/-- a result that lies in a box -/
theorem box_res {W : World} {g : Nat} {x y : Value} (h : Box W g x y) : (loadVar 24 ⟨g, 0, none⟩).run Try.prog W = .ok (.agg #[x, y]) W :=
  run_loadVar_row W g 24 24 #[x, y] (0, 0) _ h Try.underlying24 rfl (by kernel_rfl)
/-- three boxes, one behind the other, in a world that has at most grown since -/
def Three (w W : World) (a b c d : Int) : Prop :=
  Fresh w W ∧ Box W w.heap.size (.int .i64 a) (.int .i64 b) ∧ Box W (w.heap.size + 1) (.int .i64 c) (.int .i64 d) ∧ ∃ x y : Int, Box W (w.heap.size + 1 + 1) (.int .i64 x) (.int .i64 y)
/-- what the walk wants of it -/
def ThreeS (w W : World) (a b c d : Int) : Prop :=
  Three w W a b c d ∧ W.cell? ⟨w.heap.size, 0, none⟩ = some (.int .i64 a) ∧ W.cell? ⟨w.heap.size, 1, none⟩ = some (.int .i64 b) ∧
  W.cell? ⟨w.heap.size + 1, 0, none⟩ = some (.int .i64 c) ∧ W.cell? ⟨w.heap.size + 1, 1, none⟩ = some (.int .i64 d)
theorem Three.s {w W : World} {a b c d : Int} (h : Three w W a b c d) : ThreeS w W a b c d :=
  ⟨h, h.2.1.c0, h.2.1.c1, h.2.2.1.c0, h.2.2.1.c1⟩
theorem Three.step {w W W' : World} {a b c d : Int} (h : Three w W a b c d) (hf : Fresh W W') : Three w W' a b c d := by
  obtain ⟨f, x0, x1, x, y, x2⟩ := h
  exact ⟨f.trans hf, x0.step hf, x1.step hf, x, y, x2.step hf⟩
theorem Three.put {w W : World} {a b c d : Int} (h : Three w W a b c d) (u v : Int) : Three w ((W.setCell ⟨w.heap.size + 1 + 1, 0, none⟩ (.int .i64 u)).setCell ⟨w.heap.size + 1 + 1, 1, none⟩ (.int .i64 v)) a b c d := by
  obtain ⟨f, x0, x1, x, y, x2⟩ := h
  exact ⟨fresh_put f (by omega) _ _, x0.far (by omega) _ _, x1.far (by omega) _ _, u, v, x2.put _ _⟩
theorem Three.start (w : World) (a b c d : Int) : Three w (((w.alloc (.cells #[.int .i64 a, .int .i64 b] 24)).alloc (.cells #[.int .i64 c, .int .i64 d] 24)).alloc (.cells #[.int .i64 0, .int .i64 0] 24)) a b c d := by
  have e1 : (w.alloc (.cells #[.int .i64 a, .int .i64 b] 24)).heap.size = w.heap.size + 1 := by show (w.heap.push _).size = _; simp
  have e2 : ((w.alloc (.cells #[.int .i64 a, .int .i64 b] 24)).alloc (.cells #[.int .i64 c, .int .i64 d] 24)).heap.size = w.heap.size + 1 + 1 := by show ((w.heap.push _).push _).size = _; simp
  have b0 := Box.alloc w (.int .i64 a) (.int .i64 b)
  have b1 := Box.alloc (w.alloc (.cells #[.int .i64 a, .int .i64 b] 24)) (.int .i64 c) (.int .i64 d)
  have b2 := Box.alloc ((w.alloc (.cells #[.int .i64 a, .int .i64 b] 24)).alloc (.cells #[.int .i64 c, .int .i64 d] 24)) (.int .i64 0) (.int .i64 0)
  rw [e1] at b1
  rw [e2] at b2
  exact ⟨(((Fresh.refl w).alloc _ _).alloc _ _).alloc _ _, (b0.old _).old _, b1.old _, 0, 0, b2⟩
theorem cmul_run (x y z u re im : Nat) (h : cMulBits x y z u = some (re, im)) (w : World) : (binOp .mul 48 (.complex .f64 x y) (.complex .f64 z u)).run Try.prog w = .ok (.complex .f64 re im) w :=
  run_complex_mul w 48 x y z u re im h
set_option maxHeartbeats 800000 in
theorem mul_yes (a b c d : Int) (h0 : 0 ≤ a) (h1 : a < 8191) (h2 : 0 ≤ b) (h3 : b < 8191) (k0 : 0 ≤ c) (k1 : c < 8191) (k2 : 0 ≤ d) (k3 : d < 8191) (w : World) :
    Calls Try.prog 18 #[.agg #[.int .i64 a, .int .i64 b], .agg #[.int .i64 c, .int .i64 d]] w fun e w' => e = .returned (.agg #[.int .i64 ((a * c - b * d) % 8191), .int .i64 ((a * d + b * c) % 8191)]) ∧ Fresh w w' := by
  obtain ⟨re, im, hm, ire, iim⟩ := FL.is_cmul (FL.is_int a (by omega)) (FL.is_int b (by omega)) (FL.is_int c (by omega)) (FL.is_int d (by omega)) (by omega) (by omega) (by omega) (by omega)
  have hr := cmul_run _ _ _ _ _ _ hm
  have Hre := Lib.hid ire
  have Him := Lib.hid iim
  clear ire iim hm
  have HT := Lib.hid (Three.start w a b c d)
  go_enter Try.func18, Try.ntmps18
  go_wp2_with fail
  generalize hW : ((w.alloc (.cells #[.int .i64 a, .int .i64 b] 24)).alloc (.cells #[.int .i64 c, .int .i64 d] 24)).alloc (.cells #[.int .i64 0, .int .i64 0] 24) = W0 at *
  clear hW
  refine (may_yes a b h0 h1 h2 h3 _).mono ?_
  rintro e w1 ⟨rfl, hf⟩
  have HT1 := Lib.hid (HT.out.step hf)
  clear hf HT
  obtain ⟨_, c1, c2, c3, c4⟩ := HT1.out.s
  go_wp2_with fail
  refine (may_yes c d k0 k1 k2 k3 _).mono ?_
  rintro e w2 ⟨rfl, hf⟩
  have HT2 := Lib.hid (HT1.out.step hf)
  clear hf HT1 c1 c2 c3 c4
  obtain ⟨_, c1, c2, c3, c4⟩ := HT2.out.s
  go_wp2_with fail
  go_region_held3 (fun w' => Three w w' a b c d ∧ w'.cell? ⟨w.heap.size, 0, none⟩ = some (.int .i64 a) ∧ w'.cell? ⟨w.heap.size, 1, none⟩ = some (.int .i64 b) ∧
      w'.cell? ⟨w.heap.size + 1, 0, none⟩ = some (.int .i64 c) ∧ w'.cell? ⟨w.heap.size + 1, 1, none⟩ = some (.int .i64 d))
    (first
      | exact (HT2.out.step (Fresh.refl _).drew).s
      | exact HT3.out.s
      | exact (HT3.out.put _ _).s)
    (first
      | (go_at_call 24; refine (as_is _ _ _).mono ?_; rintro e w3 ⟨rfl, hf⟩; have HT3 := Lib.hid (Three.step (‹Three w _ a b c d ∧ _›).1 hf); clear hf)
      | (go_at_call 23; refine (from_is _ _ _ _ Hre.out Him.out _).mono ?_; rintro e w3 ⟨rfl, hf⟩; have HT3 := Lib.hid (Three.step (‹Three w _ a b c d ∧ _›).1 hf); clear hf; obtain ⟨_, _, _, _, _, hx⟩ := HT3.out; have Hx := Lib.hid hx; have g5 := hx.c0; have g6 := hx.c1; have g7 := hx.f0 0; have g8 := hx.f0 1; have hz3 := hx.lt; clear hx))
  go_wp2
  have hb := Hx.out.put (.int .i64 ((a * c - b * d) % 8191)) (.int .i64 ((a * d + b * c) % 8191))
  exact bodyPost_ret (v := .agg #[.int .i64 ((a * c - b * d) % 8191), .int .i64 ((a * d + b * c) % 8191)]) (by simp [results, Try.results18, asAddr, box_res hb]) rfl ⟨rfl, (HT3.out.put _ _).1⟩
set_option maxHeartbeats 800000 in
theorem mul_no (a b c d : Int) (h : ¬ MayT a b ∨ ¬ MayT c d) (w : World) :
    Calls Try.prog 18 #[.agg #[.int .i64 a, .int .i64 b], .agg #[.int .i64 c, .int .i64 d]] w fun e w' => e = .returned (.agg #[.int .i64 0, .int .i64 0]) ∧ Fresh w w' := by
  have HT := Lib.hid (Three.start w a b c d)
  have fin : ∀ W, Three w W a b c d → Three w W a b c d := fun _ h => h
  clear fin
  by_cases hm : MayT a b
  · have hn : ¬ MayT c d := h.resolve_left (fun h => h hm)
    obtain ⟨h0, h1, h2, h3⟩ := hm
    have HN := Lib.hid hn
    clear h hn
    go_enter Try.func18, Try.ntmps18
    go_wp2_with fail
    generalize hW : ((w.alloc (.cells #[.int .i64 a, .int .i64 b] 24)).alloc (.cells #[.int .i64 c, .int .i64 d] 24)).alloc (.cells #[.int .i64 0, .int .i64 0] 24) = W0 at *
    clear hW
    refine (may_yes a b h0 h1 h2 h3 _).mono ?_
    rintro e w1 ⟨rfl, hf⟩
    have HT1 := Lib.hid (HT.out.step hf)
    clear hf HT
    obtain ⟨-, c1, c2, c3, c4⟩ := HT1.out.s
    go_wp2_with fail
    refine (may_no c d HN.out _).mono ?_
    rintro e w2 ⟨rfl, hf⟩
    have HT2 := Lib.hid (HT1.out.step hf)
    clear hf HT1 c1 c2 c3 c4
    obtain ⟨-, -, -, x, y, hx⟩ := HT2.out
    have Hx := Lib.hid hx
    have g5 := hx.c0
    have g6 := hx.c1
    have g7 := hx.f0 0
    have g8 := hx.f0 1
    have hz3 := hx.lt
    clear hx
    go_wp2
    have hb := Hx.out.put (.int .i64 0) (.int .i64 0)
    exact bodyPost_ret (v := .agg #[.int .i64 0, .int .i64 0]) (by simp [results, Try.results18, asAddr, box_res hb]) rfl ⟨rfl, (HT2.out.put _ _).1⟩
  · have HN := Lib.hid hm
    clear h hm
    go_enter Try.func18, Try.ntmps18
    go_wp2_with fail
    generalize hW : ((w.alloc (.cells #[.int .i64 a, .int .i64 b] 24)).alloc (.cells #[.int .i64 c, .int .i64 d] 24)).alloc (.cells #[.int .i64 0, .int .i64 0] 24) = W0 at *
    clear hW
    refine (may_no a b HN.out _).mono ?_
    rintro e w2 ⟨rfl, hf⟩
    have HT2 := Lib.hid (HT.out.step hf)
    clear hf HT
    obtain ⟨-, -, -, x, y, hx⟩ := HT2.out
    have Hx := Lib.hid hx
    have g5 := hx.c0
    have g6 := hx.c1
    have g7 := hx.f0 0
    have g8 := hx.f0 1
    have hz3 := hx.lt
    clear hx
    go_wp2
    have hb := Hx.out.put (.int .i64 0) (.int .i64 0)
    exact bodyPost_ret (v := .agg #[.int .i64 0, .int .i64 0]) (by simp [results, Try.results18, asAddr, box_res hb]) rfl ⟨rfl, (HT2.out.put _ _).1⟩
end Go.Proofs.Ytgealgjmplmmoaa
