/- matrix.Mul walked. -/
import Derived.Test.YtlpmehnffdaobaaMulXW
import Derived.Test.YtlpmehnffdaobaaMayW
import Derived.Deep.RegionWith
import Derived.Deep.RegionHeld3
set_option linter.unusedVariables false
namespace Go.Proofs.Ytlpmehnffdaobaa
open Go.RowKit
theorem may_q (a : Option Addr) (r cap : Nat) (L : Nat → Nat) (M : Nat → Nat → Nat) (w : World) (hg : Grid w a r L M) (e : Bool) (he : (e = true) ↔ May r L) :
    Calls Try.prog 21 #[.slice a r cap] w fun v w' => v = .returned (.bool e) ∧ w' = w :=
  (may_any a r cap L M w hg e he).mono fun e w' k => ⟨k.1, k.2.symm⟩
def MayFact (W : World) (a : Option Addr) (r : Nat) (e : Bool) : Prop := ∃ L M, Grid W a r L M ∧ ((e = true) ↔ May r L)
theorem may_q2 (a : Option Addr) (r cap : Nat) (w : World) (e : Bool) (h : MayFact w a r e) : Calls Try.prog 21 #[.slice a r cap] w fun v w' => v = .returned (.bool e) ∧ w' = w := by
  obtain ⟨L, M, hg, he⟩ := h
  exact may_q a r cap L M w hg e he
theorem MayFact.drewN {w : World} {a : Option Addr} {r : Nat} {e : Bool} (h : MayFact w a r e) (n : Nat) : MayFact (w.drewN n) a r e := h
theorem Grid.drewN {w : World} {a : Option Addr} {r : Nat} {L : Nat → Nat} {M : Nat → Nat → Nat} (h : Grid w a r L M) (n : Nat) : Grid (w.drewN n) a r L M := h
theorem gA_lt {w : World} {a : Option Addr} {r : Nat} {L : Nat → Nat} {M : Nat → Nat → Nat} (h : Grid w a r L M) (i : Nat) (hi : i < r) (j : Nat) (hj : j < L i) : M i j < 256 := by
  obtain ⟨hr, b, o, A, C, B, O, ha, hc⟩ := h
  exact ((hc i hi).2.2.2 j hj).2
/-- the two boxes of a call's arguments -/
theorem boxes (w : World) (x y : Value) (t : TypeId) : Fresh w ((w.alloc (.cells #[x] t)).alloc (.cells #[y] t)) ∧ ((w.alloc (.cells #[x] t)).alloc (.cells #[y] t)).cell? ⟨w.heap.size, 0, none⟩ = some x ∧ ((w.alloc (.cells #[x] t)).alloc (.cells #[y] t)).cell? ⟨w.heap.size + 1, 0, none⟩ = some y := by
  have r0 : (w.alloc (.cells #[x] t)).rowIs w.heap.size t 1 (fun _ => x) := World.rowIs_alloc w #[x] t (fun _ => x) (fun i hi => by
    have : i = 0 := by simpa using hi
    subst this; rfl)
  have r1 : ((w.alloc (.cells #[x] t)).alloc (.cells #[y] t)).rowIs (w.alloc (.cells #[x] t)).heap.size t 1 (fun _ => y) := World.rowIs_alloc _ #[y] t (fun _ => y) (fun i hi => by
    have : i = 0 := by simpa using hi
    subst this; rfl)
  have e1 : (w.alloc (.cells #[x] t)).heap.size = w.heap.size + 1 := by show (w.heap.push _).size = _; simp
  rw [e1] at r1
  exact ⟨((Fresh.refl w).alloc _ _).alloc _ _, (r0.alloc _).cell Nat.one_pos, r1.cell Nat.one_pos⟩
set_option maxRecDepth 100000 in
set_option maxHeartbeats 4000000 in
theorem mulx_a (a b : Option Addr) (ra rb ca cb : Nat) (LA LB : Nat → Nat) (A B : Nat → Nat → Nat) (w : World) (gA : Grid w a ra LA A) (h : ¬ May ra LA) :
    Calls Try.prog 19 #[.slice a ra ca, .slice b rb cb] w fun v w' => v = .returned (.tuple #[.slice none 0 0, .int .i64 1]) ∧ Fresh w w' := by
  obtain ⟨f0, c0, c1⟩ := boxes w (.slice a ra ca) (.slice b rb cb) 22
  have F0 := Lib.hid f0
  have GA := Lib.hid (gA.step f0.below)
  have hfalse : Hid ((false = true) ↔ May ra LA) := Lib.hid ⟨(fun k => absurd k (by decide)), (fun k => absurd k h)⟩
  have MA : Hid (MayFact _ a ra false) := Lib.hid ⟨_, _, GA.out, hfalse.out⟩
  clear f0 gA h
  go_enter Try.func19, Try.ntmps19
  go_wp2_with fail
  generalize hW : (w.alloc (.cells #[.slice a ra ca] 22)).alloc (.cells #[.slice b rb cb] 22) = W at *
  clear hW
  go_quiet ((go_at_call 21; refine Calls.quiet_of_same (may_q2 _ _ _ _ _ (by exact MA.out.drewN _))))
  go_wp2
  go_ret2
  exact ⟨rfl, F0.out.drewN _⟩
set_option maxRecDepth 100000 in
set_option maxHeartbeats 4000000 in
theorem mulx_b (a b : Option Addr) (ra rb ca cb : Nat) (LA LB : Nat → Nat) (A B : Nat → Nat → Nat) (w : World) (gA : Grid w a ra LA A) (gB : Grid w b rb LB B) (hA : May ra LA) (h : ¬ May rb LB) :
    Calls Try.prog 19 #[.slice a ra ca, .slice b rb cb] w fun v w' => v = .returned (.tuple #[.slice none 0 0, .int .i64 1]) ∧ Fresh w w' := by
  obtain ⟨f0, c0, c1⟩ := boxes w (.slice a ra ca) (.slice b rb cb) 22
  have F0 := Lib.hid f0
  have GA := Lib.hid (gA.step f0.below)
  have GB := Lib.hid (gB.step f0.below)
  have htrue : Hid ((true = true) ↔ May ra LA) := Lib.hid ⟨fun _ => hA, fun _ => rfl⟩
  have hfalse : Hid ((false = true) ↔ May rb LB) := Lib.hid ⟨(fun k => absurd k (by decide)), (fun k => absurd k h)⟩
  have MA : Hid (MayFact _ a ra true) := Lib.hid ⟨_, _, GA.out, htrue.out⟩
  have MB : Hid (MayFact _ b rb false) := Lib.hid ⟨_, _, GB.out, hfalse.out⟩
  clear f0 gA gB h hA
  go_enter Try.func19, Try.ntmps19
  go_wp2_with fail
  generalize hW : (w.alloc (.cells #[.slice a ra ca] 22)).alloc (.cells #[.slice b rb cb] 22) = W at *
  clear hW
  go_quiet ((go_at_call 21; refine Calls.quiet_of_same (may_q2 _ _ _ _ _ (by first | exact MA.out.drewN _ | exact MB.out.drewN _))))
  go_wp2
  go_ret2
  exact ⟨rfl, F0.out.drewN _⟩
set_option maxRecDepth 100000 in
set_option maxHeartbeats 4000000 in
theorem mulx_c (a b : Option Addr) (ra rb ca cb : Nat) (LA LB : Nat → Nat) (A B : Nat → Nat → Nat) (w : World) (gA : Grid w a ra LA A) (gB : Grid w b rb LB B) (hA : May ra LA) (hB : May rb LB) (h : LA 0 ≠ rb) :
    Calls Try.prog 19 #[.slice a ra ca, .slice b rb cb] w fun v w' => v = .returned (.tuple #[.slice none 0 0, .int .i64 1]) ∧ Fresh w w' := by
  obtain ⟨f0, c0, c1⟩ := boxes w (.slice a ra ca) (.slice b rb cb) 22
  have F0 := Lib.hid f0
  have GA := Lib.hid (gA.step f0.below)
  have GB := Lib.hid (gB.step f0.below)
  have htrue : Hid ((true = true) ↔ May ra LA) := Lib.hid ⟨fun _ => hA, fun _ => rfl⟩
  have htrue2 : Hid ((true = true) ↔ May rb LB) := Lib.hid ⟨fun _ => hB, fun _ => rfl⟩
  have MA : Hid (MayFact _ a ra true) := Lib.hid ⟨_, _, GA.out, htrue.out⟩
  have MB : Hid (MayFact _ b rb true) := Lib.hid ⟨_, _, GB.out, htrue2.out⟩
  obtain ⟨hr, x, o, AA, C, BB, O, ha, hc⟩ := gA.step f0.below
  obtain rfl := ha hA.1
  have d0 := (hc 0 hA.1).1
  rw [Nat.add_zero] at d0
  obtain ⟨l0, hl0⟩ : ∃ l, l = LA 0 := ⟨_, rfl⟩
  rw [← hl0] at d0 h
  have q : ((l0 : Int) == (rb : Int)) = false := by rw [beq_eq_false_iff_ne]; omega
  have r0 : (0 : Int) < (ra : Int) := by have := hA.1; omega
  clear f0 gA gB h hA hB ha hc hl0
  go_enter Try.func19, Try.ntmps19
  go_wp2_with fail
  generalize hW : (w.alloc (.cells #[.slice (some ⟨x, o, none⟩) ra ca] 22)).alloc (.cells #[.slice b rb cb] 22) = W at *
  clear hW
  go_quiet ((go_at_call 21; refine Calls.quiet_of_same (may_q2 _ _ _ _ _ (by first | exact MA.out.drewN _ | exact MB.out.drewN _))))
  go_wp2
  go_ret2
  exact ⟨rfl, F0.out.drewN _⟩
set_option maxRecDepth 100000 in
set_option maxHeartbeats 4000000 in
theorem mulx_yes (a b : Option Addr) (ra n m ca cb : Nat) (A B : Nat → Nat → Nat) (w : World) (gA : Grid w a ra (fun _ => n) A) (gB : Grid w b n (fun _ => m) B) (hA : May ra (fun _ => n)) (hB : May n (fun _ => m)) :
    Calls Try.prog 19 #[.slice a ra ca, .slice b n cb] w fun v w' => ∃ x, v = .returned (.tuple #[.slice (some x) ra ra, .int .i64 0]) ∧ Grid w' (some x) ra (fun _ => m) (mm n A B) ∧ Fresh w w' := by
  obtain ⟨f0, c0, c1⟩ := boxes w (.slice a ra ca) (.slice b n cb) 22
  have F0 := Lib.hid f0
  have C0 := Lib.hid c0
  have C1 := Lib.hid c1
  have GA := Lib.hid (gA.step f0.below)
  have GB := Lib.hid (gB.step f0.below)
  have HMA := Lib.hid hA
  have HMB := Lib.hid hB
  have hn1 : 1 ≤ n := hA.2.2.1
  have hm1 : 1 ≤ m := hB.2.2.1
  have ra1 : 1 ≤ ra := hA.1
  have htrue : Hid ((true = true) ↔ May ra (fun _ => n)) := Lib.hid ⟨fun _ => hA, fun _ => rfl⟩
  have htrue2 : Hid ((true = true) ↔ May n (fun _ => m)) := Lib.hid ⟨fun _ => hB, fun _ => rfl⟩
  have MA : Hid (MayFact _ a ra true) := Lib.hid ⟨_, _, GA.out, htrue.out⟩
  have MB : Hid (MayFact _ b n true) := Lib.hid ⟨_, _, GB.out, htrue2.out⟩
  obtain ⟨xa, oa, CA, BA, OA, rfl, cA⟩ := (gA.step f0.below).at hn1 ra1
  obtain ⟨xb, ob, CB, BB, OB, rfl, cB⟩ := (gB.step f0.below).at hm1 hn1
  have d0 := (cA 0 ra1).1
  have d1 := (cB 0 hn1).1
  rw [Nat.add_zero] at d0 d1
  have q : ((n : Int) == (n : Int)) = true := beq_self_eq_true _
  have r0 : (0 : Int) < (ra : Int) := by omega
  have r1 : (0 : Int) < (n : Int) := by omega
  have r2 : 0 < n := hn1
  have hmf : ∀ (fn : Fn) (first cap : Array Value) (w : World), (Instr.makeFunc fn first cap).run Try.prog w = .ok (.func fn first cap) w := fun _ _ _ _ => rfl
  have hgb : Hid (ra ≤ 32 ∧ n ≤ 32 ∧ m ≤ 32) := Lib.hid ⟨hA.2.1, hB.2.1, hB.2.2.2.1⟩
  clear f0 gA gB hA hB cA cB
  go_enter Try.func19, Try.ntmps19
  go_wp2_with fail
  generalize hW : (w.alloc (.cells #[.slice (some ⟨xa, oa, none⟩) ra ca] 22)).alloc (.cells #[.slice (some ⟨xb, ob, none⟩) n cb] 22) = W at *
  clear hW
  go_quiet ((go_at_call 21; refine Calls.quiet_of_same (may_q2 _ _ _ _ _ (by first | exact MA.out.drewN _ | exact MB.out.drewN _))))
  have HCall : ∀ W0, Fresh W W0 → Hid (∀ W1 : World, Fresh W0 W1 → ∀ r c, r < ra → c < m → Calls Try.prog 38 #[.int .i64 (r : Int), .int .i64 (c : Int), .pointer (some ⟨w.heap.size + 1, 0, none⟩), .pointer (some ⟨w.heap.size, 0, none⟩)] W1 fun e w' => e = .returned (.int .u8 (mm n A B r c : Int)) ∧ ∃ k, w' = W1.drewN k) :=
    fun W0 f0 => Lib.hid fun W1 f1 r c hr hc => dot_any (w.heap.size + 1) w.heap.size ra ca n m cb _ _ A B W1 (below_cell (f0.trans f1).below C1.out) (below_cell (f0.trans f1).below C0.out) (GA.out.step (f0.trans f1).below) (GB.out.step (f0.trans f1).below) ⟨hn1, hgb.out.2.1⟩ r c hr hgb.out.1 hc hgb.out.2.2
  have HCH := Lib.hid HCall
  clear HCall
  go_wp2_with fail
  have D1 := Lib.hid d1
  have hS : ∀ W', Fresh W W' → Hid (Fresh W W' ∧ W'.cell? ⟨w.heap.size, 0, none⟩ = some (.slice (some ⟨xa, oa, none⟩) ra ca) ∧ W'.cell? ⟨w.heap.size + 1, 0, none⟩ = some (.slice (some ⟨xb, ob, none⟩) n cb) ∧ W'.cell? ⟨xb, ob, none⟩ = some (.slice (some ⟨BB 0, OB 0, none⟩) m (CB 0))) :=
    fun W' f => Lib.hid ⟨f, below_cell f.below C0.out, below_cell f.below C1.out, below_cell f.below D1.out⟩
  have HS := Lib.hid hS
  clear hS
  go_region_held3 (fun W' => Fresh W W' ∧ W'.cell? ⟨w.heap.size, 0, none⟩ = some (.slice (some ⟨xa, oa, none⟩) ra ca) ∧ W'.cell? ⟨w.heap.size + 1, 0, none⟩ = some (.slice (some ⟨xb, ob, none⟩) n cb) ∧ W'.cell? ⟨xb, ob, none⟩ = some (.slice (some ⟨BB 0, OB 0, none⟩) m (CB 0)))
    (first
      | exact (HS.out _ ((Fresh.refl W).drewN _)).out
      | exact (HS.out _ (((Fresh.refl W).drewN _).drew)).out
      | exact (HS.out _ HO.out.1).out)
    ((go_at_call 33; refine (made_38 ra m hgb.out.1 hgb.out.2.2 _ _ (mm n A B) _ (HCH.out _ (‹Fresh W _ ∧ _›).1)).mono ?_; rintro e w4 ⟨rfl, hO⟩; have HO := Lib.hid (And.intro ((‹Fresh W _ ∧ _›).1.trans hO.fresh) hO); clear hO))
  all_goals
    go_wp2
    go_ret2
    refine ⟨_, rfl, HO.out.2.grid hgb.out.1 hgb.out.2.2 (fun r hr c hc => xs_lt _ _ fun i hi => GF.mul_lt _ _ ?_), ?_⟩
    · exact gA_lt GA.out r hr i hi
    · exact F0.out.trans HO.out.1
end Go.Proofs.Ytlpmehnffdaobaa
