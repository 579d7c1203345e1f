/- MatrixMade walked: it returns true. -/
import Derived.Test.YtlpmehnffdaobaaAnyW
namespace Go.Proofs.Ytlpmehnffdaobaa
open Go.RowKit Go.Deep
set_option linter.unusedVariables false
theorem same_self (r : Nat) (L : Nat → Nat) (A : Nat → Nat → Nat) : ((true : Bool) = true) ↔ SameM r L A r L A := ⟨fun _ => ⟨rfl, fun _ _ => ⟨rfl, fun _ _ => rfl⟩⟩, fun _ => rfl⟩
set_option maxRecDepth 100000 in
set_option maxHeartbeats 4000000 in
theorem made_law (r c : Int) (w : World) : Calls Try.prog 4 #[.int .i64 r, .int .i64 c] w fun e w' => e = .returned (.bool true) ∧ Below w.heap.size w w' := by
  obtain ⟨z, hz⟩ : ∃ z, z = eI (1 ≤ r ∧ r ≤ 32) := ⟨_, rfl⟩
  obtain ⟨k, hk⟩ : ∃ k, k = rI (1 ≤ r ∧ r ≤ 32) r.toNat := ⟨_, rfl⟩
  obtain ⟨y, hy⟩ : ∃ y, y = eI (1 ≤ r ∧ r ≤ 32 ∧ 1 ≤ c ∧ c ≤ 32) := ⟨_, rfl⟩
  obtain ⟨m, hm⟩ : ∃ m, m = rI (1 ≤ r ∧ r ≤ 32 ∧ 1 ≤ c ∧ c ≤ 32) r.toNat := ⟨_, rfl⟩
  obtain ⟨n, hn⟩ : ∃ n, n = r.toNat := ⟨_, rfl⟩
  obtain ⟨o, ho⟩ : ∃ o, o = c.toNat := ⟨_, rfl⟩
  have C15 : Hid (∀ W, Calls Try.prog 15 #[.int .i64 r] W fun e w' => ∃ a cap, e = .returned (.tuple #[.slice a k cap, .int .i64 z]) ∧ Grid w' a k (fun _ => n) idm ∧ Below W.heap.size W w') := Lib.hid (by intro W; rw [hk, hz, hn]; exact identity_any r W)
  have C16 : Hid (∀ W, Calls Try.prog 16 #[.int .i64 r] W fun e w' => ∃ a cap, e = .returned (.tuple #[.slice a k cap, .int .i64 z]) ∧ Grid w' a k (fun _ => n) idm ∧ Below W.heap.size W w') := Lib.hid (by intro W; rw [hk, hz, hn]; exact ridentity_any r W)
  have C17 : Hid (∀ W, Calls Try.prog 17 #[.int .i64 r, .int .i64 c] W fun e w' => ∃ a cap, e = .returned (.tuple #[.slice a m cap, .int .i64 y]) ∧ Grid w' a m (fun _ => o) vdm ∧ Below W.heap.size W w') := Lib.hid (by intro W; rw [hm, hy, ho]; exact powers_any r c W)
  have C18 : Hid (∀ W, Calls Try.prog 18 #[.int .i64 r, .int .i64 c] W fun e w' => ∃ a cap, e = .returned (.tuple #[.slice a m cap, .int .i64 y]) ∧ Grid w' a m (fun _ => o) vdm ∧ Below W.heap.size W w') := Lib.hid (by intro W; rw [hm, hy, ho]; exact rpowers_any r c W)
  have z0 : 0 ≤ z ∧ z ≤ 1 := by rw [hz]; exact eI_bd _
  have y0 : 0 ≤ y ∧ y ≤ 1 := by rw [hy]; exact eI_bd _
  obtain ⟨z1, z2⟩ := z0
  obtain ⟨y1, y2⟩ := y0
  have q1 : (z == z) = true := by simp
  have q2 : (y == y) = true := by simp
  clear hz hk hy hm hn ho
  go_enter Try.func4, Try.ntmps4
  go_wp2_with fail
  refine (shown_yes w).mono ?_
  rintro e w1 ⟨rfl, hb⟩
  have B1 := Lib.hid hb
  clear hb
  go_wp2_with fail
  refine (C15.out w1).mono ?_
  rintro e w2 ⟨a, ca, rfl, hg, hb⟩
  have GA := Lib.hid hg
  have B2 := Lib.hid hb
  clear hg hb
  go_wp2_with fail
  refine (C16.out w2).mono ?_
  rintro e w3 ⟨b, cb, rfl, hg, hb⟩
  have GB := Lib.hid hg
  have B3 := Lib.hid hb
  clear hg hb
  go_wp2_with fail
  refine (C17.out w3).mono ?_
  rintro e w4 ⟨x, cx, rfl, hg, hb⟩
  have GX := Lib.hid hg
  have B4 := Lib.hid hb
  clear hg hb
  go_wp2_with fail
  refine (C18.out w4).mono ?_
  rintro e w5 ⟨v, cv, rfl, hg, hb⟩
  have GV := Lib.hid hg
  have B5 := Lib.hid hb
  clear hg hb
  go_wp2_with fail
  refine (rsame_any a b k k ca cb _ _ idm idm w5 (((((GA.out.step B3.out).step B4.out).step B5.out))) ((GB.out.step B4.out).step B5.out) true (same_self _ _ _)).mono ?_
  rintro e w6 ⟨rfl, hf⟩
  have B6 := Lib.hid hf.below
  clear hf
  go_wp2_with fail
  refine (rsame_any x v m m cx cv _ _ vdm vdm w6 ((GX.out.step B5.out).step B6.out) (GV.out.step B6.out) true (same_self _ _ _)).mono ?_
  rintro e w7 ⟨rfl, hf⟩
  have B7 := Lib.hid hf.below
  clear hf
  go_wp2
  go_ret
  have t2 := B1.out.trans (B2.out.mono B1.out.size)
  have t3 := t2.trans (B3.out.mono t2.size)
  have t4 := t3.trans (B4.out.mono t3.size)
  have t5 := t4.trans (B5.out.mono t4.size)
  have t6 := t5.trans (B6.out.mono t5.size)
  exact ⟨rfl, t6.trans (B7.out.mono t6.size)⟩
set_option maxRecDepth 100000 in
set_option maxHeartbeats 4000000 in
theorem inverts_law (a : Option Addr) (r ca : Nat) (L : Nat → Nat) (M : Nat → Nat → Nat) (w : World) (hg : Grid w a r L M) : Calls Try.prog 3 #[.slice a r ca] w fun e w' => e = .returned (.bool true) ∧ Below w.heap.size w w' := by
  have G0 := Lib.hid hg
  clear hg
  go_enter Try.func3, Try.ntmps3
  go_wp2_with fail
  refine (shown_yes w).mono ?_
  rintro e w1 ⟨rfl, hb⟩
  have B1 := Lib.hid hb
  clear hb
  go_wp2_with fail
  refine (inverse_any a r ca L M w1 (G0.out.step B1.out)).mono ?_
  rintro e w2 ⟨x, rx, cx, ex, N, rfl, hi, hg, hb⟩
  have GX := Lib.hid hg
  have B2 := Lib.hid hb
  have IX := Lib.hid hi
  obtain ⟨x1, x2, _⟩ := hi.bd
  clear hg hb hi
  go_wp2_with fail
  refine (rinverse_any a r ca L M w2 ((G0.out.step B1.out).step B2.out)).mono ?_
  rintro e w3 ⟨y, ry, cy, ey, N', rfl, hi, hg, hb⟩
  have GY := Lib.hid hg
  have B3 := Lib.hid hb
  obtain ⟨e1, e2, e3⟩ := IX.out.same hi
  have E3 := Lib.hid e3
  obtain rfl : rx = ry := e1
  obtain rfl : ex = ey := e2
  have q1 : (ex == ex) = true := by simp
  clear hg hb hi e3
  go_wp2_with fail
  refine (rsame_any x y rx rx cx cy _ _ N N' w3 (GX.out.step B3.out) GY.out true ⟨fun _ => ⟨rfl, fun i hi => ⟨rfl, fun j _ => by rw [E3.out i hi]⟩⟩, fun _ => rfl⟩).mono ?_
  rintro e w4 ⟨rfl, hf⟩
  have B4 := Lib.hid hf.below
  clear hf
  go_wp2
  go_ret
  have t2 := B1.out.trans (B2.out.mono B1.out.size)
  have t3 := t2.trans (B3.out.mono t2.size)
  exact ⟨rfl, t3.trans (B4.out.mono t3.size)⟩
end Go.Proofs.Ytlpmehnffdaobaa
