/- field.Tables and field.Log walked. -/
import Derived.Test.YthapmjnhnfcaeaaPowW
import Derived.RegionTactic
import Derived.ChangeAlike
import Derived.ScopeJumps
import Derived.Test.YthapmjnhnfcaeaaFresh
import Derived.Laws.Rows
namespace Go.Proofs.Ythapmjnhnfcaeaa
open Go.RowKit
/-- the powers' table behind n rounds -/
def expL (n : Nat) : List Value := (List.range 255).map fun i => .int .u8 ((if i < n then GF.ex i else 0 : Nat) : Int)
def expA (n : Nat) : Array Value := ⟨expL n⟩
def logL (n : Nat) : List Value := (List.range 256).map fun x => .int .i64 (if x = 0 then -1 else if GF.lg x < n then ((GF.lg x : Nat) : Int) else 0)
def logA (n : Nat) : Array Value := ⟨logL n⟩
def zlogA : Array Value := ⟨(List.range 256).map fun _ => .int .i64 0⟩
theorem zero_exp (w : World) : (zeroValue 23).run Try.prog w = .ok (.agg (expA 0)) w := by kernel_rfl
theorem zero_log (w : World) : (zeroValue 24).run Try.prog w = .ok (.agg zlogA) w := by kernel_rfl
theorem logL_zero : zlogA.setIfInBounds 0 (.int .i64 (-1)) = logA 0 := by kernel_rfl
theorem expA_get (n k : Nat) (hk : k < 255) : (expA n)[k]? = some (.int .u8 ((if k < n then GF.ex k else 0 : Nat) : Int)) := by
  unfold expA expL
  simp [hk]
theorem logA_get (n x : Nat) (hx : x < 256) : (logA n)[x]? = some (.int .i64 (if x = 0 then -1 else if GF.lg x < n then ((GF.lg x : Nat) : Int) else 0)) := by
  unfold logA logL
  simp [hx]
theorem expA_size (n : Nat) : (expA n).size = 255 := by simp [expA, expL]
theorem logA_size (n : Nat) : (logA n).size = 256 := by simp [logA, logL]
theorem expA_set (n : Nat) : (expA n).setIfInBounds n (.int .u8 ((GF.ex n : Nat) : Int)) = expA (n + 1) := by
  apply Array.ext
  · simp [expA_size]
  · intro i h1 h2
    have hi : i < 255 := by rw [expA_size] at h2; exact h2
    have e2 := expA_get (n + 1) i hi
    rw [Array.getElem?_eq_getElem h2] at e2
    have h3 : i < (expA n).size := by rw [expA_size]; exact hi
    have e1 := expA_get n i hi
    rw [Array.getElem?_eq_getElem h3] at e1
    rw [Array.getElem_setIfInBounds (by simpa using h1)]
    simp only [Option.some.injEq] at e1 e2
    rw [e1, e2]
    by_cases h : n = i
    · subst h; rw [if_pos rfl, if_pos (by omega)]
    · rw [if_neg h]
      by_cases h' : i < n
      · rw [if_pos h', if_pos (by omega)]
      · rw [if_neg h', if_neg (by omega)]
theorem logA_set (n : Nat) (hn : n < 255) : (logA n).setIfInBounds (GF.ex n) (.int .i64 (n : Int)) = logA (n + 1) := by
  have hlt := GF.ex_lt n
  have hne := GF.ex_ne n
  have hlg := GF.lg_ex hn
  apply Array.ext
  · simp [logA_size]
  · intro i h1 h2
    have hi : i < 256 := by rw [logA_size] at h2; exact h2
    have e2 := logA_get (n + 1) i hi
    rw [Array.getElem?_eq_getElem h2] at e2
    have h3 : i < (logA n).size := by rw [logA_size]; exact hi
    have e1 := logA_get n i hi
    rw [Array.getElem?_eq_getElem h3] at e1
    rw [Array.getElem_setIfInBounds (by simpa using h1)]
    simp only [Option.some.injEq] at e1 e2
    rw [e1, e2]
    by_cases h : GF.ex n = i
    · subst h; rw [if_pos rfl, if_neg hne, if_pos (by omega), hlg]
    · rw [if_neg h]
      by_cases h0 : i = 0
      · rw [if_pos h0, if_pos h0]
      · rw [if_neg h0, if_neg h0]
        by_cases h' : GF.lg i < n
        · rw [if_pos h', if_pos (by omega)]
        · have : GF.lg i ≠ n := by
            intro e
            apply h
            rw [← e]; exact GF.ex_lg hi h0
          rw [if_neg h', if_neg (by omega)]
/-- the world of the tables behind n rounds -/
def tabW (w : World) (n : Nat) : World := (((w.alloc (.cells (expA 0) 23)).alloc (.cells zlogA 24)).alloc (.cells (expA n) 23)).alloc (.cells (logA n) 24)
def tabJ (w : World) (a' : Act) (w' : World) : Prop :=
  ∃ n : Nat, n < 255 ∧ w' = tabW w n ∧ ∃ u6 u7 u8 u9 u10 u11 u12 u13 u14 u15 u16 u17 u18 u19 u20 : Value,
    a' = { tmps := #[.pointer (some ⟨w.heap.size, 0, none⟩), .pointer (some ⟨w.heap.size + 1, 0, none⟩), .pointer (some ⟨w.heap.size + 1 + 1, 0, none⟩), .pointer (some ⟨w.heap.size + 1 + 1 + 1, 0, none⟩),
      .int .u8 ((GF.ex n : Nat) : Int), .int .i64 (n : Int), u6, u7, u8, u9, u10, u11, u12, u13, u14, u15, u16, u17, u18, u19, u20], defers := [] }
/-- what the tables hand back -/
def tabE : Ending := .returned (.tuple #[.agg (expA 255), .agg (logA 255)])
theorem two_eq (w : World) {A A' B B' : Array Value} (h : A = A') (k : B = B') :
    (((w.alloc (.cells (expA 0) 23)).alloc (.cells zlogA 24)).alloc (.cells A 23)).alloc (.cells B 24) = (((w.alloc (.cells (expA 0) 23)).alloc (.cells zlogA 24)).alloc (.cells A' 23)).alloc (.cells B' 24) := by rw [h, k]
theorem heap4 (w : World) (A B C D : Obj) :
    ((((w.alloc A).alloc B).alloc C).alloc D).heap[w.heap.size]? = some A ∧ ((((w.alloc A).alloc B).alloc C).alloc D).heap[w.heap.size + 1]? = some B ∧
    ((((w.alloc A).alloc B).alloc C).alloc D).heap[w.heap.size + 1 + 1]? = some C ∧ ((((w.alloc A).alloc B).alloc C).alloc D).heap[w.heap.size + 1 + 1 + 1]? = some D := by
  have h : ((((w.alloc A).alloc B).alloc C).alloc D).heap = (((w.heap.push A).push B).push C).push D := rfl
  rw [h]
  refine ⟨?_, ?_, ?_, ?_⟩ <;> simp only [Array.getElem?_push, Array.size_push] <;> (repeat (first | exact if_pos trivial | rw [if_pos (by omega)] | rw [if_neg (by omega)]))
theorem one_exp (n : Nat) : (expA n).all (·.oneCell') = true := by
  rw [Array.all_eq_true]; intro i h
  have := expA_get n i (by rw [expA_size] at h; exact h)
  rw [Array.getElem?_eq_getElem h] at this
  simp only [Option.some.injEq] at this
  rw [this]; rfl
theorem one_log (n : Nat) : (logA n).all (·.oneCell') = true := by
  rw [Array.all_eq_true]; intro i h
  have := logA_get n i (by rw [logA_size] at h; exact h)
  rw [Array.getElem?_eq_getElem h] at this
  simp only [Option.some.injEq] at this
  rw [this]; rfl
theorem tab_res (b c : Nat) (W : World) (tmps : Array Value) (h0 : tmps[0]?.getD undef = .pointer (some ⟨b, 0, none⟩)) (h1 : tmps[1]?.getD undef = .pointer (some ⟨c, 0, none⟩))
    (hg : W.heap[b]? = some (.cells (expA 255) 23 (0, 0)) ∧ W.heap[c]? = some (.cells (logA 255) 24 (0, 0)))
    (hs : (expA 255).size = 255 ∧ (logA 255).size = 256 ∧ (Try.prog.info? 23).map (·.size) = some 255 ∧ (Try.prog.info? 24).map (·.size) = some 256) :
    (results Try.f12 tmps).run Try.prog W = .ok (.tuple #[.agg (expA 255), .agg (logA 255)]) W := by
  obtain ⟨s1, s2, s3, s4⟩ := hs
  have r0 := run_loadVar_row (P := Try.prog) W b 23 23 (expA 255) (0, 0) (.array 255 5) hg.1 (by kernel_rfl) rfl (by rw [s1]; exact s3)
  have r1 := run_loadVar_row (P := Try.prog) W c 24 24 (logA 255) (0, 0) (.array 256 3) hg.2 (by kernel_rfl) rfl (by rw [s2]; exact s4)
  simp [results, Try.results12, h0, h1, asAddr, r0, r1]
theorem ex_next (n : Nat) : GF.mul (GF.ex n) 2 = GF.ex (n + 1) := by
  have := GF.ex_add n 1
  rw [show GF.ex 1 = 2 by decide] at this
  exact this
set_option maxRecDepth 100000 in
set_option maxHeartbeats 1000000 in
theorem tables_any (w : World) :
    Calls Try.prog 12 #[] w fun e w' => e = tabE ∧ Fresh w w' := by
  have z1 := zero_exp
  have z2 := zero_log
  have L0 := Lib.hid logL_zero
  go_enter Try.func12, Try.ntmps12
  go_wp2
  refine wp_scope_jumps 0 (tabJ w) (fun a' _ => 255 - (intOf (a'.tmps.getD 5 undef)).toNat) rfl ?_ ?_
  · go_wp2
    go_step3
    rw [L0.out]
    have g1 := expA_get 0 0 (by omega)
    have g2 := logA_get 0 1 (by omega)
    go_wp2_with fail
    refine (mul_nat 1 2 (by omega) (by omega) _).mono ?_
    rintro e w' ⟨rfl, rfl⟩
    go_wp2
    go_step3
    refine ⟨rfl, 1, by omega, ?_, _, _, _, _, _, _, _, _, _, _, _, _, _, _, _, rfl⟩
    exact ((two_eq w (expA_set 0) (logA_set 0 (by omega))))
  · rintro a' w' ⟨n, hn, rfl, u6, u7, u8, u9, u10, u11, u12, u13, u14, u15, u16, u17, u18, u19, u20, rfl⟩
    have g1 := expA_get n n (by omega)
    have g2 := logA_get n (GF.ex n) (GF.ex_lt n)
    have hlt := GF.ex_lt n
    unfold tabW
    by_cases hm : n + 1 < 255
    · go_wp2_with fail
      refine (mul_nat (GF.ex n) 2 hlt (by omega) _).mono ?_
      rintro e w' ⟨rfl, rfl⟩
      go_wp2
      go_step3
      rw [ex_next, show ((n : Int) + 1) = ((n + 1 : Nat) : Int) by omega]
      refine ⟨rfl, ⟨n + 1, hm, two_eq w (expA_set n) (logA_set n hn), _, _, _, _, _, _, _, _, _, _, _, _, _, _, _, rfl⟩, ?_⟩
      simp [intOf]; omega
    · go_wp2_with fail
      refine (mul_nat (GF.ex n) 2 hlt (by omega) _).mono ?_
      rintro e w' ⟨rfl, rfl⟩
      go_wp2
      rw [expA_set n, logA_set n hn, show n + 1 = 255 by omega]
      obtain ⟨W0, hW0⟩ : ∃ W0, W0 = tabW w 255 := ⟨_, rfl⟩
      obtain ⟨e0, e1, e2, e3⟩ := heap4 w (.cells (expA 0) 23) (.cells zlogA 24) (.cells (expA 255) 23) (.cells (logA 255) 24)
      have hfr : Fresh w W0 := by rw [hW0]; exact ((((Fresh.refl w).alloc _ _).alloc _ _).alloc _ _).alloc _ _
      have HF := Lib.hid hfr
      rw [show (((w.alloc (.cells (expA 0) 23)).alloc (.cells zlogA 24)).alloc (.cells (expA 255) 23)).alloc (.cells (logA 255) 24) = W0 from hW0.symm] at *
      have HW := Lib.hid hW0
      clear g1 g2 z1 z2 hW0 hfr
      have hze := expA_size 255
      have hzl := logA_size 255
      have hz0 := expA_size 0
      have hz1 : zlogA.size = 256 := by decide +kernel
      have i23 : (Try.prog.info? 23).map (·.size) = some 255 := by kernel_rfl
      have i24 : (Try.prog.info? 24).map (·.size) = some 256 := by kernel_rfl
      have hoe := one_exp 255
      have hol := one_log 255
      have f1 := (setRow_other W0.drew w.heap.size (w.heap.size + 1) (expA 255) (by omega)).trans e1
      have f3 := (setRow_other W0.drew w.heap.size (w.heap.size + 1 + 1 + 1) (expA 255) (by omega)).trans e3
      have g0 := (setRow_other (W0.drew.setRow w.heap.size (expA 255)) (w.heap.size + 1) w.heap.size (logA 255) (by omega)).trans (setRow_heap W0.drew _ _ (expA 255) _ _ e0)
      have g1 := setRow_heap (W0.drew.setRow w.heap.size (expA 255)) _ _ (logA 255) _ _ f1
      have HE := Lib.hid (((HF.out.drew).setRow (Nat.le_refl w.heap.size) (expA 255)).setRow (Nat.le_succ w.heap.size) (logA 255))
      have HG := Lib.hid (And.intro g0 g1)
      have HS := Lib.hid (And.intro hze (And.intro hzl (And.intro i23 i24)))
      refine wp_region_any (by kernel_rfl) ?_
      refine wpAny_ready (rs := [0, 1]) (by kernel_rfl) (by simp) ?_
      refine AllReady.cons rfl (fun K hK => ?_) (AllReady.cons rfl (fun K hK => ?_) AllReady.nil)
      · (rw [if_pos (by kernel_rfl)]; refine wp_load_row 23 _ rfl _ rfl 23 (expA 255) (0, 0) (.array 255 5) e2 (by kernel_rfl) rfl (by rw [hze]; exact i23) ?_; refine hK _ _ ?_; clear hK K)
        refine wpAny_ready (rs := [1, 2]) (by kernel_rfl) (by simp) ?_
        refine AllReady.cons rfl (fun K hK => ?_) (AllReady.cons rfl (fun K hK => ?_) AllReady.nil)
        · (rw [if_pos (by kernel_rfl)]; refine wp_load_row 24 _ rfl _ rfl 24 (logA 255) (0, 0) (.array 256 3) e3 (by kernel_rfl) rfl (by rw [hzl]; exact i24) ?_; refine hK _ _ ?_; clear hK K)
          refine wpAny_ready (rs := [2]) (by kernel_rfl) (by simp) ?_
          refine AllReady.cons rfl (fun K hK => ?_) AllReady.nil
          (rw [if_pos (by kernel_rfl)]; refine wp_store_row 23 _ _ rfl _ (expA 255) rfl rfl 23 (expA 0) e0 (by rw [hze]; exact i23) (by rw [hze, hz0]) hoe ?_; refine hK _ _ ?_; clear hK K)
          refine wpAny_ready (rs := [3]) (by kernel_rfl) (by simp) ?_
          refine AllReady.cons rfl (fun K hK => ?_) AllReady.nil
          (rw [if_pos (by kernel_rfl)]; refine wp_store_row 24 _ _ rfl _ (logA 255) rfl rfl 24 zlogA f1 (by rw [hzl]; exact i24) (by rw [hzl, hz1]) hol ?_; refine hK _ _ ?_; clear hK K)
          refine wpAny_done (by kernel_rfl) ?_ _
          clear hoe hol f1 f3 g0 g1 e0 e1 e2 e3 hze hzl hz0 hz1 i23 i24
          go_wp2
          simp only [Exit.jump]
          exact bodyPost_ret (v := .tuple #[.agg (expA 255), .agg (logA 255)]) (tab_res _ _ _ _ rfl rfl HG.out HS.out) rfl ⟨rfl, HE.out⟩
        · (rw [if_pos (by kernel_rfl)]; refine wp_store_row 23 _ _ rfl _ (expA 255) rfl rfl 23 (expA 0) e0 (by rw [hze]; exact i23) (by rw [hze, hz0]) hoe ?_; refine hK _ _ ?_; clear hK K)
          refine wpAny_ready (rs := [1]) (by kernel_rfl) (by simp) ?_
          refine AllReady.cons rfl (fun K hK => ?_) AllReady.nil
          (rw [if_pos (by kernel_rfl)]; refine wp_load_row 24 _ rfl _ rfl 24 (logA 255) (0, 0) (.array 256 3) f3 (by kernel_rfl) rfl (by rw [hzl]; exact i24) ?_; refine hK _ _ ?_; clear hK K)
          refine wpAny_ready (rs := [3]) (by kernel_rfl) (by simp) ?_
          refine AllReady.cons rfl (fun K hK => ?_) AllReady.nil
          (rw [if_pos (by kernel_rfl)]; refine wp_store_row 24 _ _ rfl _ (logA 255) rfl rfl 24 zlogA f1 (by rw [hzl]; exact i24) (by rw [hzl, hz1]) hol ?_; refine hK _ _ ?_; clear hK K)
          refine wpAny_done (by kernel_rfl) ?_ _
          clear hoe hol f1 f3 g0 g1 e0 e1 e2 e3 hze hzl hz0 hz1 i23 i24
          go_wp2
          simp only [Exit.jump]
          exact bodyPost_ret (v := .tuple #[.agg (expA 255), .agg (logA 255)]) (tab_res _ _ _ _ rfl rfl HG.out HS.out) rfl ⟨rfl, HE.out⟩
      · (rw [if_pos (by kernel_rfl)]; refine wp_load_row 24 _ rfl _ rfl 24 (logA 255) (0, 0) (.array 256 3) e3 (by kernel_rfl) rfl (by rw [hzl]; exact i24) ?_; refine hK _ _ ?_; clear hK K)
        refine wpAny_ready (rs := [0]) (by kernel_rfl) (by simp) ?_
        refine AllReady.cons rfl (fun K hK => ?_) AllReady.nil
        (rw [if_pos (by kernel_rfl)]; refine wp_load_row 23 _ rfl _ rfl 23 (expA 255) (0, 0) (.array 255 5) e2 (by kernel_rfl) rfl (by rw [hze]; exact i23) ?_; refine hK _ _ ?_; clear hK K)
        refine wpAny_ready (rs := [2]) (by kernel_rfl) (by simp) ?_
        refine AllReady.cons rfl (fun K hK => ?_) AllReady.nil
        (rw [if_pos (by kernel_rfl)]; refine wp_store_row 23 _ _ rfl _ (expA 255) rfl rfl 23 (expA 0) e0 (by rw [hze]; exact i23) (by rw [hze, hz0]) hoe ?_; refine hK _ _ ?_; clear hK K)
        refine wpAny_ready (rs := [3]) (by kernel_rfl) (by simp) ?_
        refine AllReady.cons rfl (fun K hK => ?_) AllReady.nil
        (rw [if_pos (by kernel_rfl)]; refine wp_store_row 24 _ _ rfl _ (logA 255) rfl rfl 24 zlogA f1 (by rw [hzl]; exact i24) (by rw [hzl, hz1]) hol ?_; refine hK _ _ ?_; clear hK K)
        refine wpAny_done (by kernel_rfl) ?_ _
        clear hoe hol f1 f3 g0 g1 e0 e1 e2 e3 hze hzl hz0 hz1 i23 i24
        go_wp2
        simp only [Exit.jump]
        exact bodyPost_ret (v := .tuple #[.agg (expA 255), .agg (logA 255)]) (tab_res _ _ _ _ rfl rfl HG.out HS.out) rfl ⟨rfl, HE.out⟩
end Go.Proofs.Ythapmjnhnfcaeaa
