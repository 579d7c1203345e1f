/- The document's Mul walked. -/
import Derived.Test.YtlpmehnffdaobaaRPwW
import Derived.Test.YtlpmehnffdaobaaRMayW
namespace Go.Proofs.Ytlpmehnffdaobaa
open Go.RowKit Go.Deep
set_option linter.unusedVariables false
theorem RNM_q (X Y M : Nat) (hX : X < 256) (hY : Y < 256) (h : GF.mul X Y = M) (w : World) : Calls Try.prog 31 #[.int .u8 (X : Int), .int .u8 (Y : Int)] w fun e w' => e = .returned (.int .u8 (M : Int)) ∧ w' = w :=
  (rmul_nat X Y hX hY w).mono fun e w' k => ⟨by rw [k.1, h], k.2.symm⟩
theorem rmay_y (a : Option Addr) (r cap : Nat) (L : Nat → Nat) (M : Nat → Nat → Nat) (w : World) (hg : Grid w a r L M) (h : May r L) :
    Calls Try.prog 22 #[.slice a r cap] w fun v w' => v = .returned (.bool true) ∧ Fresh w w' := rmay_any a r cap L M w hg true ⟨fun _ => h, fun _ => rfl⟩
theorem below_drewN (W : World) (n : Nat) : Below W.heap.size W (W.drewN n) := ((Fresh.refl W).drewN n).below
set_option maxRecDepth 100000 in
set_option maxHeartbeats 4000000 in
theorem rmulx_no (a b : Option Addr) (ra rb ca cb : Nat) (LA LB : Nat → Nat) (A B : Nat → Nat → Nat) (w : World) (gA : Grid w a ra LA A) (gB : Grid w b rb LB B) (e1 e2 : Bool) (h1 : (e1 = true) ↔ May ra LA) (h2 : (e2 = true) ↔ May rb LB) (h : (e1 && e2) = false) :
    Calls Try.prog 20 #[.slice a ra ca, .slice b rb cb] w fun v w' => v = .returned (.tuple #[.slice none 0 0, .int .i64 1]) ∧ Fresh w w' := by
  have GA := Lib.hid gA
  have GB := Lib.hid gB
  have H1 := Lib.hid h1
  have H2 := Lib.hid h2
  have HE := Lib.hid h
  clear gA gB h1 h2 h
  go_enter Try.func20, Try.ntmps20
  go_wp2_with fail
  refine (rmay_any a ra ca LA A w GA.out e1 H1.out).mono ?_
  rintro e w1 ⟨rfl, hf⟩
  have F1 := Lib.hid hf
  clear hf
  go_wp2_with fail
  refine (rmay_any b rb cb LB B w1 (GB.out.step F1.out.below) e2 H2.out).mono ?_
  rintro e w2 ⟨rfl, hf⟩
  have F2 := Lib.hid (F1.out.trans hf)
  clear hf H1 H2
  have he := HE.out
  cases e1 <;> cases e2 <;> go_wp2
  all_goals first
    | (go_ret2; exact ⟨rfl, F2.out⟩)
    | (exfalso; revert he; decide)
set_option maxRecDepth 100000 in
set_option maxHeartbeats 4000000 in
theorem rmulx_c (a b : Option Addr) (ra rb ca cb : Nat) (LA LB : Nat → Nat) (A B : Nat → Nat → Nat) (w : World) (gA : Grid w a ra LA A) (gB : Grid w b rb LB B) (h1 : May ra LA) (h2 : May rb LB) (h : LA 0 ≠ rb) :
    Calls Try.prog 20 #[.slice a ra ca, .slice b rb cb] w fun v w' => v = .returned (.tuple #[.slice none 0 0, .int .i64 1]) ∧ Fresh w w' := by
  have GA := Lib.hid gA
  have GB := Lib.hid gB
  have H1 := Lib.hid h1
  have H2 := Lib.hid h2
  obtain ⟨hr, x, o, AA, C, BB, O, ha, hc⟩ := gA
  obtain rfl := ha h1.1
  have D0 := Lib.hid (hc 0 h1.1).1
  obtain ⟨l0, hl0⟩ : ∃ l, l = LA 0 := ⟨_, rfl⟩
  rw [← hl0] at h D0
  have q : ((l0 : Int) == (rb : Int)) = false := by rw [beq_eq_false_iff_ne]; omega
  have r0 : (0 : Int) < (ra : Int) := by have := h1.1; omega
  clear gB h1 h2 h ha hc hl0
  go_enter Try.func20, Try.ntmps20
  go_wp2_with fail
  refine (rmay_y _ ra ca LA A w GA.out H1.out).mono ?_
  rintro e w1 ⟨rfl, hf⟩
  have F1 := Lib.hid hf
  clear hf
  go_wp2_with fail
  refine (rmay_y b rb cb LB B w1 (GB.out.step F1.out.below) H2.out).mono ?_
  rintro e w2 ⟨rfl, hf⟩
  have F2 := Lib.hid (F1.out.trans hf)
  clear hf H1 H2
  have d0 := below_cell F2.out.below D0.out
  rw [Nat.add_zero] at d0
  go_wp2
  go_ret2
  exact ⟨rfl, F2.out⟩
set_option maxRecDepth 100000 in
set_option maxHeartbeats 8000000 in
theorem rmulx_yes (a b : Option Addr) (ra n m ca cb : Nat) (A B : Nat → Nat → Nat) (w : World) (gA : Grid w a ra (fun _ => n) A) (gB : Grid w b n (fun _ => m) B) (hA : May ra (fun _ => n)) (hB : May n (fun _ => m)) :
    Calls Try.prog 20 #[.slice a ra ca, .slice b n cb] w fun e w' => ∃ v G K, e = .returned (.tuple #[v, .int .i64 0]) ∧ Own w w' v ra m G K (mm n A B) := by
  obtain ⟨i0, hi, hz0, hz1, hz2⟩ := info22
  obtain ⟨j0, hj, hy0, hy1, hy2⟩ := infoB
  have GA := Lib.hid gA
  have GB := Lib.hid gB
  have H1 := Lib.hid hA
  have H2 := Lib.hid hB
  have hn1 : 1 ≤ n ∧ n ≤ 32 := ⟨hA.2.2.1, hB.2.1⟩
  have hm1 : 1 ≤ m ∧ m ≤ 32 := ⟨hB.2.2.1, hB.2.2.2.1⟩
  have hra : 1 ≤ ra ∧ ra ≤ 32 := ⟨hA.1, hA.2.1⟩
  obtain ⟨xa, oa, CA, BA, OA, rfl, cA⟩ := gA.at hn1.1 hra.1
  obtain ⟨xb, ob, CB, BB, OB, rfl, cB⟩ := gB.at hm1.1 hn1.1
  have CCA := Lib.hid cA
  have CCB := Lib.hid cB
  have q : ((n : Int) == (n : Int)) = true := beq_self_eq_true _
  have r0 : (0 : Int) < (ra : Int) := by omega
  have r1 : (0 : Int) < (n : Int) := by omega
  have t1 : (ra : Int) ≤ 32 := by omega
  have t2 : (n : Int) ≤ 32 := by omega
  have t3 : (m : Int) ≤ 32 := by omega
  clear gA gB hA hB cA cB
  go_enter Try.func20, Try.ntmps20
  go_wp2_with fail
  refine (rmay_y _ ra ca (fun _ => n) A w GA.out H1.out).mono ?_
  rintro e w1 ⟨rfl, hf⟩
  have F1 := Lib.hid hf
  clear hf
  go_wp2_with fail
  refine (rmay_y _ n cb (fun _ => m) B w1 (GB.out.step F1.out.below) H2.out).mono ?_
  rintro e w2 ⟨rfl, hf⟩
  have F2 := Lib.hid (F1.out.trans hf)
  clear hf H1 H2 F1
  have d0 := below_cell F2.out.below (CCA.out 0 hra.1).1
  rw [Nat.add_zero] at d0
  go_wp2
  clear d0
  go_loopw [8, 9] (fun v i wr => ∃ (k : Nat) (G K : Nat → Nat), k ≤ ra ∧ i = .int .i64 (k : Int) ∧ Own w wr v k m G K (mm n A B)) (fun _ i _ => ra - (intOf i).toNat)
  case atStart => exact ⟨0, fun _ => 0, fun _ => 0, Nat.zero_le _, rfl, Own.start F2.out.below _ _ _ _⟩
  case round =>
    obtain ⟨r, G, K, hr, rfl, hO⟩ := hrel
    have HO := Lib.hid hO
    clear hO
    by_cases hrn : r < ra
    · have k0 : (0 : Int) ≤ (r : Int) := by omega
      have k1 : (r : Int) < (ra : Int) := by omega
      have k2 : (r : Int) ≤ 32 := by omega
      go_wp2
      generalize wr = Wo at HO ⊢
      go_loopw [10, 11] (fun v i wi => ∃ c : Nat, c ≤ m ∧ i = .int .i64 (c : Int) ∧ RowOwn Wo wi v c (mm n A B r)) (fun _ i _ => m - (intOf i).toNat)
      case atStart => exact ⟨0, Nat.zero_le _, rfl, RowOwn.start _ _⟩
      case round =>
        obtain ⟨c, hc, rfl, hrow⟩ := hrel
        have HR := Lib.hid hrow
        clear hrow
        have HB0 := Lib.hid (HO.out.below.trans (HR.out.below.mono HO.out.below.size))
        have d1 := below_cell HB0.out (CCB.out 0 hn1.1).1
        rw [Nat.add_zero] at d1
        by_cases hcn : c < m
        · have c0 : (0 : Int) ≤ (c : Int) := by omega
          have c1 : (c : Int) < (m : Int) := by omega
          have c2 : (c : Int) ≤ 32 := by omega
          go_wp2
          generalize wr = Wi at HR HB0 d1 ⊢
          clear d1
          go_loopw [12, 13] (fun s12 s13 W => ∃ k d : Nat, k ≤ n ∧ s13 = .int .i64 (k : Int) ∧ s12 = .int .u8 (xs (fun k => GF.mul (A r k) (B k c)) k : Int) ∧ W = Wi.drewN d) (fun _ s13 _ => n - (intOf s13).toNat)
          case atStart => exact ⟨0, 0, Nat.zero_le _, rfl, rfl, rfl⟩
          case round =>
            obtain ⟨k, d, hk, rfl, rfl, rfl⟩ := hrel
            by_cases hkn : k < n
            · have x0 : (0 : Int) ≤ (k : Int) := by omega
              have x1 : (k : Int) < (n : Int) := by omega
              have x2 : (k : Int) ≤ 32 := by omega
              have cR := below_cell HB0.out (CCA.out r hrn).1
              obtain ⟨e1, e2⟩ := (CCA.out r hrn).2 k hkn
              have e1 := below_cell HB0.out e1
              obtain ⟨f1, f2⟩ := CCB.out k hkn
              obtain ⟨f3, f4⟩ := f2 c hcn
              have f1 := below_cell HB0.out f1
              have f3 := below_cell HB0.out f3
              obtain ⟨X, hX⟩ : ∃ X, X = A r k := ⟨_, rfl⟩
              obtain ⟨Y, hY⟩ : ∃ Y, Y = B k c := ⟨_, rfl⟩
              obtain ⟨S, hS⟩ : ∃ S, S = xs (fun k => GF.mul (A r k) (B k c)) k := ⟨_, rfl⟩
              rw [← hX] at e1 e2
              rw [← hY] at f3 f4
              rw [← hS]
              have s2 : S < 256 := by rw [hS]; exact xs_lt _ _ fun i hi => GF.mul_lt _ _ (((CCA.out r hrn).2 i (by omega)).2)
              obtain ⟨P, hP⟩ : ∃ P, GF.mul X Y = P := ⟨_, rfl⟩
              have p2 : P < 256 := by rw [← hP]; exact GF.mul_lt _ _ e2
              obtain ⟨Q, hQ⟩ : ∃ Q, S ^^^ P = Q := ⟨_, rfl⟩
              have HQ : Hid (xs (fun k => GF.mul (A r k) (B k c)) (k + 1) = Q) := Lib.hid (by rw [← hQ, ← hP, hS, hX, hY]; rfl)
              have hxor : bits .xor .u8 (S : Int) (P : Int) = (Q : Int) := by rw [bits_xor_u8 S P s2 p2, hQ]
              have HP := Lib.hid hP
              clear hP hQ hX hY hS f2
              have cR' : (Wi.drewN d).cell? ⟨xa, oa + r, none⟩ = some (.slice (some ⟨BA r, OA r, none⟩) n (CA r)) := cR
              have e1' : (Wi.drewN d).cell? ⟨BA r, OA r + k, none⟩ = some (.int .u8 (X : Int)) := e1
              have f1' : (Wi.drewN d).cell? ⟨xb, ob + k, none⟩ = some (.slice (some ⟨BB k, OB k, none⟩) m (CB k)) := f1
              have f3' : (Wi.drewN d).cell? ⟨BB k, OB k + c, none⟩ = some (.int .u8 (Y : Int)) := f3
              clear cR e1 f1 f3
              generalize hW : Wi.drewN d = W at *
              have HW := Lib.hid hW
              clear hW
              go_wp2_with fail
              go_quiet ((go_at_call 31; refine Calls.quiet_of_same (RNM_q X Y P e2 f4 HP.out _)))
              go_wp2
              go_roundw
              case rel => exact ⟨k + 1, _, by omega, by go_num, by rw [HQ.out], by rw [← HW.out, World.drewN_drewN]⟩
              case measure => simp [intOf]; omega
            · have hkk : k = n := by omega
              subst hkk
              have x1 : ¬ (k : Int) < (k : Int) := by omega
              obtain ⟨P, hP⟩ : ∃ P, xs (fun k => GF.mul (A r k) (B k c)) k = P := ⟨_, rfl⟩
              have HP : Hid (P = mm k A B r c) := Lib.hid hP.symm
              rw [hP]
              clear hP
              have HR1 := Lib.hid (HR.out.step (below_drewN Wi d))
              generalize hW : Wi.drewN d = W at *
              clear hW
              go_wp2_with (first
                | (at_builtin; refine wpList_append_own _ rfl (.tmp 68) (.tmp 70) 38 rfl Wo.heap.size 5 j0 (.int .u8 0) 1 1 Try.underlying38 hj hy0 hy1 hy2 rfl (by decide) _ _ _ rfl (HR1.out.step (one_below _ _ _)).own ⟨W.heap.size, 0, none⟩ 1 1 [.int .u8 (P : Int)] rfl rfl ?c1 ?c2 ?c3 ?c4 ?c5 ?_)
                | go_in)
              all_goals first
                | (intro v' w1 hown hgrow _
                   have HQ := Lib.hid (HR1.out.push (one_below _ _ _) hown HP.out hgrow)
                   clear hown hgrow
                   go_wp2
                   go_roundw
                   case rel => exact ⟨c + 1, by omega, by go_num, HQ.out⟩
                   case measure => simp [intOf]; omega)
                | (intro u hu; simp at hu; subst hu; rfl)
                | (unfold maxLen; omega)
                | omega
                | rfl
                | exact (by have := HR1.out.below.size; simp; omega)
                | exact one_slot (one_cell W _ _)
        · have hcc : c = m := by omega
          subst hcc
          have hlt : ¬ (c : Int) < (c : Int) := by omega
          obtain ⟨g, cap, rfl, g1, g2, g3, g4⟩ := HR.out.row (by omega) (fun j _ => xs_lt _ _ fun i hi => GF.mul_lt _ _ (((CCA.out r hrn).2 i hi).2))
          have HB := Lib.hid (HR.out.below.mono (Nat.le_refl _))
          have HB1 := Lib.hid (HB.out.trans ((one_below wr (.slice (some ⟨g, 0, none⟩) c cap) 38).mono HB.out.size))
          have HRB := Lib.hid (g4.below (w := wr) (one_below wr (.slice (some ⟨g, 0, none⟩) c cap) 38))
          have HG := Lib.hid (And.intro g1 (And.intro g2 g3))
          clear g1 g2 g3 g4 HR HB
          go_wp2_with (first
            | (at_builtin; refine wpList_append_own _ rfl (.tmp 72) (.tmp 74) 22 rfl w.heap.size 38 i0 (.slice none 0 0) 1 24 Try.underlying22 hi hz0 hz1 hz2 rfl (by decide) _ _ _ rfl (HO.out.step HB1.out).top ⟨wr.heap.size, 0, none⟩ 1 1 [.slice (some ⟨g, 0, none⟩) c cap] rfl rfl ?b1 ?b2 ?b3 ?b4 ?b5 ?_)
            | go_in)
          all_goals first
            | (intro v' w1 hown hgrow _
               have HP := Lib.hid (HO.out.push HB1.out g cap (Nat.le_trans HO.out.below.size HG.out.1) (fun i hi => Nat.ne_of_lt (Nat.lt_of_lt_of_le (HO.out.row i hi).2.2.2.size HG.out.1)) HG.out.2 HRB.out hown hgrow)
               clear hown hgrow
               go_wp2
               go_roundw
               case rel => exact ⟨r + 1, _, _, by omega, by go_num, HP.out⟩
               case measure => simp [intOf]; omega)
            | (intro u hu; simp at hu; subst hu; rfl)
            | (unfold maxLen; omega)
            | omega
            | rfl
            | exact (by have := (HO.out.step HB1.out).below.size; simpa using this)
            | exact one_slot (one_cell wr _ _)
    · have hkk : r = ra := by omega
      subst hkk
      go_wp2
      go_ret2
      exact ⟨_, _, _, rfl, HO.out⟩
end Go.Proofs.Ytlpmehnffdaobaa
