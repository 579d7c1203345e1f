/- MatrixAdds walked: it returns true. -/
import Derived.Test.YtlpmehnffdaobaaBrackW
import Derived.Deep.RegionHeld3
import Derived.Deep.QuietTactic
import Derived.BigQuiet
namespace Go.Proofs.Ytlpmehnffdaobaa
open Go.RowKit Go.Deep
set_option linter.unusedVariables false
def sumF (P Q : Nat → Nat → Nat) (i j : Nat) : Nat := P i j ^^^ Q i j
theorem sumF_lt {P Q : Nat → Nat → Nat} (i j : Nat) (h1 : P i j < 256) (h2 : Q i j < 256) : sumF P Q i j < 256 := GF.xor_lt h1 h2
theorem one_byte {n : Int} : ∀ u ∈ ([.int .u8 n] : List Value), u.oneCell' = true := by
  intro u hu
  simp at hu
  subst hu
  rfl
theorem add_math {w : World} {a : Option Addr} {ra rb m : Nat} {A B C : Nat → Nat → Nat} (gA : Grid w a ra (fun _ => rb) A) (i : Nat) (hi : i < ra) (j : Nat) (hj : j < m) : mm rb A (sumF B C) i j = sumF (mm rb A B) (mm rb A C) i j := by
  unfold sumF
  rw [mm_mp, mm_mp, mm_mp]
  exact LA.mp_add (n := m) (grid_bytes gA) i j hi hj
set_option maxRecDepth 100000 in
set_option maxHeartbeats 8000000 in
theorem adds_yes (a b c : Option Addr) (ra rb m ca cb cc : Nat) (A B C : Nat → Nat → Nat) (w : World) (gA : Grid w a ra (fun _ => rb) A) (gB : Grid w b rb (fun _ => m) B) (gC : Grid w c rb (fun _ => m) C) (hA : May ra (fun _ => rb)) (hB : May rb (fun _ => m)) :
    Calls Try.prog 9 #[.slice a ra ca, .slice b rb cb, .slice c rb cc] w fun e w' => e = .returned (.bool true) ∧ Below w.heap.size w w' := by
  obtain ⟨KA, hKA⟩ : ∃ KA : Nat → Nat, KA = fun _ => rb := ⟨_, rfl⟩
  have O3 : Hid (MulOk ra KA rb (fun _ => m)) := Lib.hid (by rw [hKA]; exact ⟨hA, hB, rfl⟩)
  have GA : Hid (Grid w a ra KA A) := Lib.hid (by rw [hKA]; exact gA)
  have GB := Lib.hid gB
  have GC := Lib.hid gC
  have HADD : Hid (∀ i, i < ra → ∀ j, j < m → mm rb A (sumF B C) i j = sumF (mm rb A B) (mm rb A C) i j) := Lib.hid fun i hi j hj => add_math (m := m) gA i hi j hj
  have r1 : 1 ≤ ra := hA.1
  have r2 : ra ≤ 32 := hA.2.1
  have r3 : 1 ≤ rb := hB.1
  have r4 : rb ≤ 32 := hB.2.1
  have r5 : 1 ≤ m := hB.2.2.1
  have r6 : m ≤ 32 := hB.2.2.2.1
  have i2 : (ra : Int) ≤ 32 := by omega
  have i4 : (rb : Int) ≤ 32 := by omega
  have i6 : (m : Int) ≤ 32 := by omega
  have z4 : (0 : Int) < (rb : Int) := by omega
  have z5 : 0 < rb := r3
  have q : ((m : Int) != (m : Int)) = false := by simp
  obtain ⟨pb, po, PC, PB, PO, rfl, cP⟩ := gB.at r5 r3
  obtain ⟨qb, qo, QC, QB, QO, rfl, cQ⟩ := gC.at r5 r3
  have HCP := Lib.hid cP
  have HCQ := Lib.hid cQ
  obtain ⟨i0, hi, hz0, hz1, hz2⟩ := info22
  obtain ⟨j0, hj, hy0, hy1, hy2⟩ := infoB
  clear gA gB gC hA hB cP cQ hKA
  go_enter Try.func9, Try.ntmps9
  go_wp2_with fail
  refine (shown_yes w).mono ?_
  rintro e w1 ⟨rfl, hb⟩
  have B1 := Lib.hid hb
  clear hb
  go_wp2_with fail
  refine (mul_ok a _ ra rb ca cb KA _ A B w1 (GA.out.step B1.out) (GB.out.step B1.out) O3.out).mono ?_
  rintro e w2 ⟨x, cx, rfl, hgx, hb⟩
  have B2 := Lib.hid (B1.out.trans (hb.mono B1.out.size))
  have X2 := Lib.hid hgx
  clear hgx hb
  go_wp2_with fail
  refine (mul_ok a _ ra rb ca cc KA _ A C w2 (GA.out.step B2.out) (GC.out.step B2.out) O3.out).mono ?_
  rintro e w3 ⟨y, cy, rfl, hgy, hb⟩
  have B3 := Lib.hid (B2.out.trans (hb.mono B2.out.size))
  obtain ⟨yb, yo, YC, YB, YO, rfl, cY⟩ := hgy.at r5 r1
  obtain ⟨xb, xo, XC, XB, XO, rfl, cX⟩ := (X2.out.step hb).at r5 r1
  have HX := Lib.hid cX
  have HY := Lib.hid cY
  have GA3 := Lib.hid (GA.out.step B3.out)
  have HB0 : Hid (∀ i, i < rb → w3.cell? ⟨pb, po + i, none⟩ = some (.slice (some ⟨PB i, PO i, none⟩) m (PC i)) ∧ ∀ j, j < m → w3.cell? ⟨PB i, PO i + j, none⟩ = some (.int .u8 (B i j : Int)) ∧ B i j < 256) := Lib.hid fun i hi => ⟨below_cell B3.out (HCP.out i hi).1, fun j hj => ⟨below_cell B3.out ((HCP.out i hi).2 j hj).1, ((HCP.out i hi).2 j hj).2⟩⟩
  have HC0 : Hid (∀ i, i < rb → w3.cell? ⟨qb, qo + i, none⟩ = some (.slice (some ⟨QB i, QO i, none⟩) m (QC i)) ∧ ∀ j, j < m → w3.cell? ⟨QB i, QO i + j, none⟩ = some (.int .u8 (C i j : Int)) ∧ C i j < 256) := Lib.hid fun i hi => ⟨below_cell B3.out (HCQ.out i hi).1, fun j hj => ⟨below_cell B3.out ((HCQ.out i hi).2 j hj).1, ((HCQ.out i hi).2 j hj).2⟩⟩
  have d0 := (HB0.out 0 r3).1
  have d1 := (HC0.out 0 r3).1
  rw [Nat.add_zero] at d0 d1
  clear hgy hb cX cY
  go_wp2_with fail
  go_quiet (fail)
  go_wp2
  clear d0 d1
  have HBD : Hid (∀ i, i < rb → (w3.drewN nq).cell? ⟨pb, po + i, none⟩ = some (.slice (some ⟨PB i, PO i, none⟩) m (PC i)) ∧ ∀ j, j < m → (w3.drewN nq).cell? ⟨PB i, PO i + j, none⟩ = some (.int .u8 (B i j : Int)) ∧ B i j < 256) := Lib.hid HB0.out
  have HCD : Hid (∀ i, i < rb → (w3.drewN nq).cell? ⟨qb, qo + i, none⟩ = some (.slice (some ⟨QB i, QO i, none⟩) m (QC i)) ∧ ∀ j, j < m → (w3.drewN nq).cell? ⟨QB i, QO i + j, none⟩ = some (.int .u8 (C i j : Int)) ∧ C i j < 256) := Lib.hid HC0.out
  have HXD : Hid (∀ i, i < ra → (w3.drewN nq).cell? ⟨xb, xo + i, none⟩ = some (.slice (some ⟨XB i, XO i, none⟩) m (XC i)) ∧ ∀ j, j < m → (w3.drewN nq).cell? ⟨XB i, XO i + j, none⟩ = some (.int .u8 (mm rb A B i j : Int)) ∧ mm rb A B i j < 256) := Lib.hid HX.out
  have HYD : Hid (∀ i, i < ra → (w3.drewN nq).cell? ⟨yb, yo + i, none⟩ = some (.slice (some ⟨YB i, YO i, none⟩) m (YC i)) ∧ ∀ j, j < m → (w3.drewN nq).cell? ⟨YB i, YO i + j, none⟩ = some (.int .u8 (mm rb A C i j : Int)) ∧ mm rb A C i j < 256) := Lib.hid HY.out
  have GAD := Lib.hid (GA3.out.drewN nq)
  have B3D := Lib.hid (B3.out.trans ((below_drewN w3 nq).mono B3.out.size))
  clear HB0 HC0 HX HY GA3 B3 X2 B2 B1 GB GC
  generalize w3.drewN nq = wd at *
  go_loopw [12, 13] (fun v i wr => ∃ (k : Nat) (G K : Nat → Nat), k ≤ rb ∧ i = .int .i64 (k : Int) ∧ Own wd wr v k m G K (sumF B C)) (fun _ i _ => rb - (intOf i).toNat)
  case atStart => exact ⟨0, fun _ => 0, fun _ => 0, Nat.zero_le _, rfl, Own.start (Below.refl _ _) _ _ _ _⟩
  case round =>
    obtain ⟨k, G, K, hk, rfl, hO⟩ := hrel
    have HO := Lib.hid hO
    clear hO
    by_cases hkn : k < rb
    · have k0 : (0 : Int) ≤ (k : Int) := by omega
      have k1 : (k : Int) < (rb : Int) := by omega
      have k2 : (k : Int) ≤ 32 := by omega
      go_wp2
      generalize wr = Wo at HO ⊢
      go_loopw [14, 15] (fun v i wi => ∃ c : Nat, c ≤ m ∧ i = .int .i64 (c : Int) ∧ RowOwn Wo wi v c (sumF B C k)) (fun _ i _ => m - (intOf i).toNat)
      case atStart => exact ⟨0, Nat.zero_le _, rfl, RowOwn.start _ _⟩
      case round =>
        obtain ⟨c, hc, rfl, hr⟩ := hrel
        have HR := Lib.hid hr
        have HBW := Lib.hid (HO.out.below.trans (hr.below.mono HO.out.below.size))
        clear hr
        have dP := below_cell HBW.out (HBD.out k hkn).1
        by_cases hcn : c < m
        · have c0 : (0 : Int) ≤ (c : Int) := by omega
          have c1 : (c : Int) < (m : Int) := by omega
          have c2 : (c : Int) ≤ 32 := by omega
          obtain ⟨X, hX⟩ : ∃ X, X = B k c := ⟨_, rfl⟩
          obtain ⟨Y, hY⟩ : ∃ Y, Y = C k c := ⟨_, rfl⟩
          have HS : Hid (∀ W', Below wd.heap.size wd W' → W'.cell? ⟨pb, po + k, none⟩ = some (.slice (some ⟨PB k, PO k, none⟩) m (PC k)) ∧ W'.cell? ⟨PB k, PO k + c, none⟩ = some (.int .u8 (X : Int)) ∧ W'.cell? ⟨qb, qo + k, none⟩ = some (.slice (some ⟨QB k, QO k, none⟩) m (QC k)) ∧ W'.cell? ⟨QB k, QO k + c, none⟩ = some (.int .u8 (Y : Int))) :=
            Lib.hid fun W' f => ⟨below_cell f (HBD.out k hkn).1, by rw [hX]; exact below_cell f ((HBD.out k hkn).2 c hcn).1, below_cell f (HCD.out k hkn).1, by rw [hY]; exact below_cell f ((HCD.out k hkn).2 c hcn).1⟩
          have b1 : X < 256 := by rw [hX]; exact ((HBD.out k hkn).2 c hcn).2
          have b2 : Y < 256 := by rw [hY]; exact ((HCD.out k hkn).2 c hcn).2
          obtain ⟨V, hV⟩ : ∃ V, X ^^^ Y = V := ⟨_, rfl⟩
          have hxor : bits .xor .u8 (X : Int) (Y : Int) = (V : Int) := by rw [bits_xor_u8 X Y b1 b2, hV]
          have HV : Hid (V = sumF B C k c) := Lib.hid (by unfold sumF; rw [← hX, ← hY, hV])
          have HB1 : Hid (Below wr.heap.size wr (wr.alloc (.cells #[.int .u8 (V : Int)] 5)).drew) := Lib.hid (one_below wr _ 5).drew
          have HW1 : Hid (Below wd.heap.size wd (wr.alloc (.cells #[.int .u8 (V : Int)] 5)).drew) := Lib.hid (HBW.out.trans (HB1.out.mono HBW.out.size))
          have HNW : Hid ((wr.alloc (.cells #[.int .u8 (V : Int)] 5)).drew.cell? ⟨wr.heap.size, 0, none⟩ = some (.int .u8 (V : Int))) := Lib.hid (one_cell wr _ 5)
          have HQ4 : Hid (c + 1 ≤ maxLen) := Lib.hid (by unfold maxLen; omega)
          have HQ5 : Hid ((c + 1) * 1 ≤ 140737488355328) := Lib.hid (by omega)
          have HQ6 : Hid (Wo.heap.size ≤ (wr.alloc (.cells #[.int .u8 (V : Int)] 5)).drew.heap.size) := Lib.hid (alloc_le HR.out.below.size _)
          have HOW := Lib.hid (HR.out.step HB1.out).own
          clear hX hY hV
          go_wp2_with fail
          clear dP
          go_region_held3 (fun W' => Below wd.heap.size wd W' ∧ W'.cell? ⟨pb, po + k, none⟩ = some (.slice (some ⟨PB k, PO k, none⟩) m (PC k)) ∧ W'.cell? ⟨PB k, PO k + c, none⟩ = some (.int .u8 (X : Int)) ∧ W'.cell? ⟨qb, qo + k, none⟩ = some (.slice (some ⟨QB k, QO k, none⟩) m (QC k)) ∧ W'.cell? ⟨QB k, QO k + c, none⟩ = some (.int .u8 (Y : Int)))
            (first
              | exact ⟨HBW.out.drew, HS.out _ HBW.out.drew⟩
              | exact ⟨HW1.out, HS.out _ HW1.out⟩
              | exact ⟨HX5.out, HS.out _ HX5.out⟩)
            ((refine step_append_lies _ (by rfl) _ _ _ (by rfl) Wo.heap.size 5 j0 (.int .u8 0) 1 1 Try.underlying38 hj hy0 hy1 hy2 rfl (by decide) _ _ _ (by rfl) HOW.out ⟨wr.heap.size, 0, none⟩ 1 1 [.int .u8 (V : Int)] (by rfl) (by rfl) (one_slot HNW.out) one_byte Nat.one_pos HQ4.out HQ5.out HQ6.out (wr.heap.size + 1) (alloc_size wr _) ?_
              intro g5 cap5 w5 hown5 hgrow5 hat5 hlt5
              have HP5 := Lib.hid (HR.out.push HB1.out hown5 HV.out hgrow5)
              have HX5 := Lib.hid (HO.out.below.trans (HP5.out.below.mono HO.out.below.size))
              clear hown5 hgrow5 hat5 hlt5))
          go_wp2
          go_roundw
          case rel => exact ⟨c + 1, by omega, by go_num, HP5.out⟩
          case measure => simp [intOf]; omega
        · obtain rfl : m = c := by omega
          have hlt : ¬ (m : Int) < (m : Int) := by omega
          obtain ⟨g, cap, rfl, g1, g2, g3, g4⟩ := HR.out.row (by omega) (fun j hj => sumF_lt _ _ ((HBD.out k hkn).2 j hj).2 ((HCD.out k hkn).2 j hj).2)
          have HB := Lib.hid (HR.out.below.mono (Nat.le_refl _))
          have HB1 := Lib.hid (HB.out.trans ((one_below wr (.slice (some ⟨g, 0, none⟩) m cap) 38).mono HB.out.size))
          have HRB := Lib.hid (g4.below (w := wr) (one_below wr (.slice (some ⟨g, 0, none⟩) m cap) 38))
          have HG := Lib.hid (And.intro g1 (And.intro g2 g3))
          clear g1 g2 g3 g4 HR
          go_wp2_with (first
            | (at_builtin; refine wpList_append_own _ rfl (.tmp 87) (.tmp 89) 22 rfl wd.heap.size 38 i0 (.slice none 0 0) 1 24 Try.underlying22 hi hz0 hz1 hz2 rfl (by decide) _ _ _ rfl (HO.out.step HB1.out).top ⟨wr.heap.size, 0, none⟩ 1 1 [.slice (some ⟨g, 0, none⟩) m cap] rfl rfl ?e1 ?e2 ?e3 ?e4 ?e5 ?_)
            | go_in)
          all_goals first
            | (intro v' w1 hown hgrow _
               have HP := Lib.hid (HO.out.push HB1.out g cap (Nat.le_trans HO.out.below.size HG.out.1) (fun i hi => Nat.ne_of_lt (Nat.lt_of_lt_of_le (HO.out.row i hi).2.2.2.size HG.out.1)) HG.out.2 HRB.out hown hgrow)
               clear hown hgrow
               go_wp2
               go_roundw
               case rel => exact ⟨k + 1, _, _, by omega, by go_num, HP.out⟩
               case measure => simp [intOf]; omega)
            | rfl
            | (unfold maxLen; omega)
            | omega
            | exact (by have := (HO.out.step HB1.out).below.size; simpa using this)
            | exact one_slot (one_cell wr _ _)
            | (intro u hu; simp at hu; subst hu; rfl)
    · obtain rfl : rb = k := by omega
      have hlt0 : ¬ (rb : Int) < (rb : Int) := by omega
      go_wp2_with fail
      obtain ⟨gs, caps, rfl, hgs⟩ := HO.out.grid (by omega) (by unfold maxLen; omega)
      have HGS := Lib.hid hgs
      have HBS := Lib.hid HO.out.below
      clear hgs
      refine (mul_ok a _ ra rb ca caps KA _ A _ wr (GAD.out.step HBS.out) HGS.out O3.out).mono ?_
      rintro e w5 ⟨z, cz, rfl, hgz, hb⟩
      have HZ := Lib.hid hgz
      have B35 := Lib.hid (HBS.out.trans (hb.mono HBS.out.size))
      have B5 := Lib.hid (B3D.out.trans (B35.out.mono B3D.out.size))
      have HX0 : Hid (∀ i, i < ra → w5.cell? ⟨xb, xo + i, none⟩ = some (.slice (some ⟨XB i, XO i, none⟩) m (XC i)) ∧ ∀ j, j < m → w5.cell? ⟨XB i, XO i + j, none⟩ = some (.int .u8 (mm rb A B i j : Int)) ∧ mm rb A B i j < 256) := Lib.hid fun i hi => ⟨below_cell B35.out (HXD.out i hi).1, fun j hj => ⟨below_cell B35.out ((HXD.out i hi).2 j hj).1, ((HXD.out i hi).2 j hj).2⟩⟩
      have HY0 : Hid (∀ i, i < ra → w5.cell? ⟨yb, yo + i, none⟩ = some (.slice (some ⟨YB i, YO i, none⟩) m (YC i)) ∧ ∀ j, j < m → w5.cell? ⟨YB i, YO i + j, none⟩ = some (.int .u8 (mm rb A C i j : Int)) ∧ mm rb A C i j < 256) := Lib.hid fun i hi => ⟨below_cell B35.out (HYD.out i hi).1, fun j hj => ⟨below_cell B35.out ((HYD.out i hi).2 j hj).1, ((HYD.out i hi).2 j hj).2⟩⟩
      clear hgz hb HO hk hkn hlt0
      go_wp2
      go_loopw [18, 19] (fun v i wr => ∃ (k : Nat) (G K : Nat → Nat), k ≤ ra ∧ i = .int .i64 (k : Int) ∧ Own w5 wr v k m G K (sumF (mm rb A B) (mm rb A C))) (fun _ i _ => ra - (intOf i).toNat)
      case atStart => exact ⟨0, fun _ => 0, fun _ => 0, Nat.zero_le _, rfl, Own.start (Below.refl _ _) _ _ _ _⟩
      case round =>
        obtain ⟨k, G, K, hk, rfl, hO⟩ := hrel
        have HO := Lib.hid hO
        clear hO
        by_cases hkn : k < ra
        · have k0 : (0 : Int) ≤ (k : Int) := by omega
          have k1 : (k : Int) < (ra : Int) := by omega
          have k2 : (k : Int) ≤ 32 := by omega
          go_wp2
          generalize wr = Wo at HO ⊢
          go_loopw [20, 21] (fun v i wi => ∃ c : Nat, c ≤ m ∧ i = .int .i64 (c : Int) ∧ RowOwn Wo wi v c (sumF (mm rb A B) (mm rb A C) k)) (fun _ i _ => m - (intOf i).toNat)
          case atStart => exact ⟨0, Nat.zero_le _, rfl, RowOwn.start _ _⟩
          case round =>
            obtain ⟨c, hc, rfl, hr⟩ := hrel
            have HR := Lib.hid hr
            have HBW := Lib.hid (HO.out.below.trans (hr.below.mono HO.out.below.size))
            clear hr
            have dP := below_cell HBW.out (HX0.out k hkn).1
            by_cases hcn : c < m
            · have c0 : (0 : Int) ≤ (c : Int) := by omega
              have c1 : (c : Int) < (m : Int) := by omega
              have c2 : (c : Int) ≤ 32 := by omega
              obtain ⟨X, hX⟩ : ∃ X, X = (mm rb A B) k c := ⟨_, rfl⟩
              obtain ⟨Y, hY⟩ : ∃ Y, Y = (mm rb A C) k c := ⟨_, rfl⟩
              have HS : Hid (∀ W', Below w5.heap.size w5 W' → W'.cell? ⟨xb, xo + k, none⟩ = some (.slice (some ⟨XB k, XO k, none⟩) m (XC k)) ∧ W'.cell? ⟨XB k, XO k + c, none⟩ = some (.int .u8 (X : Int)) ∧ W'.cell? ⟨yb, yo + k, none⟩ = some (.slice (some ⟨YB k, YO k, none⟩) m (YC k)) ∧ W'.cell? ⟨YB k, YO k + c, none⟩ = some (.int .u8 (Y : Int))) :=
                Lib.hid fun W' f => ⟨below_cell f (HX0.out k hkn).1, by rw [hX]; exact below_cell f ((HX0.out k hkn).2 c hcn).1, below_cell f (HY0.out k hkn).1, by rw [hY]; exact below_cell f ((HY0.out k hkn).2 c hcn).1⟩
              have b1 : X < 256 := by rw [hX]; exact ((HX0.out k hkn).2 c hcn).2
              have b2 : Y < 256 := by rw [hY]; exact ((HY0.out k hkn).2 c hcn).2
              obtain ⟨V, hV⟩ : ∃ V, X ^^^ Y = V := ⟨_, rfl⟩
              have hxor : bits .xor .u8 (X : Int) (Y : Int) = (V : Int) := by rw [bits_xor_u8 X Y b1 b2, hV]
              have HV : Hid (V = sumF (mm rb A B) (mm rb A C) k c) := Lib.hid (by unfold sumF; rw [← hX, ← hY, hV])
              have HB1 : Hid (Below wr.heap.size wr (wr.alloc (.cells #[.int .u8 (V : Int)] 5)).drew) := Lib.hid (one_below wr _ 5).drew
              have HW1 : Hid (Below w5.heap.size w5 (wr.alloc (.cells #[.int .u8 (V : Int)] 5)).drew) := Lib.hid (HBW.out.trans (HB1.out.mono HBW.out.size))
              have HNW : Hid ((wr.alloc (.cells #[.int .u8 (V : Int)] 5)).drew.cell? ⟨wr.heap.size, 0, none⟩ = some (.int .u8 (V : Int))) := Lib.hid (one_cell wr _ 5)
              have HQ4 : Hid (c + 1 ≤ maxLen) := Lib.hid (by unfold maxLen; omega)
              have HQ5 : Hid ((c + 1) * 1 ≤ 140737488355328) := Lib.hid (by omega)
              have HQ6 : Hid (Wo.heap.size ≤ (wr.alloc (.cells #[.int .u8 (V : Int)] 5)).drew.heap.size) := Lib.hid (alloc_le HR.out.below.size _)
              have HOW := Lib.hid (HR.out.step HB1.out).own
              clear hX hY hV
              go_wp2_with fail
              clear dP
              go_region_held3 (fun W' => Below w5.heap.size w5 W' ∧ W'.cell? ⟨xb, xo + k, none⟩ = some (.slice (some ⟨XB k, XO k, none⟩) m (XC k)) ∧ W'.cell? ⟨XB k, XO k + c, none⟩ = some (.int .u8 (X : Int)) ∧ W'.cell? ⟨yb, yo + k, none⟩ = some (.slice (some ⟨YB k, YO k, none⟩) m (YC k)) ∧ W'.cell? ⟨YB k, YO k + c, none⟩ = some (.int .u8 (Y : Int)))
                (first
                  | exact ⟨HBW.out.drew, HS.out _ HBW.out.drew⟩
                  | exact ⟨HW1.out, HS.out _ HW1.out⟩
                  | exact ⟨HX5.out, HS.out _ HX5.out⟩)
                ((refine step_append_lies _ (by rfl) _ _ _ (by rfl) Wo.heap.size 5 j0 (.int .u8 0) 1 1 Try.underlying38 hj hy0 hy1 hy2 rfl (by decide) _ _ _ (by rfl) HOW.out ⟨wr.heap.size, 0, none⟩ 1 1 [.int .u8 (V : Int)] (by rfl) (by rfl) (one_slot HNW.out) one_byte Nat.one_pos HQ4.out HQ5.out HQ6.out (wr.heap.size + 1) (alloc_size wr _) ?_
                  intro g5 cap5 w5 hown5 hgrow5 hat5 hlt5
                  have HP5 := Lib.hid (HR.out.push HB1.out hown5 HV.out hgrow5)
                  have HX5 := Lib.hid (HO.out.below.trans (HP5.out.below.mono HO.out.below.size))
                  clear hown5 hgrow5 hat5 hlt5))
              go_wp2
              go_roundw
              case rel => exact ⟨c + 1, by omega, by go_num, HP5.out⟩
              case measure => simp [intOf]; omega
            · obtain rfl : m = c := by omega
              have hlt : ¬ (m : Int) < (m : Int) := by omega
              obtain ⟨g, cap, rfl, g1, g2, g3, g4⟩ := HR.out.row (by omega) (fun j hj => sumF_lt _ _ ((HX0.out k hkn).2 j hj).2 ((HY0.out k hkn).2 j hj).2)
              have HB := Lib.hid (HR.out.below.mono (Nat.le_refl _))
              have HB1 := Lib.hid (HB.out.trans ((one_below wr (.slice (some ⟨g, 0, none⟩) m cap) 38).mono HB.out.size))
              have HRB := Lib.hid (g4.below (w := wr) (one_below wr (.slice (some ⟨g, 0, none⟩) m cap) 38))
              have HG := Lib.hid (And.intro g1 (And.intro g2 g3))
              clear g1 g2 g3 g4 HR
              go_wp2_with (first
                | (at_builtin; refine wpList_append_own _ rfl (.tmp 130) (.tmp 132) 22 rfl w5.heap.size 38 i0 (.slice none 0 0) 1 24 Try.underlying22 hi hz0 hz1 hz2 rfl (by decide) _ _ _ rfl (HO.out.step HB1.out).top ⟨wr.heap.size, 0, none⟩ 1 1 [.slice (some ⟨g, 0, none⟩) m cap] rfl rfl ?u1 ?u2 ?u3 ?u4 ?u5 ?_)
                | go_in)
              all_goals first
                | (intro v' w1 hown hgrow _
                   have HP := Lib.hid (HO.out.push HB1.out g cap (Nat.le_trans HO.out.below.size HG.out.1) (fun i hi => Nat.ne_of_lt (Nat.lt_of_lt_of_le (HO.out.row i hi).2.2.2.size HG.out.1)) HG.out.2 HRB.out hown hgrow)
                   clear hown hgrow
                   go_wp2
                   go_roundw
                   case rel => exact ⟨k + 1, _, _, by omega, by go_num, HP.out⟩
                   case measure => simp [intOf]; omega)
                | rfl
                | (unfold maxLen; omega)
                | omega
                | exact (by have := (HO.out.step HB1.out).below.size; simpa using this)
                | exact one_slot (one_cell wr _ _)
                | (intro u hu; simp at hu; subst hu; rfl)
        · obtain rfl : ra = k := by omega
          have hlt0 : ¬ (ra : Int) < (ra : Int) := by omega
          go_wp2_with fail
          obtain ⟨gw, capw, rfl, hgw⟩ := HO.out.grid (by omega) (by unfold maxLen; omega)
          have HGW := Lib.hid hgw
          have HBZ := Lib.hid HO.out.below
          clear hgw
          refine (rsame_any z _ ra ra cz capw _ _ _ _ wr (HZ.out.step HBZ.out) HGW.out true ⟨fun _ => ⟨rfl, fun i hi => ⟨rfl, fun j hj => HADD.out i hi j hj⟩⟩, fun _ => rfl⟩).mono ?_
          rintro e w7 ⟨rfl, hf⟩
          have B7 := Lib.hid (HBZ.out.trans (hf.below.mono HBZ.out.size))
          clear hf
          go_wp2
          go_ret
          exact ⟨rfl, B5.out.trans (B7.out.mono B5.out.size)⟩end Go.Proofs.Ytlpmehnffdaobaa
