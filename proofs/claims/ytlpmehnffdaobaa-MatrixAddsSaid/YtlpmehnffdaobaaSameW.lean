/- The document's Same and matrix.Same walked. -/
import Derived.Test.YtlpmehnffdaobaaRMayW
import Derived.Laws.IdiomStrings
import Derived.Deep.RegionHeld3
namespace Go.Proofs.Ytlpmehnffdaobaa
open Go.RowKit
set_option linter.unusedVariables false
/-- two matrices are the same -/
def SameM (ra : Nat) (LA : Nat → Nat) (A : Nat → Nat → Nat) (rb : Nat) (LB : Nat → Nat) (B : Nat → Nat → Nat) : Prop :=
  ra = rb ∧ ∀ i, i < ra → LA i = LB i ∧ ∀ j, j < LA i → A i j = B i j
/-- a row's bytes as a text -/
def txt (n : Nat) (f : Nat → Nat) : ByteArray := ⟨((List.range n).map fun j => UInt8.ofNat (f j)).toArray⟩
theorem txt_eq (n m : Nat) (f g : Nat → Nat) (hf : ∀ j, j < n → f j < 256) (hg : ∀ j, j < m → g j < 256) : (txt n f = txt m g) ↔ (n = m ∧ ∀ j, j < n → f j = g j) := by
  constructor
  · intro h
    have h1 : (List.range n).map (fun j => UInt8.ofNat (f j)) = (List.range m).map (fun j => UInt8.ofNat (g j)) := by
      have := congrArg (fun b : ByteArray => b.data.toList) h
      simpa [txt] using this
    have hl : n = m := by simpa using congrArg List.length h1
    subst hl
    refine ⟨rfl, fun j hj => ?_⟩
    have h2 := congrArg (fun l : List UInt8 => (l[j]?).map UInt8.toNat) h1
    simp [hj] at h2
    have a := hf j hj
    have b := hg j hj
    omega
  · rintro ⟨rfl, h⟩
    unfold txt
    rw [List.map_congr_left fun j hj => by rw [h j (List.mem_range.1 hj)]]
theorem txt_ne {X Y : ByteArray} (h : ¬ X = Y) : X.toList ≠ Y.toList := by
  intro e
  rw [ByteArray.toList_eq, ByteArray.toList_eq] at e
  apply h
  cases X with
  | mk a => cases Y with
    | mk b => exact congrArg ByteArray.mk (Array.toList_inj.1 e)
theorem run_txt (w : World) (a : Option Addr) (n cap B O : Nat) (f : Nat → Nat) (h0 : 0 < n → a = some ⟨B, O, none⟩) (hc : ∀ j, j < n → w.cell? ⟨B, O + j, none⟩ = some (.int .u8 (f j : Int)) ∧ f j < 256) :
    (convert 38 9 (.slice a n cap)).run Try.prog w = .ok (.string (txt n f)) w := by
  by_cases hn : 0 < n
  · obtain rfl := h0 hn
    have := run_convert_bytes_back (P := Try.prog) w 38 9 5 ⟨B, O, none⟩ cap ((List.range n).map fun j => UInt8.ofNat (f j)) (by kernel_rfl) (by kernel_rfl) (by kernel_rfl) (fun j hj => by
      have hj' : j < n := by simpa using hj
      have hadd : (⟨B, O, none⟩ : Addr).add j = ⟨B, O + j, none⟩ := by unfold Addr.add; split <;> simp_all
      rw [hadd, (hc j hj').1]
      have := (hc j hj').2
      simp
      omega)
    simpa [txt] using this
  · obtain rfl : n = 0 := by omega
    rw [run_convert_bytes_string (P := Try.prog) w 38 9 5 a 0 cap (by kernel_rfl) (by kernel_rfl) (by kernel_rfl)]
    cases a <;> simp [Conv.bytesToString, loadCells, txt]
    all_goals rfl
set_option maxRecDepth 100000 in
set_option maxHeartbeats 8000000 in
theorem rsame_any (a b : Option Addr) (ra rb ca cb : Nat) (LA LB : Nat → Nat) (A B : Nat → Nat → Nat) (w : World) (gA : Grid w a ra LA A) (gB : Grid w b rb LB B) (e : Bool) (he : (e = true) ↔ SameM ra LA A rb LB B) :
    Calls Try.prog 14 #[.slice a ra ca, .slice b rb cb] w fun v w' => v = .returned (.bool e) ∧ Fresh w w' := by
  have HE := Lib.hid he
  clear he
  by_cases hn : ra = rb
  · subst hn
    have q : ((ra : Int) == (ra : Int)) = true := beq_self_eq_true _
    obtain ⟨m1, x1, o1, S1, C1, B1, O1, a1, c1⟩ := gA
    obtain ⟨m2, x2, o2, S2, C2, B2, O2, a2, c2⟩ := gB
    unfold maxLen at m1
    have K1 := Lib.hid c1
    have K2 := Lib.hid c2
    have A1 := Lib.hid a1
    have A2 := Lib.hid a2
    clear c1 c2 a1 a2 m2
    go_enter Try.func14, Try.ntmps14
    go_wp2
    go_loopw [5] (fun i W => ∃ k : Nat, k ≤ ra ∧ i = .int .i64 (k : Int) ∧ Fresh w W ∧ Hid (∀ j, j < k → LA j = LB j ∧ ∀ c, c < LA j → A j c = B j c)) (fun i _ => ra - (intOf i).toNat)
    case atStart => exact ⟨0, Nat.zero_le _, rfl, Fresh.refl _, Lib.hid fun j hj => absurd hj (Nat.not_lt_zero _)⟩
    case round =>
      obtain ⟨k, hk, rfl, hfr, hi⟩ := hrel
      have HF := Lib.hid hfr
      clear hfr
      by_cases hkr : k < ra
      · have hz : (k : Int) < (ra : Int) := by omega
        have hz0 : (0 : Int) ≤ (k : Int) := by omega
        obtain rfl := A1.out (by omega)
        obtain rfl := A2.out (by omega)
        have d1 := below_cell HF.out.below (K1.out k hkr).1
        have d2 := below_cell HF.out.below (K2.out k hkr).1
        have T1 : ∀ W', Fresh wr W' → (convert 38 9 (.slice (S1 k) (LA k) (C1 k))).run Try.prog W' = .ok (.string (txt (LA k) (A k))) W' := fun W' f => run_txt W' _ _ _ _ _ _ (K1.out k hkr).2.2.1 fun j hj => ⟨below_cell (HF.out.trans f).below ((K1.out k hkr).2.2.2 j hj).1, ((K1.out k hkr).2.2.2 j hj).2⟩
        have T2 : ∀ W', Fresh wr W' → (convert 38 9 (.slice (S2 k) (LB k) (C2 k))).run Try.prog W' = .ok (.string (txt (LB k) (B k))) W' := fun W' f => run_txt W' _ _ _ _ _ _ (K2.out k hkr).2.2.1 fun j hj => ⟨below_cell (HF.out.trans f).below ((K2.out k hkr).2.2.2 j hj).1, ((K2.out k hkr).2.2.2 j hj).2⟩
        have u1 : ∀ n, (convert 38 9 (.slice (S1 k) (LA k) (C1 k))).run Try.prog (wr.drewN n) = .ok (.string (txt (LA k) (A k))) (wr.drewN n) := fun n => T1 _ ((Fresh.refl _).drewN n)
        have u2 : ∀ n, (convert 38 9 (.slice (S2 k) (LB k) (C2 k))).run Try.prog (wr.drewN n) = .ok (.string (txt (LB k) (B k))) (wr.drewN n) := fun n => T2 _ ((Fresh.refl _).drewN n)
        have u3 := u1 1
        have u4 := u2 1
        have u5 : (convert 38 9 (.slice (S1 k) (LA k) (C1 k))).run Try.prog wr.drew = .ok (.string (txt (LA k) (A k))) wr.drew := T1 _ (Fresh.refl _).drew
        have u6 : (convert 38 9 (.slice (S2 k) (LB k) (C2 k))).run Try.prog wr.drew = .ok (.string (txt (LB k) (B k))) wr.drew := T2 _ (Fresh.refl _).drew
        have HX : Hid ((txt (LA k) (A k) = txt (LB k) (B k)) ↔ (LA k = LB k ∧ ∀ j, j < LA k → A k j = B k j)) := Lib.hid (txt_eq _ _ _ _ (fun j hj => ((K1.out k hkr).2.2.2 j hj).2) (fun j hj => ((K2.out k hkr).2.2.2 j hj).2))
        clear T1 T2
        generalize txt (LA k) (A k) = X at *
        generalize txt (LB k) (B k) = Y at *
        by_cases hxy : X = Y
        · have qq : (X.toList == Y.toList) = true := by rw [hxy]; exact beq_self_eq_true _
          have HXY := Lib.hid (HX.out.1 hxy)
          clear hxy
          go_wp2_with fail
          go_region_held3 (fun w' => w'.cell? ⟨x1, o1 + k, none⟩ = some (.slice (S1 k) (LA k) (C1 k)) ∧ w'.cell? ⟨x2, o2 + k, none⟩ = some (.slice (S2 k) (LB k) (C2 k)) ∧ (convert 38 9 (.slice (S1 k) (LA k) (C1 k))).run Try.prog w' = .ok (.string X) w' ∧ (convert 38 9 (.slice (S2 k) (LB k) (C2 k))).run Try.prog w' = .ok (.string Y) w')
            (exact ⟨d1, d2, u5, u6⟩)
            (fail)
          all_goals
            go_wp2
            go_roundw
            case rel => exact ⟨k + 1, by omega, by go_num, HF.out.drew, Lib.hid fun j hj => by
              by_cases hjk : j = k
              · rw [hjk]; exact HXY.out
              · exact hi.out j (by omega)⟩
            case measure => simp [intOf]; omega
        · have qq : (X.toList == Y.toList) = false := beq_eq_false_iff_ne.2 (txt_ne hxy)
          have HXY := Lib.hid (fun h => hxy (HX.out.2 h))
          clear hxy
          have : e = false := by
            cases e with
            | false => rfl
            | true => exact absurd ((HE.out.1 rfl).2 k hkr) HXY.out
          subst this
          go_wp2_with fail
          go_region_held3 (fun w' => w'.cell? ⟨x1, o1 + k, none⟩ = some (.slice (S1 k) (LA k) (C1 k)) ∧ w'.cell? ⟨x2, o2 + k, none⟩ = some (.slice (S2 k) (LB k) (C2 k)) ∧ (convert 38 9 (.slice (S1 k) (LA k) (C1 k))).run Try.prog w' = .ok (.string X) w' ∧ (convert 38 9 (.slice (S2 k) (LB k) (C2 k))).run Try.prog w' = .ok (.string Y) w')
            (exact ⟨d1, d2, u5, u6⟩)
            (fail)
          all_goals
            go_wp2
            go_ret
            exact ⟨rfl, HF.out.drew⟩
      · have hkk : k = ra := by omega
        have : e = true := HE.out.2 ⟨rfl, fun j hj => hi.out j (by omega)⟩
        subst this
        have hz : ¬ (k : Int) < (ra : Int) := by omega
        go_wp2
        go_ret
        exact ⟨rfl, HF.out⟩
  · have q : ((ra : Int) == (rb : Int)) = false := by rw [beq_eq_false_iff_ne]; omega
    have : e = false := by cases e with | false => rfl | true => exact absurd (HE.out.1 rfl).1 hn
    subst this
    clear gA gB hn
    go_enter Try.func14, Try.ntmps14
    go_wp2
    go_ret
    exact ⟨rfl, Fresh.refl _⟩
end Go.Proofs.Ytlpmehnffdaobaa
