/- Rows built by append; the document's Powers walked. -/
import Derived.Test.YtlpmehnffdaobaaRIdW
import Derived.Test.YtlpmehnffdaobaaMulXW
namespace Go.Proofs.Ytlpmehnffdaobaa
open Go.RowKit Go.Deep
set_option linter.unusedVariables false
theorem infoB : ∃ i, Try.prog.info? 5 = some i ∧ i.zero = some (.int .u8 0) ∧ i.size = 1 ∧ i.bytes = 1 := by
  have h := info5
  cases hi : Try.prog.info? 5 with
  | none => rw [hi] at h; simp at h
  | some i =>
    rw [hi] at h
    simp at h
    exact ⟨i, rfl, h.1, h.2.1, h.2.2⟩
/-- a row of c bytes that the call has built by append -/
structure RowOwn (w W : World) (v : Value) (c : Nat) (f : Nat → Nat) : Prop where
  below : Below w.heap.size w W
  own : W.ownsRow w.heap.size 5 1 v c ((List.range c).map fun j => .int .u8 (f j : Int))
theorem RowOwn.start (w : World) (f : Nat → Nat) : RowOwn w w (.slice none 0 0) 0 f := ⟨Below.refl _ _, World.ownsRow_nil _ _ _ _⟩
theorem below_grown {w W W1 W2 : World} {row : Option Nat} (h : Below w.heap.size w W) (h1 : Below W.heap.size W W1) (hg : W1.grownBy W2 row) (hr : ∀ k, row = some k → w.heap.size ≤ k) : Below w.heap.size w W2 := by
  have h2 := h.trans (h1.mono h.size)
  refine h2.trans ⟨hg.os, hg.tape, hg.output, hg.size, fun k hk => hg.block k (Nat.lt_of_lt_of_le hk h2.size) fun e => ?_⟩
  have := hr k e.symm
  omega
theorem RowOwn.push {w W W1 W2 : World} {v v' : Value} {c x : Nat} {f : Nat → Nat} (h : RowOwn w W v c f) (h1 : Below W.heap.size W W1)
    (ho : W2.ownsRow w.heap.size 5 1 v' (c + 1) (((List.range c).map fun j => .int .u8 (f j : Int)) ++ [.int .u8 (x : Int)])) (hx : x = f c) (hg : W1.grownBy W2 v.ownBlock) : RowOwn w W2 v' (c + 1) f := by
  refine ⟨below_grown h.below h1 hg fun k e => (h.own.lt k e).1, ?_⟩
  rw [List.range_succ, List.map_append]
  subst hx
  exact ho
theorem RowOwn.step {w W W' : World} {v : Value} {c : Nat} {f : Nat → Nat} (h : RowOwn w W v c f) (hb : Below W.heap.size W W') : RowOwn w W' v c f := by
  refine ⟨h.below.trans (hb.mono h.below.size), h.own.1, ?_⟩
  rcases h.own.2 with hn | ⟨g, cap, cur, hv, hbb, hgg, rest⟩
  · exact .inl hn
  · exact .inr ⟨g, cap, cur, hv, hbb, (hb.block g (Array.getElem?_eq_some_iff.1 hgg).1).trans hgg, rest⟩
theorem RowOwn.row {w W : World} {v : Value} {m : Nat} {f : Nat → Nat} (h : RowOwn w W v m f) (hm : 0 < m) (hf : ∀ j, j < m → f j < 256) :
    ∃ g cap, v = .slice (some ⟨g, 0, none⟩) m cap ∧ w.heap.size ≤ g ∧ m ≤ cap ∧ cap ≤ maxLen ∧ RowB W g m f := by
  rcases h.own.2 with ⟨_, h0⟩ | ⟨g, cap, cur, hv, hb, hg, h1, h2, h3, h4⟩
  · omega
  · refine ⟨g, cap, hv, hb, h1, h2, cur, 0, 0, hg, fun j hj => ⟨?_, hf j hj⟩, fun j hj => by simp [World.frozen?, hg]⟩
    have := congrArg (fun l : List Value => l[j]?) h4
    simp only [List.getElem?_take, Nat.mul_one] at this
    rw [if_pos hj] at this
    simpa [hj] using this
theorem one_below (W : World) (t : Value) (ty : TypeId) : Below W.heap.size W (W.alloc (.cells #[t] ty)) := (Below.refl _ _).alloc (Nat.le_refl _) _
theorem one_cell (W : World) (t : Value) (ty : TypeId) : (W.alloc (.cells #[t] ty)).cell? ⟨W.heap.size, 0, none⟩ = some t := by
  have r1 : (W.alloc (.cells #[t] ty)).rowIs W.heap.size ty 1 (fun _ => t) := World.rowIs_alloc _ #[t] ty (fun _ => t) (fun i hi => by
    have : i = 0 := by simpa using hi
    subst this; rfl)
  exact r1.cell Nat.one_pos
theorem rpow_q (X N M : Nat) (hX : X < 256) (hN : N < 256) (h : GF.npow X N = M) (w : World) : Calls Try.prog 37 #[.int .u8 (X : Int), .int .u64 (N : Int)] w fun e w' => e = .returned (.int .u8 (M : Int)) ∧ w = w' :=
  (rpow_nat X N hX (by unfold U64; omega) w).mono fun e w' k => ⟨by rw [k.1, h], k.2⟩
theorem one_slot {W : World} {g : Nat} {t : Value} (h : W.cell? ⟨g, 0, none⟩ = some t) : ∀ j u, ([t] : List Value)[j]? = some u → W.cell? ((⟨g, 0, none⟩ : Addr).add j) = some u := by
  intro j u hj
  match j, hj with
  | 0, hj =>
    simp at hj
    subst hj
    simpa [Addr.add] using h
set_option maxRecDepth 100000 in
set_option maxHeartbeats 4000000 in
theorem rpowers_no (r c : Int) (h : ¬ (1 ≤ r ∧ r ≤ 32 ∧ 1 ≤ c ∧ c ≤ 32)) (w : World) : Calls Try.prog 18 #[.int .i64 r, .int .i64 c] w fun v w' => v = .returned (.tuple #[.slice none 0 0, .int .i64 1]) ∧ w' = w := by
  by_cases h1 : r < 1
  · go_enter Try.func18, Try.ntmps18
    go_wp2
    go_ret2
    exact ⟨rfl, rfl⟩
  by_cases h2 : 32 < r
  · go_enter Try.func18, Try.ntmps18
    go_wp2
    go_ret2
    exact ⟨rfl, rfl⟩
  by_cases h3 : c < 1
  · go_enter Try.func18, Try.ntmps18
    go_wp2
    go_ret2
    exact ⟨rfl, rfl⟩
  have h4 : 32 < c := by omega
  go_enter Try.func18, Try.ntmps18
  go_wp2
  go_ret2
  exact ⟨rfl, rfl⟩
set_option maxRecDepth 100000 in
set_option maxHeartbeats 8000000 in
theorem rpowers_yes (R C : Nat) (hR : 1 ≤ R ∧ R ≤ 32) (hC : 1 ≤ C ∧ C ≤ 32) (w : World) : Calls Try.prog 18 #[.int .i64 (R : Int), .int .i64 (C : Int)] w fun e w' => ∃ v G K, e = .returned (.tuple #[v, .int .i64 0]) ∧ Own w w' v R C G K vdm := by
  obtain ⟨i0, hi, hz0, hz1, hz2⟩ := info22
  obtain ⟨j0, hj, hy0, hy1, hy2⟩ := infoB
  have t1 : ¬ (R : Int) < 1 := by omega
  have t2 : ¬ (32 : Int) < (R : Int) := by omega
  have t3 : (R : Int) ≤ 32 := by omega
  have t4 : ¬ (C : Int) < 1 := by omega
  have t5 : ¬ (32 : Int) < (C : Int) := by omega
  have t6 : (C : Int) ≤ 32 := by omega
  go_enter Try.func18, Try.ntmps18
  go_wp2
  go_loopw [6, 7] (fun v i wr => ∃ (k : Nat) (G K : Nat → Nat), k ≤ R ∧ i = .int .i64 (k : Int) ∧ Own w wr v k C G K vdm) (fun _ i _ => R - (intOf i).toNat)
  case atStart => exact ⟨0, fun _ => 0, fun _ => 0, Nat.zero_le _, rfl, Own.start (Below.refl _ _) _ _ _ _⟩
  case round =>
    obtain ⟨k, G, K, hk, rfl, hO⟩ := hrel
    have HO := Lib.hid hO
    clear hO
    by_cases hkn : k < R
    · have k0 : (0 : Int) ≤ (k : Int) := by omega
      have k1 : (k : Int) < (R : Int) := by omega
      have k2 : (k : Int) ≤ 32 := by omega
      have kw : IntKind.u8.wrap (k : Int) = (k : Int) := by rw [IntKind.wrap_u8]; omega
      go_wp2
      generalize wr = Wo at HO ⊢
      go_loopw [8, 9] (fun v i wi => ∃ c : Nat, c ≤ C ∧ i = .int .i64 (c : Int) ∧ RowOwn Wo wi v c (vdm k)) (fun _ i _ => C - (intOf i).toNat)
      case atStart => exact ⟨0, Nat.zero_le _, rfl, RowOwn.start _ _⟩
      case round =>
        obtain ⟨c, hc, rfl, hr⟩ := hrel
        have HR := Lib.hid hr
        clear hr
        by_cases hcn : c < C
        · have c0 : (0 : Int) ≤ (c : Int) := by omega
          have c1 : (c : Int) < (C : Int) := by omega
          have c2 : (c : Int) ≤ 32 := by omega
          have cw : IntKind.u64.wrap (c : Int) = (c : Int) := by rw [IntKind.wrap_u64]; omega
          obtain ⟨P, hP⟩ : ∃ P, GF.npow k c = P := ⟨_, rfl⟩
          have HP := Lib.hid hP
          clear hP
          go_wp2_with (first
            | (go_at_call 37; refine (rpow_q k c P (by omega) (by omega) HP.out _).mono ?_; rintro e w' ⟨rfl, rfl⟩)
            | (at_builtin; refine wpList_append_own _ rfl (.tmp 34) (.tmp 40) 38 rfl Wo.heap.size 5 j0 (.int .u8 0) 1 1 Try.underlying38 hj hy0 hy1 hy2 rfl (by decide) _ _ _ rfl (HR.out.step (one_below _ _ _)).own ⟨wr.heap.size, 0, none⟩ 1 1 [.int .u8 (P : Int)] rfl rfl ?c1 ?c2 ?c3 ?c4 ?c5 ?_)
            | go_in)
          case c1 =>
            intro j u hj
            match j, hj with
            | 0, hj =>
              simp at hj
              subst hj
              simp [Addr.add]
          case c2 => intro u hu; simp at hu; subst hu; rfl
          case c3 => unfold maxLen; omega
          case c4 => omega
          case c5 => have := HR.out.below.size; simp; omega
          · intro v' w1 hown hgrow _
            have HQ := Lib.hid (HR.out.push (one_below _ _ _) hown HP.out.symm hgrow)
            clear hown hgrow
            go_wp2
            go_roundw
            case rel => exact ⟨c + 1, by omega, by go_num, HQ.out⟩
            case measure => simp [intOf]; omega
        · have hcc : c = C := by omega
          subst hcc
          have hlt : ¬ (c : Int) < (c : Int) := by omega
          obtain ⟨g, cap, rfl, g1, g2, g3, g4⟩ := HR.out.row (by omega) (fun j _ => GF.npow_lt k j (by omega))
          have HB := Lib.hid (HR.out.below.mono (Nat.le_refl _))
          have HB1 := Lib.hid (HB.out.trans ((one_below wr (.slice (some ⟨g, 0, none⟩) c cap) 38).mono HB.out.size))
          have HRB := Lib.hid (g4.below (w := wr) (one_below wr (.slice (some ⟨g, 0, none⟩) c cap) 38))
          have HG := Lib.hid (And.intro g1 (And.intro g2 g3))
          clear g1 g2 g3 g4 HR HB
          go_wp2_with (first
            | (at_builtin; refine wpList_append_own _ rfl (.tmp 42) (.tmp 44) 22 rfl w.heap.size 38 i0 (.slice none 0 0) 1 24 Try.underlying22 hi hz0 hz1 hz2 rfl (by decide) _ _ _ rfl (HO.out.step HB1.out).top ⟨wr.heap.size, 0, none⟩ 1 1 [.slice (some ⟨g, 0, none⟩) c cap] rfl rfl ?c1 ?c2 ?c3 ?c4 ?c5 ?_)
            | go_in)
          all_goals first
            | (intro v' w1 hown hgrow _
               have HP := Lib.hid (HO.out.push HB1.out g cap (Nat.le_trans HO.out.below.size HG.out.1) (fun i hi => Nat.ne_of_lt (Nat.lt_of_lt_of_le (HO.out.row i hi).2.2.2.size HG.out.1)) HG.out.2 HRB.out hown hgrow)
               clear hown hgrow
               go_wp2
               go_roundw
               case rel => exact ⟨k + 1, _, _, by omega, by go_num, HP.out⟩
               case measure => simp [intOf]; omega)
            | (intro u hu; simp at hu; subst hu; rfl)
            | (unfold maxLen; omega)
            | omega
            | rfl
            | exact (by have := (HO.out.step HB1.out).below.size; simpa using this)
            | exact one_slot (one_cell wr _ _)
    · have hkk : k = R := by omega
      subst hkk
      go_wp2
      go_ret2
      exact ⟨_, _, _, rfl, HO.out⟩
end Go.Proofs.Ytlpmehnffdaobaa
