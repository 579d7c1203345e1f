/- MatrixPowers walked: it returns true. -/
import Derived.Test.YtlpmehnffdaobaaNoneW
namespace Go.Proofs.Ytlpmehnffdaobaa
open Go.RowKit Go.Deep
set_option linter.unusedVariables false
theorem info4 : (Try.prog.info? 4).map (fun i => (i.zero, i.size, i.bytes)) = some (some (.bool false), 1, 1) := by kernel_rfl
/-- block g is a row of 32 bools -/
def HadB (W : World) (g : Nat) (H : Nat → Bool) : Prop := ∃ cs lo hi, W.heap[g]? = some (.cells cs 4 (lo, hi)) ∧ (∀ j, j < 32 → cs[j]? = some (.bool (H j))) ∧ (∀ j, j < 32 → W.frozen? ⟨g, j, none⟩ = false)
theorem HadB.cell {W : World} {g : Nat} {H : Nat → Bool} (h : HadB W g H) {j : Nat} (hj : j < 32) : W.cell? ⟨g, j, none⟩ = some (.bool (H j)) := by
  obtain ⟨cs, lo, hi, hb, hc, hf⟩ := h
  simp [World.cell?, hb, hc j hj]
theorem HadB.frozen {W : World} {g : Nat} {H : Nat → Bool} (h : HadB W g H) {j : Nat} (hj : j < 32) : W.frozen? ⟨g, j, none⟩ = false := by
  obtain ⟨cs, lo, hi, hb, hc, hf⟩ := h
  exact hf j hj
theorem HadB.size {W : World} {g : Nat} {H : Nat → Bool} (h : HadB W g H) : g < W.heap.size := by
  obtain ⟨cs, lo, hi, hb, hc, hf⟩ := h
  exact (Array.getElem?_eq_some_iff.1 hb).1
theorem HadB.of_block {W W' : World} {g : Nat} {H : Nat → Bool} (h : HadB W g H) (e : W'.heap[g]? = W.heap[g]?) : HadB W' g H := by
  obtain ⟨cs, lo, hi, hb, hc, hf⟩ := h
  exact ⟨cs, lo, hi, e.trans hb, hc, fun j hj => (World.frozen?_of_block (w := W) (a := ⟨g, j, none⟩) e).trans (hf j hj)⟩
theorem HadB.set {W : World} {g : Nat} {H : Nat → Bool} (h : HadB W g H) (i : Nat) : HadB (W.setCell ⟨g, i, none⟩ (.bool true)) g (fun j => if j = i then true else H j) := by
  obtain ⟨cs, lo, hi, hbk, hc, hf⟩ := h
  refine ⟨cs.setIfInBounds i (.bool true), lo, hi, by simp [World.setCell, Array.getElem?_modify, hbk], fun j hj => ?_, fun j hj => by simpa using hf j hj⟩
  rw [Array.getElem?_setIfInBounds]
  by_cases e : i = j
  · subst e
    have := (Array.getElem?_eq_some_iff.1 (hc i hj)).1
    rw [if_pos rfl, if_pos this]
    show _ = some (Value.bool (if i = i then true else H i))
    rw [if_pos rfl]
  · rw [if_neg e]
    show _ = some (Value.bool (if j = i then true else H j))
    rw [if_neg (show ¬ j = i from fun k => e k.symm)]
    exact hc j hj
theorem HadB.start (W : World) : HadB (W.alloc (.cells (madeCells #[.bool false] 32) 4)) W.heap.size (fun _ => false) := by
  refine ⟨_, _, _, heap_alloc_new W _, fun j hj => ?_, fun j hj => ?_⟩
  · have := (World.rowIs_made W (.bool false) 32 4).cell hj
    simp only [World.cell?, heap_alloc_new] at this
    simpa using this
  · exact (World.rowIs_made W (.bool false) 32 4).frozen j
theorem one_cell_set (W : World) (a : Addr) (u t : Value) (ty : TypeId) : ((W.setCell a u).alloc (.cells #[t] ty)).cell? ⟨W.heap.size, 0, none⟩ = some t := by
  have := one_cell (W.setCell a u) t ty
  rwa [show (W.setCell a u).heap.size = W.heap.size by simp] at this
theorem own_val {W : World} {base n : Nat} {v : Value} {l : List Value} (h : W.ownsRow base 38 1 v n l) : ∃ x cap, v = .slice x n cap := by
  rcases h.2 with ⟨hv, h0⟩ | ⟨g, cap, cur, hv, _⟩
  · exact ⟨none, 0, by rw [hv, h0]⟩
  · exact ⟨_, cap, hv⟩
/-- m rows have been picked -/
structure Picked (w2 w3 W : World) (N C hb : Nat) (v : Value) (m : Nat) (r : Nat → Nat) (H : Nat → Bool) : Prop where
  below : Below w2.heap.size w2 W
  size : w3.heap.size ≤ W.heap.size
  hbs : hb < w3.heap.size ∧ w2.heap.size ≤ hb
  own : W.ownsRow w3.heap.size 38 1 v m ((List.range m).map fun i => .slice (some ⟨N + 1 + r i, 0, none⟩) C C)
  had : HadB W hb H
  mem : ∀ x, x < 32 → (H x = true ↔ ∃ i, i < m ∧ r i = x)
  lt : ∀ i, i < m → r i < 32
  inj : ∀ i j, i < m → j < m → r i = r j → i = j
theorem Picked.start (w2 : World) (N C : Nat) : Picked w2 (w2.alloc (.cells (madeCells #[.bool false] 32) 4)) (w2.alloc (.cells (madeCells #[.bool false] 32) 4)) N C w2.heap.size (.slice none 0 0) 0 (fun _ => 0) (fun _ => false) :=
  ⟨(Below.refl _ _).alloc (Nat.le_refl _) _, Nat.le_refl _, ⟨by rw [alloc_size]; omega, Nat.le_refl _⟩, World.ownsRow_nil _ _ _ _, HadB.start w2, fun x _ => ⟨fun h => absurd h (by simp), fun ⟨i, h, _⟩ => absurd h (Nat.not_lt_zero i)⟩, fun i h => absurd h (Nat.not_lt_zero i), fun i j h => absurd h (Nat.not_lt_zero i)⟩
theorem Picked.ne {w2 w3 W : World} {N C hb : Nat} {v : Value} {m : Nat} {r : Nat → Nat} {H : Nat → Bool} (h : Picked w2 w3 W N C hb v m r H) : v.ownBlock ≠ some hb := fun e => by
  have := (h.own.lt hb e).1
  have := h.hbs.1
  omega
/-- a number is marked, and its row appended -/
theorem Picked.push {w2 w3 W W5 : World} {N C hb : Nat} {v v' : Value} {m x : Nat} {r : Nat → Nat} {H : Nat → Bool} {t : Value} (h : Picked w2 w3 W N C hb v m r H) (hx : x < 32) (hH : H x = false)
    (hown : W5.ownsRow w3.heap.size 38 1 v' (m + 1) (((List.range m).map fun i => .slice (some ⟨N + 1 + r i, 0, none⟩) C C) ++ [.slice (some ⟨N + 1 + x, 0, none⟩) C C]))
    (hg : ((W.setCell ⟨hb, x, none⟩ (.bool true)).alloc (.cells #[t] 38)).grownBy W5 v.ownBlock) : Picked w2 w3 W5 N C hb v' (m + 1) (fun i => if i = m then x else r i) (fun j => if j = x then true else H j) := by
  have hset := h.had.set x
  have hb1 : Below w2.heap.size w2 ((W.setCell ⟨hb, x, none⟩ (.bool true)).alloc (.cells #[t] 38)) := (h.below.setCell (p := ⟨hb, x, none⟩) h.hbs.2 _).alloc (by simpa using h.below.size) _
  have hlt : hb < ((W.setCell ⟨hb, x, none⟩ (.bool true)).alloc (.cells #[t] 38)).heap.size := by rw [alloc_size]; have := hset.size; omega
  refine ⟨?_, ?_, h.hbs, ?_, ?_, fun y hy => ?_, fun i hi => ?_, fun i j hi hj e => ?_⟩
  · refine hb1.trans ⟨hg.os, hg.tape, hg.output, hg.size, fun k hk => hg.block k (Nat.lt_of_lt_of_le hk hb1.size) fun e => ?_⟩
    have := (h.own.lt k e.symm).1
    have := h.hbs
    omega
  · refine Nat.le_trans ?_ hg.size
    rw [alloc_size]
    have := h.size
    have e : (W.setCell ⟨hb, x, none⟩ (.bool true)).heap.size = W.heap.size := by simp
    omega
  · rw [List.range_succ, List.map_append]
    have e : (List.range m).map (fun i => Value.slice (some ⟨N + 1 + (if i = m then x else r i), 0, none⟩) C C) = (List.range m).map fun i => .slice (some ⟨N + 1 + r i, 0, none⟩) C C := List.map_congr_left fun i hi => by
      have := List.mem_range.1 hi
      simp only [if_neg (show i ≠ m by omega)]
    rw [e]
    simpa using hown
  · refine (hset.of_block ?_).of_block (hg.block hb hlt fun e => h.ne e.symm)
    exact ((Below.refl _ _).alloc (Nat.le_refl _) _).block hb hset.size
  · by_cases e : y = x
    · subst e
      simp only [if_true]
      exact ⟨fun _ => ⟨m, by omega, by simp⟩, fun _ => trivial⟩
    · simp only [if_neg e]
      rw [h.mem y hy]
      constructor
      · rintro ⟨i, hi, rfl⟩
        exact ⟨i, by omega, by rw [if_neg (by omega)]⟩
      · rintro ⟨i, hi, h2⟩
        by_cases e2 : i = m
        · rw [if_pos e2] at h2; exact absurd h2.symm e
        · rw [if_neg e2] at h2; exact ⟨i, by omega, h2⟩
  · show (if i = m then x else r i) < 32
    split
    · exact hx
    · exact h.lt i (by omega)
  · have hno : ∀ i, i < m → r i ≠ x := fun i hi e => by
      have := (h.mem x hx).2 ⟨i, hi, e⟩
      rw [hH] at this
      exact absurd this (by simp)
    replace e : (if i = m then x else r i) = (if j = m then x else r j) := e
    by_cases e1 : i = m
    · by_cases e2 : j = m
      · omega
      · rw [if_pos e1, if_neg e2] at e
        exact absurd e.symm (hno j (by omega))
    · by_cases e2 : j = m
      · rw [if_neg e1, if_pos e2] at e
        exact absurd e (hno i (by omega))
      · rw [if_neg e1, if_neg e2] at e
        exact h.inj i j (by omega) (by omega) e
theorem Picked.grid {w1 w2 w3 W : World} {C hb : Nat} {v : Value} {m : Nat} {r : Nat → Nat} {H : Nat → Bool} (h : Picked w2 w3 W w1.heap.size C hb v m r H) (hm : 0 < m) (hC : C ≤ 32) (hO : Outer w1 w2 32 (fun _ => C) 32 vdm) :
    ∃ x cap, v = .slice (some x) m cap ∧ Grid W (some x) m (fun _ => C) (fun i j => vdm (r i) j) := by
  rcases h.own.2 with ⟨_, h0⟩ | ⟨g, cap, cur, hv, hbb, hgg, h1, h2, h3, h4⟩
  · omega
  · refine ⟨_, cap, hv, by omega, g, 0, fun i => some ⟨w1.heap.size + 1 + r i, 0, none⟩, fun _ => C, fun i => w1.heap.size + 1 + r i, fun _ => 0, fun _ => rfl, fun i hi => ⟨?_, (by show C ≤ maxLen; unfold maxLen; omega), fun _ => rfl, fun j hj => ⟨?_, GF.npow_lt _ _ (by have := h.lt i hi; omega)⟩⟩⟩
    · have := h.own.cells (g := g) (by rw [hv]; rfl) i (.slice (some ⟨w1.heap.size + 1 + r i, 0, none⟩) C C) (by simp [hi])
      rw [show (⟨g, 0, none⟩ : Addr).add i = ⟨g, 0 + i, none⟩ by unfold Addr.add; split <;> simp_all] at this
      exact this
    · have := below_cell h.below ((hO.done (r i) (h.lt i hi)).cell hj)
      simpa using this
set_option maxRecDepth 100000 in
set_option maxHeartbeats 4000000 in
theorem powers_out (c : Int) (p : Option Addr) (l cp : Nat) (w : World) (h : ¬ (1 ≤ c ∧ c ≤ 12)) : Calls Try.prog 5 #[.int .i64 c, .slice p l cp] w fun e w' => e = .returned (.bool true) ∧ Below w.heap.size w w' := by
  by_cases h1 : c < 1
  · clear h
    go_enter Try.func5, Try.ntmps5
    go_wp2_with fail
    refine (shown_yes w).mono ?_
    rintro e w1 ⟨rfl, hb⟩
    have B1 := Lib.hid hb
    clear hb
    go_wp2
    go_ret
    exact ⟨rfl, B1.out⟩
  · have h2 : 12 < c := by omega
    clear h
    go_enter Try.func5, Try.ntmps5
    go_wp2_with fail
    refine (shown_yes w).mono ?_
    rintro e w1 ⟨rfl, hb⟩
    have B1 := Lib.hid hb
    clear hb
    go_wp2
    go_ret
    exact ⟨rfl, B1.out⟩
set_option maxRecDepth 100000 in
set_option maxHeartbeats 8000000 in
theorem powers_in (C : Nat) (p : Option Addr) (l cp : Nat) (f : Nat → Int) (w : World) (hp : IntsAt w p l f) (hC1 : 1 ≤ C) (hC2 : C ≤ 12) : Calls Try.prog 5 #[.int .i64 (C : Int), .slice p l cp] w fun e w' => e = .returned (.bool true) ∧ Below w.heap.size w w' := by
  have HP := Lib.hid hp
  have c1 : (1 : Int) ≤ (C : Int) := by omega
  have c2 : (C : Int) ≤ 12 := by omega
  have c3 : ¬ (C : Int) < 1 := by omega
  have c4 : ¬ (12 : Int) < (C : Int) := by omega
  have l1 : (l : Int) ≤ 9223372036854775807 := by have := hp.1; unfold maxLen at this; omega
  have hmk : ∀ w : World, (Instr.makeSlice 37 (.int .i64 32) (.int .i64 32)).run Try.prog w = .ok (.slice (some ⟨w.heap.size, 0, none⟩) 32 32) (w.alloc (.cells (madeCells #[.bool false] 32) 4)) := run_make_row' (P := Try.prog) 37 4 (.bool false) 1 Try.underlying37 info4 rfl .i64 .i64 32 (by omega) (by omega)
  have q32 : ((32 : Int) != 32) = false := by decide
  obtain ⟨i0, hi, hz0, hz1, hz2⟩ := info22
  clear hp
  go_enter Try.func5, Try.ntmps5
  go_wp2_with fail
  refine (shown_yes w).mono ?_
  rintro e w1 ⟨rfl, hb⟩
  have B1 := Lib.hid hb
  clear hb
  go_wp2_with fail
  refine (powers_yes 32 C (by omega) ⟨hC1, by omega⟩ w1).mono ?_
  rintro e w2 ⟨rfl, hO⟩
  have HO := Lib.hid hO
  have B2 := Lib.hid (B1.out.trans (hO.fresh.below.mono B1.out.size))
  clear hO
  go_wp2
  have HS := Lib.hid (Picked.start w2 w1.heap.size C)
  generalize hw3 : w2.alloc (.cells (madeCells #[.bool false] 32) 4) = w3 at *
  clear hw3 hmk
  go_loopw [8, 10] (fun v i W => ∃ (k m : Nat) (r : Nat → Nat) (H : Nat → Bool), k ≤ l ∧ i = .int .i64 (k : Int) ∧ m ≤ C ∧ Picked w2 w3 W w1.heap.size C w2.heap.size v m r H) (fun _ i _ => l - (intOf i).toNat)
  case atStart => exact ⟨0, 0, fun _ => 0, fun _ => false, Nat.zero_le _, rfl, Nat.zero_le _, HS.out⟩
  case round =>
    obtain ⟨k, m, r, H, hk, rfl, hm, hK⟩ := hrel
    have HK := Lib.hid hK
    obtain ⟨x0, cap0, rfl⟩ := own_val hK.own
    have hC3 : (m : Int) ≤ (C : Int) := by omega
    clear hK
    by_cases hkl : k < l
    · have k0 : (0 : Int) ≤ (k : Int) := by omega
      have k1 : (k : Int) < (l : Int) := by omega
      by_cases hmC : m < C
      · have m1 : (m : Int) < (C : Int) := by omega
        obtain ⟨_, pb, po, hp0, hcell⟩ := HP.out.step B2.out
        obtain rfl := hp0 (by omega)
        have hpl := World.block_lt_of_cell? _ _ (hcell k hkl).1
        have x1 := below_cell HK.out.below (hcell k hkl).1
        have hwf := (hcell k hkl).2
        clear hcell hp0
        obtain ⟨V, hV⟩ : ∃ V, V = f k := ⟨_, rfl⟩
        rw [← hV] at x1 hwf
        clear hV
        by_cases hv1 : V < 0
        · go_wp2
          go_roundw
          case rel => exact ⟨k + 1, m, r, H, by omega, by go_num, hm, HK.out⟩
          case measure => simp [intOf]; omega
        by_cases hv2 : 31 < V
        · go_wp2
          go_roundw
          case rel => exact ⟨k + 1, m, r, H, by omega, by go_num, hm, HK.out⟩
          case measure => simp [intOf]; omega
        obtain ⟨x, rfl⟩ := Int.eq_ofNat_of_zero_le (show 0 ≤ V by omega)
        have hx : x < 32 := by omega
        have v0 : (0 : Int) ≤ (x : Int) := by omega
        have v3 : (x : Int) < 32 := by omega
        have h1 := HK.out.had.cell hx
        by_cases hH : H x = true
        · rw [hH] at h1
          clear hH
          go_wp2
          go_roundw
          case rel => exact ⟨k + 1, m, r, H, by omega, by go_num, hm, HK.out⟩
          case measure => simp [intOf]; omega
        · have hH' : H x = false := by simpa using hH
          rw [hH'] at h1
          have HH := Lib.hid hH'
          have h2 := HK.out.had.frozen hx
          have d1 := below_cell HK.out.below (show w2.cell? ⟨w1.heap.size, x, none⟩ = some (.slice (some ⟨w1.heap.size + 1 + x, 0, none⟩) C C) by
            have := HO.out.top.cell hx
            rwa [show Ytlpmehnffdaobaa.top w1.heap.size (fun _ => C) 32 x = .slice (some ⟨w1.heap.size + 1 + x, 0, none⟩) C C from if_pos hx] at this)
          have hlt := World.block_lt_of_cell? _ _ d1
          have ne1 : (⟨w2.heap.size, x, none⟩ : Addr) ≠ ⟨w1.heap.size, x, none⟩ := fun e => by
            injection e with e1 _ _
            have := HO.out.size
            omega
          have d2 := (World.cell?_setCell_other wr _ _ (.bool true) ne1).trans d1
          have d3 := (World.cell?_setCell_other wr _ _ (.bool true) (show (⟨w2.heap.size, x, none⟩ : Addr) ≠ ⟨pb, po + k, none⟩ from fun e => by
            injection e with e1 _ _
            have : pb < w2.heap.size := hpl
            omega)).trans x1
          clear hH hH' hv1 hv2 hlt ne1
          have HOWN := Lib.hid ((ownsRow_setCell_other HK.out.own (a := ⟨w2.heap.size, x, none⟩) HK.out.ne (.bool true)).alloc (.cells #[.slice (some ⟨w1.heap.size + 1 + x, 0, none⟩) C C] 38))
          go_wp2_with (first
            | (at_builtin; refine wpList_append_own _ rfl (.tmp 73) (.tmp 81) 22 rfl w3.heap.size 38 i0 (.slice none 0 0) 1 24 Try.underlying22 hi hz0 hz1 hz2 rfl (by decide) _ _ _ rfl HOWN.out ⟨wr.heap.size, 0, none⟩ 1 1 [.slice (some ⟨w1.heap.size + 1 + x, 0, none⟩) C C] rfl rfl ?c1 ?c2 ?c3 ?c4 ?c5 ?_)
            | go_in)
          case c2 => rfl
          case c3 => unfold maxLen; omega
          case c4 => omega
          case c5 => have := HK.out.size; omega
          · intro v' w5 hown hgrow _
            have HP5 := Lib.hid (HK.out.push hx HH.out hown hgrow)
            clear hown hgrow
            go_wp2
            go_roundw
            case rel => exact ⟨k + 1, m + 1, _, _, by omega, by go_num, by omega, HP5.out⟩
            case measure => simp [intOf]; omega
      · obtain rfl : C = m := by omega
        have c5 : ¬ (C : Int) < (C : Int) := by omega
        (obtain ⟨x9, cap9, hv9, hgr⟩ := HK.out.grid (by omega) (by omega) HO.out
         have HGR := Lib.hid hgr
         obtain ⟨rfl, rfl⟩ : x0 = some x9 ∧ cap0 = cap9 := by simpa using hv9
         clear hgr hv9
         go_wp2_with fail
         refine (inverse_yes (some x9) C cap0 _ wr HGR.out (may_c (by omega) (by omega) (by omega) (by omega))).mono ?_
         rintro e w5 ⟨hb, ⟨h1, rfl⟩ | ⟨P', y, cy, h1, rfl, h3⟩⟩
         · obtain ⟨MM, hMM⟩ := LA.powers_inverse C r (fun i hi => by have := HK.out.lt i hi; omega) HK.out.inj
           have hcon : LA.gj C C 0 (LA.aug C fun i j => vdm (r i) j) = some MM := hMM
           rw [hcon] at h1
           exact absurd h1 (by simp)
         have B5 := Lib.hid (HK.out.below.trans (hb.mono HK.out.below.size))
         clear hb h1 h3
         go_wp2
         go_ret
         exact ⟨rfl, B2.out.trans (B5.out.mono B2.out.size)⟩)
    · have hlk : l = k := by omega
      have k1 : ¬ (k : Int) < (l : Int) := by omega
      by_cases hmC : m < C
      · have m1 : (m : Int) < (C : Int) := by omega
        have HB := Lib.hid HK.out.below
        go_wp2
        go_ret
        exact ⟨rfl, B2.out.trans (HB.out.mono B2.out.size)⟩
      · obtain rfl : C = m := by omega
        have c5 : ¬ (C : Int) < (C : Int) := by omega
        (obtain ⟨x9, cap9, hv9, hgr⟩ := HK.out.grid (by omega) (by omega) HO.out
         have HGR := Lib.hid hgr
         obtain ⟨rfl, rfl⟩ : x0 = some x9 ∧ cap0 = cap9 := by simpa using hv9
         clear hgr hv9
         go_wp2_with fail
         refine (inverse_yes (some x9) C cap0 _ wr HGR.out (may_c (by omega) (by omega) (by omega) (by omega))).mono ?_
         rintro e w5 ⟨hb, ⟨h1, rfl⟩ | ⟨P', y, cy, h1, rfl, h3⟩⟩
         · obtain ⟨MM, hMM⟩ := LA.powers_inverse C r (fun i hi => by have := HK.out.lt i hi; omega) HK.out.inj
           have hcon : LA.gj C C 0 (LA.aug C fun i j => vdm (r i) j) = some MM := hMM
           rw [hcon] at h1
           exact absurd h1 (by simp)
         have B5 := Lib.hid (HK.out.below.trans (hb.mono HK.out.below.size))
         clear hb h1 h3
         go_wp2
         go_ret
         exact ⟨rfl, B2.out.trans (B5.out.mono B2.out.size)⟩)
theorem powers_law (c : Int) (p : Option Addr) (l cp : Nat) (f : Nat → Int) (w : World) (hp : IntsAt w p l f) : Calls Try.prog 5 #[.int .i64 c, .slice p l cp] w fun e w' => e = .returned (.bool true) ∧ Below w.heap.size w w' := by
  by_cases h : 1 ≤ c ∧ c ≤ 12
  · obtain ⟨C, rfl⟩ := Int.eq_ofNat_of_zero_le (show 0 ≤ c by omega)
    exact powers_in C p l cp f w hp (by omega) (by omega)
  · exact powers_out c p l cp w h
end Go.Proofs.Ytlpmehnffdaobaa
