/- The document's Inverse walked. (Printed by matrinv.py.) -/
import Derived.Test.YtlpmehnffdaobaaRInvS
import Derived.Deep.CutBlock
namespace Go.Proofs.Ytlpmehnffdaobaa
open Go.RowKit Go.Deep
set_option linter.unusedVariables false
theorem Own.gridc {w W : World} {n m g cap : Nat} {G C : Nat → Nat} {M : Nat → Nat → Nat} (h : Own w W (.slice (some ⟨g, 0, none⟩) n cap) n m G C M) (hn : 0 < n) (hm : m ≤ maxLen) : Grid W (some ⟨g, 0, none⟩) n (fun _ => m) M := by
  obtain ⟨g', cap', he, k⟩ := h.grid hn hm
  obtain ⟨rfl, rfl⟩ : g = g' ∧ cap = cap' := by simpa using he
  exact k
/-- what holds ahead of a step -/
def RInvI (w1 : World) (n g cap h cap2 : Nat) (A : Nat → Nat → Nat) (a : Act) (W : World) : Prop :=
  ∃ (t : Nat) (G C H D : Nat → Nat) (M : Nat → Nat → Nat), t ≤ n ∧ RFr n (.slice (some ⟨g, 0, none⟩) n cap) (.slice (some ⟨h, 0, none⟩) n cap2) t a ∧ Two w1 W n g cap h cap2 G C H D M ∧ LA.gj n (n - t) t M = LA.gj n n 0 (LA.aug n A)
def rMu (n : Nat) (a : Act) : Nat := n - (intOf (a.tmps.getD 10 undef)).toNat
/-- the two matrices at the start -/
theorem two_start {w1 w2 wr : World} {n g cap h cap2 : Nat} {G C H D : Nat → Nat} {A : Nat → Nat → Nat} (hn : 0 < n) (hW : Own w2 wr (.slice (some ⟨g, 0, none⟩) n cap) n n G C A) (hI : Own w1 w2 (.slice (some ⟨h, 0, none⟩) n cap2) n n H D idm) :
    Two w1 wr n g cap h cap2 G C H D (LA.aug n A) := by
  have l1 : ∀ i, i < n → H i < w2.heap.size := fun i hi => (hI.row i hi).2.2.2.size
  have l2 : h < w2.heap.size := (hI.top.lt h rfl).2
  have l3 : w1.heap.size ≤ h := (hI.top.lt h rfl).1
  have l4 : w2.heap.size ≤ g := (hW.top.lt g rfl).1
  have l5 : ∀ i, i < n → w2.heap.size ≤ G i := fun i hi => (hW.row i hi).1
  refine ⟨(hW.rebase hI.below).congr fun i hi j hj => ?_, (hI.step hW.below).congr fun i hi j hj => ?_, fun i j hi hj e => ?_, fun e => ?_, ⟨?_, l3⟩, fun i hi => ⟨fun e => ?_, fun e => ?_⟩⟩
  · show A i j = if j < n then A i j else _
    rw [if_pos hj]
  · show idm i j = if n + j < n then _ else LA.one i (n + j - n)
    rw [if_neg (by omega), Nat.add_sub_cancel_left]
    rfl
  · have := l5 i hi
    have := l1 j hj
    omega
  · omega
  · have := hI.below.size
    omega
  · have := l5 i hi
    omega
  · have := l1 i hi
    omega
set_option maxRecDepth 100000 in
set_option maxHeartbeats 8000000 in
theorem rinverse_yes (a : Option Addr) (n ca : Nat) (A : Nat → Nat → Nat) (w : World) (gA : Grid w a n (fun _ => n) A) (hA : May n (fun _ => n)) : Calls Try.prog 13 #[.slice a n ca] w (InvPost n A w) := by
  have GA := Lib.hid gA
  have HMA := Lib.hid hA
  have hn1 : 1 ≤ n := hA.1
  have hn2 : n ≤ 32 := hA.2.1
  obtain ⟨xa, oa, CA, BA, OA, rfl, cA⟩ := gA.at hn1 hn1
  have HC := Lib.hid cA
  have q : ((n : Int) != (n : Int)) = false := by simp
  have r0 : 0 < n := hn1
  have r1 : (0 : Int) < (n : Int) := by omega
  have r2 : (n : Int) ≤ 32 := by omega
  obtain ⟨i0, hi, hz0, hz1, hz2⟩ := info22
  clear gA hA cA
  go_enter Try.func13, Try.ntmps13
  go_wp2_with fail
  refine (rmay_y (some ⟨xa, oa, none⟩) n ca _ _ w GA.out HMA.out).mono ?_
  rintro e w1 ⟨rfl, hf⟩
  have HF := Lib.hid hf.below
  have d0 := below_cell hf.below (HC.out 0 hn1).1
  rw [Nat.add_zero] at d0
  clear hf
  go_wp2_with fail
  refine (ridentity_yes n ⟨hn1, hn2⟩ w1).mono ?_
  rintro e w2 ⟨v, H, D, rfl, hI⟩
  obtain ⟨h, cap2, rfl, _⟩ := hI.at hn1
  have HI := Lib.hid hI
  clear hI d0
  go_wp2
  go_loopw [8, 9] (fun v i wr => ∃ (k : Nat) (G C : Nat → Nat), k ≤ n ∧ i = .int .i64 (k : Int) ∧ Own w2 wr v k n G C A) (fun _ i _ => n - (intOf i).toNat)
  case atStart => exact ⟨0, fun _ => 0, fun _ => 0, Nat.zero_le _, rfl, Own.start (Below.refl _ _) _ _ _ _⟩
  case round =>
    obtain ⟨k, G, C, hk, rfl, hO⟩ := hrel
    have HK := Lib.hid hO
    clear hO
    by_cases hkn : k < n
    · have k0 : (0 : Int) ≤ (k : Int) := by omega
      have k1 : (k : Int) < (n : Int) := by omega
      have k2 : (k : Int) ≤ 32 := by omega
      have hbb : Below w.heap.size w wr := (HF.out.trans (HI.out.below.mono HF.out.size)).trans (HK.out.below.mono (Nat.le_trans HF.out.size HI.out.below.size))
      have dk := below_cell hbb (HC.out k hkn).1
      have u1 := run_txt wr (some ⟨BA k, OA k, none⟩) n (CA k) (BA k) (OA k) (A k) (fun _ => rfl) (fun j hj => ⟨below_cell hbb ((HC.out k hkn).2 j hj).1, ((HC.out k hkn).2 j hj).2⟩)
      obtain ⟨c, W1, u2, y1, y2, y3, y4⟩ := run_row wr n (A k) hn2 (fun j hj => ((HC.out k hkn).2 j hj).2)
      have HY := Lib.hid (And.intro y1 y2)
      have HB := Lib.hid (y3.alloc y3.size (.cells #[.slice (some ⟨wr.heap.size, 0, none⟩) n c] 38))
      have HR := Lib.hid (y4.old (.cells #[.slice (some ⟨wr.heap.size, 0, none⟩) n c] 38))
      generalize txt n (A k) = X at u1 u2
      clear hbb y1 y2 y3 y4
      go_wp2_with (first
        | (at_builtin; refine wpList_append_own _ rfl (.tmp 41) (.tmp 48) 22 rfl w2.heap.size 38 i0 (.slice none 0 0) 1 24 Try.underlying22 hi hz0 hz1 hz2 rfl (by decide) _ _ _ rfl (HK.out.step HB.out).top ⟨W1.heap.size, 0, none⟩ 1 1 [.slice (some ⟨wr.heap.size, 0, none⟩) n c] rfl rfl ?c1 ?c2 ?c3 ?c4 ?c5 ?_)
        | go_in)
      case c1 => exact one_slot (one_cell W1 _ _)
      case c2 => exact one_ones
      case c3 => unfold maxLen; omega
      case c4 => omega
      case c5 => exact Nat.le_trans HK.out.below.size HB.out.size
      · intro v' w5 hown hgrow _
        have HP := Lib.hid (HK.out.push HB.out wr.heap.size c HK.out.below.size (fun i hi => Nat.ne_of_lt (HK.out.row i hi).2.2.2.size) HY.out HR.out hown hgrow)
        clear hown hgrow
        go_wp2
        go_roundw
        case rel => exact ⟨k + 1, _, _, by omega, by go_num, HP.out⟩
        case measure => simp [intOf]; omega
    · obtain rfl : n = k := by omega
      obtain ⟨g, cap, rfl, _⟩ := HK.out.at hn1
      have HT := Lib.hid (two_start r0 HK.out HI.out)
      clear HK
      go_wp2
      refine wp_loop (RInvI w1 n g cap h cap2 A) (fun a' _ => rMu n a') ⟨0, _, _, _, _, _, Nat.zero_le _, ⟨rfl, rfl, rfl, rfl, rfl, rfl⟩, HT.out, rfl⟩ ?_
      · rintro a' wr ⟨t, G, C, H, D, M, ht, hF, hT, hG⟩
        have HT2 := Lib.hid hT
        have HG := Lib.hid hG
        clear hT hG
        refine RFr.elim (motive := fun x => Code.wp Try.prog _ (Exit.then (fun a' w' => RInvI w1 n g cap h cap2 A a' w' ∧ rMu n a' < rMu n x) _) x wr) hF ?_
        clear hF
        intro u0 u1 u2 u3 u4 u7 u9 u11 u12 u13 u14 u15 u16 u17 u18 u19 u20 u21 u22 u23 u24 u25 u26 u27 u28 u29 u30 u31 u32 u33 u34 u35 u36 u37 u38 u39 u40 u41 u42 u43 u44 u45 u46 u47 u48 u49 u50 u51 u52 u53 u54 u55 u56 u57 u58 u59 u60 u61 u62 u63 u64 u65 u66 u67 u68 u69 u70 u71 u72 u73 u74 u75 u76 u77 u78 u79 u80 u81 u82 u83 u84 u85 u86 u87 u88 u89 u90 u91 u92 u93 u94 u95 u96 u97 u98 u99 u100 u101 u102 u103 u104 u105 u106 u107 u108 u109 u110 u111 u112 u113 u114 u115 u116 u117 u118 u119 u120 u121 u122 u123 u124 u125 u126 u127 u128 u129 u130 u131 u132 u133 u134 u135 u136 u137 u138 u139 u140 u141 u142 u143 u144 u145 u146 u147 u148 u149 u150 u151 u152 u153 u154 u155 u156 u157 u158 u159 u160 u161 u162 u163 u164 u165 u166 u167 u168 u169 u170 u171 u172 u173 u174 u175 u176 u177 u178 u179 u180 u181 u182 u183 u184 u185 u186 u187 u188 u189 u190 u191 u192 u193 u194 u195 u196 u197 u198 u199 u200 u201 u202 u203 u204 u205 u206 u207 u208 u209 u210 u211 u212 u213 u214 u215 u216 u217 u218 u219 u220
        by_cases t1 : t < n
        · have t0 : (0 : Int) ≤ (t : Int) := by omega
          have t2 : (t : Int) < (n : Int) := by omega
          have t3 : (t : Int) ≤ 32 := by omega
          go_upto_block 3 with (fail)
          refine wp_block ?_
          refine rstep w1 wr n g cap h cap2 t G C H D M _ _ _ ⟨rfl, rfl, rfl, rfl, rfl, rfl⟩ HT2.out t1 hn2 HG.out ?_ ?_
          · intro a' z1 z2 z3 z4
            simp only [Exit.inBlock, Exit.then]
            have y2 : a'.tmps[2]?.getD undef = .slice none 0 0 := by simpa using z2
            have y3 : a'.tmps[3]?.getD undef = .int .i64 7 := by simpa using z3
            exact bodyPost_ret (v := .tuple #[.slice none 0 0, .int .i64 7]) (by simp [results, Try.results13, y2, y3]) z1 ⟨HF.out.trans (HT2.out.a.below.mono HF.out.size), .inl ⟨z4, rfl⟩⟩
          · intro a' W' M' z1 z2 z3
            have Z2 := Lib.hid z2
            have Z3 := Lib.hid z3
            refine RFr.elim (motive := fun x => Exit.inBlock 3 _ .normal x W') z1 ?_
            clear z1 z2 z3
            intro u0 u1 u2 u3 u4 u7 u9 u11 u12 u13 u14 u15 u16 u17 u18 u19 u20 u21 u22 u23 u24 u25 u26 u27 u28 u29 u30 u31 u32 u33 u34 u35 u36 u37 u38 u39 u40 u41 u42 u43 u44 u45 u46 u47 u48 u49 u50 u51 u52 u53 u54 u55 u56 u57 u58 u59 u60 u61 u62 u63 u64 u65 u66 u67 u68 u69 u70 u71 u72 u73 u74 u75 u76 u77 u78 u79 u80 u81 u82 u83 u84 u85 u86 u87 u88 u89 u90 u91 u92 u93 u94 u95 u96 u97 u98 u99 u100 u101 u102 u103 u104 u105 u106 u107 u108 u109 u110 u111 u112 u113 u114 u115 u116 u117 u118 u119 u120 u121 u122 u123 u124 u125 u126 u127 u128 u129 u130 u131 u132 u133 u134 u135 u136 u137 u138 u139 u140 u141 u142 u143 u144 u145 u146 u147 u148 u149 u150 u151 u152 u153 u154 u155 u156 u157 u158 u159 u160 u161 u162 u163 u164 u165 u166 u167 u168 u169 u170 u171 u172 u173 u174 u175 u176 u177 u178 u179 u180 u181 u182 u183 u184 u185 u186 u187 u188 u189 u190 u191 u192 u193 u194 u195 u196 u197 u198 u199 u200 u201 u202 u203 u204 u205 u206 u207 u208 u209 u210 u211 u212 u213 u214 u215 u216 u217 u218 u219 u220
            go_wp2
            obtain ⟨G', C', H', D', hT'⟩ := Z2.out
            exact ⟨⟨t + 1, G', C', H', D', M', by omega, ⟨rfl, rfl, rfl, rfl, rfl, rfl⟩, hT', Z3.out⟩, by show n - (intOf (.int .i64 ((t : Int) + 1))).toNat < n - (intOf (.int .i64 (t : Int))).toNat; simp [intOf]; omega⟩
        · obtain rfl : n = t := by omega
          go_wp2
          go_ret2
          exact ⟨HF.out.trans (HT2.out.a.below.mono HF.out.size), .inr ⟨M, ⟨h, 0, none⟩, cap2, by rw [← HG.out, gj_end], rfl, HT2.out.b.gridc r0 (by unfold maxLen; omega)⟩⟩
end Go.Proofs.Ytlpmehnffdaobaa
