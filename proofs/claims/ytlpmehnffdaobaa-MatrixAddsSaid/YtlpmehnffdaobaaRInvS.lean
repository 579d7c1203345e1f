/- The document's Inverse: a step. (Printed by matrinv.py.) -/
import Derived.Test.YtlpmehnffdaobaaRInvT
import Derived.Deep.Cut
namespace Go.Proofs.Ytlpmehnffdaobaa
open Go.RowKit Go.Deep
set_option linter.unusedVariables false
set_option maxRecDepth 100000 in
set_option maxHeartbeats 8000000 in
theorem rstep (w W : World) (n g cap h cap2 t : Nat) (G C H D : Nat → Nat) (M : Nat → Nat → Nat) (R : Option (Nat → Nat → Nat)) (a : Act) (Q : Exit → Act → World → Prop) (hF : RFr n (.slice (some ⟨g, 0, none⟩) n cap) (.slice (some ⟨h, 0, none⟩) n cap2) t a)
    (T : Two w W n g cap h cap2 G C H D M) (t1 : t < n) (hn2 : n ≤ 32) (hg : LA.gj n (n - t) t M = R)
    (hR : ∀ a', a'.defers = [] → a'.tmps.getD 2 undef = .slice none 0 0 → a'.tmps.getD 3 undef = .int .i64 7 → R = none → Q .ret a' W)
    (hN : ∀ a' W' M', RFr n (.slice (some ⟨g, 0, none⟩) n cap) (.slice (some ⟨h, 0, none⟩) n cap2) t a' → (∃ G' C' H' D', Two w W' n g cap h cap2 G' C' H' D' M') → LA.gj n (n - (t + 1)) (t + 1) M' = R → Q .normal a' W') : rBd.wp Try.prog Q a W := by
  have HT := Lib.hid T
  have HN := Lib.hid hN
  have HR := Lib.hid hR
  have HG := Lib.hid hg
  have r2 : (n : Int) ≤ 32 := by omega
  have t0 : (0 : Int) ≤ (t : Int) := by omega
  have t2 : (t : Int) < (n : Int) := by omega
  have t3 : (t : Int) ≤ 32 := by omega
  refine RFr.elim (motive := fun x => Code.wp Try.prog rBd _ x W) hF ?_
  intro u0 u1 u2 u3 u4 u7 u9 u11 u12 u13 u14 u15 u16 u17 u18 u19 u20 u21 u22 u23 u24 u25 u26 u27 u28 u29 u30 u31 u32 u33 u34 u35 u36 u37 u38 u39 u40 u41 u42 u43 u44 u45 u46 u47 u48 u49 u50 u51 u52 u53 u54 u55 u56 u57 u58 u59 u60 u61 u62 u63 u64 u65 u66 u67 u68 u69 u70 u71 u72 u73 u74 u75 u76 u77 u78 u79 u80 u81 u82 u83 u84 u85 u86 u87 u88 u89 u90 u91 u92 u93 u94 u95 u96 u97 u98 u99 u100 u101 u102 u103 u104 u105 u106 u107 u108 u109 u110 u111 u112 u113 u114 u115 u116 u117 u118 u119 u120 u121 u122 u123 u124 u125 u126 u127 u128 u129 u130 u131 u132 u133 u134 u135 u136 u137 u138 u139 u140 u141 u142 u143 u144 u145 u146 u147 u148 u149 u150 u151 u152 u153 u154 u155 u156 u157 u158 u159 u160 u161 u162 u163 u164 u165 u166 u167 u168 u169 u170 u171 u172 u173 u174 u175 u176 u177 u178 u179 u180 u181 u182 u183 u184 u185 u186 u187 u188 u189 u190 u191 u192 u193 u194 u195 u196 u197 u198 u199 u200 u201 u202 u203 u204 u205 u206 u207 u208 u209 u210 u211 u212 u213 u214 u215 u216 u217 u218 u219 u220
  clear hg hN hR T hF
  refine rBd_of (R := fun Y => Code.wp Try.prog Y _ _ W) ⟨_, _, _, _, _, _, _, _, _, _, _, _, _, _, _, rfl, ?_⟩
  go_wp2
  go_loop [11] (fun s => ∃ p : Nat, t ≤ p ∧ p ≤ n ∧ s = .int .i64 (p : Int) ∧ Hid (∀ i, t ≤ i → i < p → M i t = 0)) (fun s => n - (intOf s).toNat)
  case atStart => exact ⟨t, Nat.le_refl _, by omega, rfl, Lib.hid fun i h1 h2 => absurd h2 (Nat.not_lt.2 h1)⟩
  case round =>
    obtain ⟨p, hp1, hp2, rfl, hz⟩ := hrel
    by_cases hpn : p < n
    · have p0 : (0 : Int) ≤ (p : Int) := by omega
      have p1 : (p : Int) < (n : Int) := by omega
      have p3 : (p : Int) ≤ 32 := by omega
      have d1 := (HT.out.a.atc p hpn).1
      have x1 := (HT.out.a.row p hpn).2.2.2.cell t1
      obtain ⟨F, hF⟩ : ∃ F, F = M p t := ⟨_, rfl⟩
      rw [← hF] at x1
      have HF := Lib.hid hF
      clear hF
      by_cases hf0 : F = 0
      · have q2 : ((F : Int) == 0) = true := by rw [hf0]; rfl
        have HF0 := Lib.hid (HF.out.symm.trans hf0)
        clear hf0
        go_wp2
        go_round
        case rel => exact ⟨p + 1, by omega, by omega, by go_num, Lib.hid fun i h1 h2 => by
          by_cases e : i = p
          · rw [e]; exact HF0.out
          · exact hz.out i h1 (by omega)⟩
        case measure => simp [intOf]; omega
      · have q2 : ((F : Int) == 0) = false := by rw [beq_eq_false_iff_ne]; omega
        have q3 : ((p : Int) == (n : Int)) = false := by rw [beq_eq_false_iff_ne]; omega
        have HPV := Lib.hid (LA.piv_eq hp1 hp2 hz.out (fun _ => by rw [← HF.out]; exact hf0))
        obtain ⟨G2, C2, H2, D2, N, hT2, hNX, hGJ⟩ := HT.out.swap t1 hpn HPV.out (by rw [← HF.out]; exact hf0) HG.out
        have HT2 := Lib.hid hT2
        have HNX := Lib.hid hNX
        have HGJ := Lib.hid hGJ
        have d2 := (HT.out.a.atc t t1).1
        have f1 := (HT.out.a.atc p hpn).2.1
        have f2 := (HT.out.a.atc t t1).2.1
        have f3 := (HT.out.b.atc p hpn).2.1
        have f4 := (HT.out.b.atc t t1).2.1
        obtain ⟨v1, h1⟩ := cell?_setCell_some (w := W) (p := ⟨g, p, none⟩) (x := .slice (some ⟨G t, 0, none⟩) n (C t)) (q := ⟨g, t, none⟩) d2
        have hb := (HT.out.swapA p t hpn t1).2
        have d3 := (hb.atc p hpn).1
        have d4 := (hb.atc t t1).1
        obtain ⟨v2, h2⟩ := cell?_setCell_some (w := (W.setCell ⟨g, p, none⟩ (.slice (some ⟨G t, 0, none⟩) n (C t))).setCell ⟨g, t, none⟩ (.slice (some ⟨G p, 0, none⟩) n (C p))) (p := ⟨h, p, none⟩) (x := .slice (some ⟨H t, 0, none⟩) n (D t)) (q := ⟨h, t, none⟩) d4
        clear hf0 hT2 hNX hGJ hb
        go_upto_region 27 with (fail)
        exact rtail w _ n g cap h cap2 t G2 C2 H2 D2 N R _ _ _ (by assumption) ⟨rfl, rfl, rfl, rfl, rfl, rfl⟩ HT2.out t1 hn2 HNX.out HGJ.out HN.out
    · obtain rfl : n = p := by omega
      have c1 : ¬ (n : Int) < (n : Int) := by omega
      have q3 : ((n : Int) == (n : Int)) = true := by simp
      have HPV := Lib.hid (LA.piv_eq hp1 hp2 hz.out (fun k => absurd k (Nat.lt_irrefl _)))
      go_wp2
      exact HR.out _ rfl rfl rfl (by rw [← HG.out, gj_stop t1 HPV.out])
end Go.Proofs.Ytlpmehnffdaobaa
