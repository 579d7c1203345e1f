/- Turns and TurnRolls' struct as arguments: opened and shut. -/
import Derived.Test.YtgealgjmplmmoaaRows
import Derived.WalkKit
import Derived.ProofKit
import Derived.OpenShut
import Derived.Lib.SmallJoins
namespace Go.Proofs.Ytgealgjmplmmoaa
open Go.ChangeShapes Go.WideShapes Go.ChangeAt Go.RowKit Go.Joins
theorem cells24 : Try.prog.cellsOf 24 = 2 := by kernel_rfl
theorem cells31 : Try.prog.cellsOf 31 = 7 := by kernel_rfl
theorem cells3 : Try.prog.cellsOf 3 = 1 := by kernel_rfl
theorem cells5 : Try.prog.cellsOf 5 = 1 := by kernel_rfl
section
variable {H : Type} {enc : TypeId × Value → H} {w : World} {base : Nat} {spare : Nat → Bool} {held : Bool}
theorem list2 {α : Type} {l : List α} (h : l.length = 2) : ∃ a b, l = [a, b] := by
  match l, h with
  | [a, b], _ => exact ⟨a, b, rfl⟩
theorem list7 {α : Type} {l : List α} (h : l.length = 7) : ∃ a b c d e f g, l = [a, b, c, d, e, f, g] := by
  match l, h with
  | [a, b, c, d, e, f, g], _ => exact ⟨a, b, c, d, e, f, g, rfl⟩
theorem open_turn_cells {fuel : Nat} {cs : List Value} {x : DataW H × List MemPlace} (h : DataW.trod enc Try.prog w base spare held fuel 24 cs = some x) :
    ∃ a b : Int, cs = [.int .i64 a, .int .i64 b] ∧ x = (.agg [.lit (.int .i64 a), .lit (.int .i64 b)], []) ∧ (Lit.int .i64 a).wf = true ∧ (Lit.int .i64 b).wf = true := by
  obtain ⟨y0, y1, n, rfl, hl, h0, h1⟩ := trod_struct2 Try.underlying24 h
  obtain ⟨c0, c1, rfl⟩ := list2 (hl.trans cells24)
  simp [cells3] at h0 h1
  obtain ⟨a, e0, rfl, wa⟩ := DataW.trod_int Try.underlying3 h0
  obtain ⟨b, e1, rfl, wb⟩ := DataW.trod_int Try.underlying3 h1
  simp at e0 e1
  subst e0 e1
  exact ⟨a, b, rfl, rfl, wa, wb⟩
theorem shut_turn_cells (a b : Int) (n : Nat) (wa : (Lit.int .i64 a).wf = true) (wb : (Lit.int .i64 b).wf = true) :
    DataW.trod enc Try.prog w base spare held (n + 2) 24 [.int .i64 a, .int .i64 b] = some (.agg [.lit (.int .i64 a), .lit (.int .i64 b)], []) := by
  have h0 := trod_int_mk (enc := enc) (w := w) (base := base) (spare := spare) (held := held) n Try.underlying3 wa
  have h1 := trod_int_mk (enc := enc) (w := w) (base := base) (spare := spare) (held := held) n Try.underlying3 wb
  exact trod_struct2_mk (y0 := (.lit (.int .i64 a), [])) (y1 := (.lit (.int .i64 b), [])) Try.underlying24 (by rw [cells24]; rfl) (by simpa [cells3] using h0) (by simpa [cells3] using h1)
theorem open_turn {r : Reach} {b0 : Nat} {v : Value} {d : DataW H} {p : List MemPlace} (hv : Value.okWide Try.prog w r b0 24 v) (h : DataW.Trod enc Try.prog w base spare held 24 v d p) :
    ∃ a b : Int, v = .agg #[.int .i64 a, .int .i64 b] ∧ d = .agg [.lit (.int .i64 a), .lit (.int .i64 b)] ∧ p = [] ∧ (Lit.int .i64 a).wf = true ∧ (Lit.int .i64 b).wf = true := by
  obtain ⟨cs, rfl, hsz⟩ := okWide_struct Try.underlying24 hv
  obtain ⟨fuel, hf⟩ := h
  obtain ⟨a, b, hc, hx, wa, wb⟩ := open_turn_cells hf
  have hcs : cs = #[.int .i64 a, .int .i64 b] := by
    cases cs with
    | mk l => simpa [Value.cells] using hc
  simp only [Prod.mk.injEq] at hx
  exact ⟨a, b, by rw [hcs], hx.1, hx.2, wa, wb⟩
theorem shut_turn (a b : Int) (wa : (Lit.int .i64 a).wf = true) (wb : (Lit.int .i64 b).wf = true) :
    DataW.Trod enc Try.prog w base spare held 24 (.agg #[.int .i64 a, .int .i64 b]) (.agg [.lit (.int .i64 a), .lit (.int .i64 b)]) [] :=
  ⟨2, by simpa [Value.cells] using shut_turn_cells (enc := enc) (w := w) (base := base) (spare := spare) (held := held) a b 0 wa wb⟩
theorem open_in {r : Reach} {b0 : Nat} {v : Value} {d : DataW H} {p : List MemPlace} (hv : Value.okWide Try.prog w r b0 31 v) (h : DataW.Trod enc Try.prog w base spare held 31 v d p) :
    ∃ a b c e n o i : Int, v = .agg #[.int .i64 a, .int .i64 b, .int .i64 c, .int .i64 e, .int .i64 n, .int .u8 o, .int .u8 i] ∧
      d = .agg [.agg [.lit (.int .i64 a), .lit (.int .i64 b)], .agg [.lit (.int .i64 c), .lit (.int .i64 e)], .lit (.int .i64 n), .lit (.int .u8 o), .lit (.int .u8 i)] ∧ p = [] ∧
      (Lit.int .i64 a).wf = true ∧ (Lit.int .i64 b).wf = true ∧ (Lit.int .i64 c).wf = true ∧ (Lit.int .i64 e).wf = true ∧ (Lit.int .i64 n).wf = true ∧ (Lit.int .u8 o).wf = true ∧ (Lit.int .u8 i).wf = true := by
  obtain ⟨cs, rfl, hsz⟩ := okWide_struct Try.underlying31 hv
  obtain ⟨fuel, hf⟩ := h
  obtain ⟨l⟩ := cs
  obtain ⟨xs, m, _, hx, _, hlen, hg⟩ := DataW.trod_struct Try.underlying31 hf
  obtain ⟨c0, c1, c2, c3, c4, c5, c6, rfl⟩ := list7 (hsz.trans cells31)
  match xs, hlen with
  | [y0, y1, y2, y3, y4], _ =>
    have g0 := hg 0 _ rfl
    have g1 := hg 1 _ rfl
    have g2 := hg 2 _ rfl
    have g3 := hg 3 _ rfl
    have g4 := hg 4 _ rfl
    simp [Value.cells, cells24, cells3, cells5] at g0 g1 g2 g3 g4
    obtain ⟨a, b, e0, rfl, wa, wb⟩ := open_turn_cells g0
    obtain ⟨c, e, e1, rfl, wc, we⟩ := open_turn_cells g1
    obtain ⟨n, e2, rfl, wn⟩ := DataW.trod_int Try.underlying3 g2
    obtain ⟨o, e3, rfl, wo⟩ := DataW.trod_int Try.underlying5 g3
    obtain ⟨i, e4, rfl, wi⟩ := DataW.trod_int Try.underlying5 g4
    simp at e0 e1 e2 e3 e4
    obtain ⟨rfl, rfl⟩ := e0
    obtain ⟨rfl, rfl⟩ := e1
    subst e2 e3 e4
    simp only [Prod.mk.injEq] at hx
    exact ⟨a, b, c, e, n, o, i, rfl, by simpa using hx.1, by simpa using hx.2, wa, wb, wc, we, wn, wo, wi⟩
theorem shut_in (a b c e n o i : Int) (wa : (Lit.int .i64 a).wf = true) (wb : (Lit.int .i64 b).wf = true) (wc : (Lit.int .i64 c).wf = true) (we : (Lit.int .i64 e).wf = true) (wn : (Lit.int .i64 n).wf = true) (wo : (Lit.int .u8 o).wf = true) (wi : (Lit.int .u8 i).wf = true) :
    DataW.Trod enc Try.prog w base spare held 31 (.agg #[.int .i64 a, .int .i64 b, .int .i64 c, .int .i64 e, .int .i64 n, .int .u8 o, .int .u8 i])
      (.agg [.agg [.lit (.int .i64 a), .lit (.int .i64 b)], .agg [.lit (.int .i64 c), .lit (.int .i64 e)], .lit (.int .i64 n), .lit (.int .u8 o), .lit (.int .u8 i)]) [] := by
  have g0 := shut_turn_cells (enc := enc) (w := w) (base := base) (spare := spare) (held := held) a b 0 wa wb
  have g1 := shut_turn_cells (enc := enc) (w := w) (base := base) (spare := spare) (held := held) c e 0 wc we
  have g2 := trod_int_mk (enc := enc) (w := w) (base := base) (spare := spare) (held := held) 1 Try.underlying3 wn
  have g3 := trod_int_mk (enc := enc) (w := w) (base := base) (spare := spare) (held := held) 1 Try.underlying5 wo
  have g4 := trod_int_mk (enc := enc) (w := w) (base := base) (spare := spare) (held := held) 1 Try.underlying5 wi
  have := trod_struct_mk (enc := enc) (w := w) (base := base) (spare := spare) (held := held) (n := 2)
    (cs := [.int .i64 a, .int .i64 b, .int .i64 c, .int .i64 e, .int .i64 n, .int .u8 o, .int .u8 i])
    (xs := [(.agg [.lit (.int .i64 a), .lit (.int .i64 b)], []), (.agg [.lit (.int .i64 c), .lit (.int .i64 e)], []), (.lit (.int .i64 n), []), (.lit (.int .u8 o), []), (.lit (.int .u8 i), [])])
    Try.underlying31 (by rw [cells31]; rfl) (by simp [cells24, cells3, cells5, g0, g1, g2, g3, g4])
  exact ⟨3, by simpa [Value.cells] using this⟩
end
end Go.Proofs.Ytgealgjmplmmoaa
