/- matrix.Inverse walked. (Printed by matinv.py.) -/
import Derived.Test.YtlpmehnffdaobaaInvM
import Derived.StillTailTactics
import Derived.Deep.RegionHeld3
import Derived.Deep.AppendLies
import Derived.BigRegion
namespace Go.Proofs.Ytlpmehnffdaobaa
open Go.RowKit Go.Deep
set_option linter.unusedVariables false
/-- what Inverse leaves -/
def InvPost (n : Nat) (A : Nat → Nat → Nat) (w : World) (e : Ending) (w' : World) : Prop :=
  Below w.heap.size w w' ∧ ((LA.gj n n 0 (LA.aug n A) = none ∧ e = .returned (.tuple #[.slice none 0 0, .int .i64 7])) ∨
    ∃ M x cap, LA.gj n n 0 (LA.aug n A) = some M ∧ e = .returned (.tuple #[.slice (some x) n cap, .int .i64 0]) ∧ Grid w' (some x) n (fun _ => n) (LA.half n M))
/-- the frame at the label -/
def InvFr (n : Nat) (v : Value) (p : Nat) (a : Act) : Prop := a.defers = [] ∧ a.tmps.size = 136 ∧ a.tmps.getD 4 undef = .int .i64 (n : Int) ∧ a.tmps.getD 7 undef = v ∧ a.tmps.getD 9 undef = .pointer (some ⟨p, 0, none⟩)
theorem arr_lit (x : Array Value) (h : x.size = 136) : x = #[x.getD 0 undef, x.getD 1 undef, x.getD 2 undef, x.getD 3 undef, x.getD 4 undef, x.getD 5 undef, x.getD 6 undef, x.getD 7 undef, x.getD 8 undef, x.getD 9 undef, x.getD 10 undef, x.getD 11 undef, x.getD 12 undef, x.getD 13 undef, x.getD 14 undef, x.getD 15 undef, x.getD 16 undef, x.getD 17 undef, x.getD 18 undef, x.getD 19 undef, x.getD 20 undef, x.getD 21 undef, x.getD 22 undef, x.getD 23 undef, x.getD 24 undef, x.getD 25 undef, x.getD 26 undef, x.getD 27 undef, x.getD 28 undef, x.getD 29 undef, x.getD 30 undef, x.getD 31 undef, x.getD 32 undef, x.getD 33 undef, x.getD 34 undef, x.getD 35 undef, x.getD 36 undef, x.getD 37 undef, x.getD 38 undef, x.getD 39 undef, x.getD 40 undef, x.getD 41 undef, x.getD 42 undef, x.getD 43 undef, x.getD 44 undef, x.getD 45 undef, x.getD 46 undef, x.getD 47 undef, x.getD 48 undef, x.getD 49 undef, x.getD 50 undef, x.getD 51 undef, x.getD 52 undef, x.getD 53 undef, x.getD 54 undef, x.getD 55 undef, x.getD 56 undef, x.getD 57 undef, x.getD 58 undef, x.getD 59 undef, x.getD 60 undef, x.getD 61 undef, x.getD 62 undef, x.getD 63 undef, x.getD 64 undef, x.getD 65 undef, x.getD 66 undef, x.getD 67 undef, x.getD 68 undef, x.getD 69 undef, x.getD 70 undef, x.getD 71 undef, x.getD 72 undef, x.getD 73 undef, x.getD 74 undef, x.getD 75 undef, x.getD 76 undef, x.getD 77 undef, x.getD 78 undef, x.getD 79 undef, x.getD 80 undef, x.getD 81 undef, x.getD 82 undef, x.getD 83 undef, x.getD 84 undef, x.getD 85 undef, x.getD 86 undef, x.getD 87 undef, x.getD 88 undef, x.getD 89 undef, x.getD 90 undef, x.getD 91 undef, x.getD 92 undef, x.getD 93 undef, x.getD 94 undef, x.getD 95 undef, x.getD 96 undef, x.getD 97 undef, x.getD 98 undef, x.getD 99 undef, x.getD 100 undef, x.getD 101 undef, x.getD 102 undef, x.getD 103 undef, x.getD 104 undef, x.getD 105 undef, x.getD 106 undef, x.getD 107 undef, x.getD 108 undef, x.getD 109 undef, x.getD 110 undef, x.getD 111 undef, x.getD 112 undef, x.getD 113 undef, x.getD 114 undef, x.getD 115 undef, x.getD 116 undef, x.getD 117 undef, x.getD 118 undef, x.getD 119 undef, x.getD 120 undef, x.getD 121 undef, x.getD 122 undef, x.getD 123 undef, x.getD 124 undef, x.getD 125 undef, x.getD 126 undef, x.getD 127 undef, x.getD 128 undef, x.getD 129 undef, x.getD 130 undef, x.getD 131 undef, x.getD 132 undef, x.getD 133 undef, x.getD 134 undef, x.getD 135 undef] := by
  apply Array.ext'
  apply List.ext_getElem?
  intro i
  have e : (#[x.getD 0 undef, x.getD 1 undef, x.getD 2 undef, x.getD 3 undef, x.getD 4 undef, x.getD 5 undef, x.getD 6 undef, x.getD 7 undef, x.getD 8 undef, x.getD 9 undef, x.getD 10 undef, x.getD 11 undef, x.getD 12 undef, x.getD 13 undef, x.getD 14 undef, x.getD 15 undef, x.getD 16 undef, x.getD 17 undef, x.getD 18 undef, x.getD 19 undef, x.getD 20 undef, x.getD 21 undef, x.getD 22 undef, x.getD 23 undef, x.getD 24 undef, x.getD 25 undef, x.getD 26 undef, x.getD 27 undef, x.getD 28 undef, x.getD 29 undef, x.getD 30 undef, x.getD 31 undef, x.getD 32 undef, x.getD 33 undef, x.getD 34 undef, x.getD 35 undef, x.getD 36 undef, x.getD 37 undef, x.getD 38 undef, x.getD 39 undef, x.getD 40 undef, x.getD 41 undef, x.getD 42 undef, x.getD 43 undef, x.getD 44 undef, x.getD 45 undef, x.getD 46 undef, x.getD 47 undef, x.getD 48 undef, x.getD 49 undef, x.getD 50 undef, x.getD 51 undef, x.getD 52 undef, x.getD 53 undef, x.getD 54 undef, x.getD 55 undef, x.getD 56 undef, x.getD 57 undef, x.getD 58 undef, x.getD 59 undef, x.getD 60 undef, x.getD 61 undef, x.getD 62 undef, x.getD 63 undef, x.getD 64 undef, x.getD 65 undef, x.getD 66 undef, x.getD 67 undef, x.getD 68 undef, x.getD 69 undef, x.getD 70 undef, x.getD 71 undef, x.getD 72 undef, x.getD 73 undef, x.getD 74 undef, x.getD 75 undef, x.getD 76 undef, x.getD 77 undef, x.getD 78 undef, x.getD 79 undef, x.getD 80 undef, x.getD 81 undef, x.getD 82 undef, x.getD 83 undef, x.getD 84 undef, x.getD 85 undef, x.getD 86 undef, x.getD 87 undef, x.getD 88 undef, x.getD 89 undef, x.getD 90 undef, x.getD 91 undef, x.getD 92 undef, x.getD 93 undef, x.getD 94 undef, x.getD 95 undef, x.getD 96 undef, x.getD 97 undef, x.getD 98 undef, x.getD 99 undef, x.getD 100 undef, x.getD 101 undef, x.getD 102 undef, x.getD 103 undef, x.getD 104 undef, x.getD 105 undef, x.getD 106 undef, x.getD 107 undef, x.getD 108 undef, x.getD 109 undef, x.getD 110 undef, x.getD 111 undef, x.getD 112 undef, x.getD 113 undef, x.getD 114 undef, x.getD 115 undef, x.getD 116 undef, x.getD 117 undef, x.getD 118 undef, x.getD 119 undef, x.getD 120 undef, x.getD 121 undef, x.getD 122 undef, x.getD 123 undef, x.getD 124 undef, x.getD 125 undef, x.getD 126 undef, x.getD 127 undef, x.getD 128 undef, x.getD 129 undef, x.getD 130 undef, x.getD 131 undef, x.getD 132 undef, x.getD 133 undef, x.getD 134 undef, x.getD 135 undef] : Array Value).toList = (List.range 136).map fun i => x.getD i undef := rfl
  rw [e]
  by_cases hi : i < 136
  · rw [List.getElem?_map, List.getElem?_range hi]
    simp [h, hi]
  · rw [List.getElem?_eq_none (by simp; omega), List.getElem?_eq_none (by simp; omega)]
theorem InvFr.elim {n p : Nat} {v : Value} {motive : Act → Prop} {a : Act} (h : InvFr n v p a) (H : ∀ u0 u1 u2 u3 u5 u6 u8 u10 u11 u12 u13 u14 u15 u16 u17 u18 u19 u20 u21 u22 u23 u24 u25 u26 u27 u28 u29 u30 u31 u32 u33 u34 u35 u36 u37 u38 u39 u40 u41 u42 u43 u44 u45 u46 u47 u48 u49 u50 u51 u52 u53 u54 u55 u56 u57 u58 u59 u60 u61 u62 u63 u64 u65 u66 u67 u68 u69 u70 u71 u72 u73 u74 u75 u76 u77 u78 u79 u80 u81 u82 u83 u84 u85 u86 u87 u88 u89 u90 u91 u92 u93 u94 u95 u96 u97 u98 u99 u100 u101 u102 u103 u104 u105 u106 u107 u108 u109 u110 u111 u112 u113 u114 u115 u116 u117 u118 u119 u120 u121 u122 u123 u124 u125 u126 u127 u128 u129 u130 u131 u132 u133 u134 u135 : Value, motive { tmps := #[u0, u1, u2, u3, .int .i64 (n : Int), u5, u6, v, u8, .pointer (some ⟨p, 0, none⟩), u10, u11, u12, u13, u14, u15, u16, u17, u18, u19, u20, u21, u22, u23, u24, u25, u26, u27, u28, u29, u30, u31, u32, u33, u34, u35, u36, u37, u38, u39, u40, u41, u42, u43, u44, u45, u46, u47, u48, u49, u50, u51, u52, u53, u54, u55, u56, u57, u58, u59, u60, u61, u62, u63, u64, u65, u66, u67, u68, u69, u70, u71, u72, u73, u74, u75, u76, u77, u78, u79, u80, u81, u82, u83, u84, u85, u86, u87, u88, u89, u90, u91, u92, u93, u94, u95, u96, u97, u98, u99, u100, u101, u102, u103, u104, u105, u106, u107, u108, u109, u110, u111, u112, u113, u114, u115, u116, u117, u118, u119, u120, u121, u122, u123, u124, u125, u126, u127, u128, u129, u130, u131, u132, u133, u134, u135], defers := [] }) : motive a := by
  obtain ⟨h1, h2, h3, h4, h5⟩ := h
  have e : a = { tmps := #[a.tmps.getD 0 undef, a.tmps.getD 1 undef, a.tmps.getD 2 undef, a.tmps.getD 3 undef, .int .i64 (n : Int), a.tmps.getD 5 undef, a.tmps.getD 6 undef, v, a.tmps.getD 8 undef, .pointer (some ⟨p, 0, none⟩), a.tmps.getD 10 undef, a.tmps.getD 11 undef, a.tmps.getD 12 undef, a.tmps.getD 13 undef, a.tmps.getD 14 undef, a.tmps.getD 15 undef, a.tmps.getD 16 undef, a.tmps.getD 17 undef, a.tmps.getD 18 undef, a.tmps.getD 19 undef, a.tmps.getD 20 undef, a.tmps.getD 21 undef, a.tmps.getD 22 undef, a.tmps.getD 23 undef, a.tmps.getD 24 undef, a.tmps.getD 25 undef, a.tmps.getD 26 undef, a.tmps.getD 27 undef, a.tmps.getD 28 undef, a.tmps.getD 29 undef, a.tmps.getD 30 undef, a.tmps.getD 31 undef, a.tmps.getD 32 undef, a.tmps.getD 33 undef, a.tmps.getD 34 undef, a.tmps.getD 35 undef, a.tmps.getD 36 undef, a.tmps.getD 37 undef, a.tmps.getD 38 undef, a.tmps.getD 39 undef, a.tmps.getD 40 undef, a.tmps.getD 41 undef, a.tmps.getD 42 undef, a.tmps.getD 43 undef, a.tmps.getD 44 undef, a.tmps.getD 45 undef, a.tmps.getD 46 undef, a.tmps.getD 47 undef, a.tmps.getD 48 undef, a.tmps.getD 49 undef, a.tmps.getD 50 undef, a.tmps.getD 51 undef, a.tmps.getD 52 undef, a.tmps.getD 53 undef, a.tmps.getD 54 undef, a.tmps.getD 55 undef, a.tmps.getD 56 undef, a.tmps.getD 57 undef, a.tmps.getD 58 undef, a.tmps.getD 59 undef, a.tmps.getD 60 undef, a.tmps.getD 61 undef, a.tmps.getD 62 undef, a.tmps.getD 63 undef, a.tmps.getD 64 undef, a.tmps.getD 65 undef, a.tmps.getD 66 undef, a.tmps.getD 67 undef, a.tmps.getD 68 undef, a.tmps.getD 69 undef, a.tmps.getD 70 undef, a.tmps.getD 71 undef, a.tmps.getD 72 undef, a.tmps.getD 73 undef, a.tmps.getD 74 undef, a.tmps.getD 75 undef, a.tmps.getD 76 undef, a.tmps.getD 77 undef, a.tmps.getD 78 undef, a.tmps.getD 79 undef, a.tmps.getD 80 undef, a.tmps.getD 81 undef, a.tmps.getD 82 undef, a.tmps.getD 83 undef, a.tmps.getD 84 undef, a.tmps.getD 85 undef, a.tmps.getD 86 undef, a.tmps.getD 87 undef, a.tmps.getD 88 undef, a.tmps.getD 89 undef, a.tmps.getD 90 undef, a.tmps.getD 91 undef, a.tmps.getD 92 undef, a.tmps.getD 93 undef, a.tmps.getD 94 undef, a.tmps.getD 95 undef, a.tmps.getD 96 undef, a.tmps.getD 97 undef, a.tmps.getD 98 undef, a.tmps.getD 99 undef, a.tmps.getD 100 undef, a.tmps.getD 101 undef, a.tmps.getD 102 undef, a.tmps.getD 103 undef, a.tmps.getD 104 undef, a.tmps.getD 105 undef, a.tmps.getD 106 undef, a.tmps.getD 107 undef, a.tmps.getD 108 undef, a.tmps.getD 109 undef, a.tmps.getD 110 undef, a.tmps.getD 111 undef, a.tmps.getD 112 undef, a.tmps.getD 113 undef, a.tmps.getD 114 undef, a.tmps.getD 115 undef, a.tmps.getD 116 undef, a.tmps.getD 117 undef, a.tmps.getD 118 undef, a.tmps.getD 119 undef, a.tmps.getD 120 undef, a.tmps.getD 121 undef, a.tmps.getD 122 undef, a.tmps.getD 123 undef, a.tmps.getD 124 undef, a.tmps.getD 125 undef, a.tmps.getD 126 undef, a.tmps.getD 127 undef, a.tmps.getD 128 undef, a.tmps.getD 129 undef, a.tmps.getD 130 undef, a.tmps.getD 131 undef, a.tmps.getD 132 undef, a.tmps.getD 133 undef, a.tmps.getD 134 undef, a.tmps.getD 135 undef], defers := [] } := by
    rw [← h3, ← h4, ← h5, ← h1]
    cases a with
    | mk tmps defers => exact congrArg (fun x => Act.mk x defers) (arr_lit tmps h2)
  rw [e]
  exact H (a.tmps.getD 0 undef) (a.tmps.getD 1 undef) (a.tmps.getD 2 undef) (a.tmps.getD 3 undef) (a.tmps.getD 5 undef) (a.tmps.getD 6 undef) (a.tmps.getD 8 undef) (a.tmps.getD 10 undef) (a.tmps.getD 11 undef) (a.tmps.getD 12 undef) (a.tmps.getD 13 undef) (a.tmps.getD 14 undef) (a.tmps.getD 15 undef) (a.tmps.getD 16 undef) (a.tmps.getD 17 undef) (a.tmps.getD 18 undef) (a.tmps.getD 19 undef) (a.tmps.getD 20 undef) (a.tmps.getD 21 undef) (a.tmps.getD 22 undef) (a.tmps.getD 23 undef) (a.tmps.getD 24 undef) (a.tmps.getD 25 undef) (a.tmps.getD 26 undef) (a.tmps.getD 27 undef) (a.tmps.getD 28 undef) (a.tmps.getD 29 undef) (a.tmps.getD 30 undef) (a.tmps.getD 31 undef) (a.tmps.getD 32 undef) (a.tmps.getD 33 undef) (a.tmps.getD 34 undef) (a.tmps.getD 35 undef) (a.tmps.getD 36 undef) (a.tmps.getD 37 undef) (a.tmps.getD 38 undef) (a.tmps.getD 39 undef) (a.tmps.getD 40 undef) (a.tmps.getD 41 undef) (a.tmps.getD 42 undef) (a.tmps.getD 43 undef) (a.tmps.getD 44 undef) (a.tmps.getD 45 undef) (a.tmps.getD 46 undef) (a.tmps.getD 47 undef) (a.tmps.getD 48 undef) (a.tmps.getD 49 undef) (a.tmps.getD 50 undef) (a.tmps.getD 51 undef) (a.tmps.getD 52 undef) (a.tmps.getD 53 undef) (a.tmps.getD 54 undef) (a.tmps.getD 55 undef) (a.tmps.getD 56 undef) (a.tmps.getD 57 undef) (a.tmps.getD 58 undef) (a.tmps.getD 59 undef) (a.tmps.getD 60 undef) (a.tmps.getD 61 undef) (a.tmps.getD 62 undef) (a.tmps.getD 63 undef) (a.tmps.getD 64 undef) (a.tmps.getD 65 undef) (a.tmps.getD 66 undef) (a.tmps.getD 67 undef) (a.tmps.getD 68 undef) (a.tmps.getD 69 undef) (a.tmps.getD 70 undef) (a.tmps.getD 71 undef) (a.tmps.getD 72 undef) (a.tmps.getD 73 undef) (a.tmps.getD 74 undef) (a.tmps.getD 75 undef) (a.tmps.getD 76 undef) (a.tmps.getD 77 undef) (a.tmps.getD 78 undef) (a.tmps.getD 79 undef) (a.tmps.getD 80 undef) (a.tmps.getD 81 undef) (a.tmps.getD 82 undef) (a.tmps.getD 83 undef) (a.tmps.getD 84 undef) (a.tmps.getD 85 undef) (a.tmps.getD 86 undef) (a.tmps.getD 87 undef) (a.tmps.getD 88 undef) (a.tmps.getD 89 undef) (a.tmps.getD 90 undef) (a.tmps.getD 91 undef) (a.tmps.getD 92 undef) (a.tmps.getD 93 undef) (a.tmps.getD 94 undef) (a.tmps.getD 95 undef) (a.tmps.getD 96 undef) (a.tmps.getD 97 undef) (a.tmps.getD 98 undef) (a.tmps.getD 99 undef) (a.tmps.getD 100 undef) (a.tmps.getD 101 undef) (a.tmps.getD 102 undef) (a.tmps.getD 103 undef) (a.tmps.getD 104 undef) (a.tmps.getD 105 undef) (a.tmps.getD 106 undef) (a.tmps.getD 107 undef) (a.tmps.getD 108 undef) (a.tmps.getD 109 undef) (a.tmps.getD 110 undef) (a.tmps.getD 111 undef) (a.tmps.getD 112 undef) (a.tmps.getD 113 undef) (a.tmps.getD 114 undef) (a.tmps.getD 115 undef) (a.tmps.getD 116 undef) (a.tmps.getD 117 undef) (a.tmps.getD 118 undef) (a.tmps.getD 119 undef) (a.tmps.getD 120 undef) (a.tmps.getD 121 undef) (a.tmps.getD 122 undef) (a.tmps.getD 123 undef) (a.tmps.getD 124 undef) (a.tmps.getD 125 undef) (a.tmps.getD 126 undef) (a.tmps.getD 127 undef) (a.tmps.getD 128 undef) (a.tmps.getD 129 undef) (a.tmps.getD 130 undef) (a.tmps.getD 131 undef) (a.tmps.getD 132 undef) (a.tmps.getD 133 undef) (a.tmps.getD 134 undef) (a.tmps.getD 135 undef)
def addrOf : Value → Addr
  | .pointer (some a) => a
  | _ => ⟨0, 0, none⟩
def invMu (n : Nat) (a : Act) (W : World) : Nat := n - (intOf ((W.cell? (addrOf (a.tmps.getD 9 undef))).getD undef)).toNat
theorem InvFr.mu {n p t : Nat} {v : Value} {a : Act} {W : World} (h : InvFr n v p a) (hb : BoxAt W p t) : invMu n a W = n - t := by
  unfold invMu
  rw [h.2.2.2.2]
  show n - (intOf ((W.cell? ⟨p, 0, none⟩).getD undef)).toNat = _
  rw [hb.cell]
  rfl
/-- what holds at the label -/
def InvJ (w : World) (n : Nat) (A : Nat → Nat → Nat) (a : Act) (W : World) : Prop :=
  ∃ (w1 : World) (t p : Nat) (v : Value) (G C : Nat → Nat) (M : Nat → Nat → Nat), InvFr n v p a ∧ t ≤ n ∧ Below w.heap.size w w1 ∧ w1.heap.size ≤ p ∧ BoxAt W p t ∧ Own w1 W v n (2 * n) G C M ∧ LA.gj n (n - t) t M = LA.gj n n 0 (LA.aug n A)
noncomputable def seqR : Code → Code
  | .seq _ y => y
  | c => c
/-- the code of the body, behind the label, and behind the exchange -/
noncomputable def invScope : Code := match Try.f12.body with
  | some (.seq _ (.scope c)) => c
  | _ => .skip
noncomputable def invX : Code := match findLabel invScope 0 with
  | some (.seq _ X) => X
  | _ => .skip
noncomputable def invY : Code := seqR (seqR (seqR (seqR invX)))
theorem invX_of {R : Code → Prop} (h : ∃ X, findLabel invScope 0 = some (Code.skip.seq X) ∧ R X) : R invX := by
  obtain ⟨X, h1, h2⟩ := h
  have : invX = X := by unfold invX; rw [h1]
  rw [this]
  exact h2
theorem invY_of {R : Code → Prop} (h : ∃ a b c d Y, findLabel invScope 0 = some (Code.skip.seq (Code.seq a (Code.seq b (Code.seq c (Code.seq d Y))))) ∧ R Y) : R invY := by
  obtain ⟨a, b, c, d, Y, h1, h2⟩ := h
  have : invY = Y := by unfold invY invX; rw [h1]; rfl
  rw [this]
  exact h2
/-- the jump back -/
theorem inv_next {K : Act → World → Prop} {w w1 W' : World} {n t p m : Nat} {A M : Nat → Nat → Nat} {a' : Act} {v : Value} {G C : Nat → Nat} (hK : ∀ a' w', InvJ w n A a' w' → invMu n a' w' < n - t → K a' w')
    (hF : InvFr n v p a') (ht : t < n) (hw1 : Below w.heap.size w w1) (hp : w1.heap.size ≤ p) (hb : BoxAt W' p (t + 1)) (hm : m = 2 * n) (hO : Own w1 W' v n m G C M) (hg : LA.gj n (n - (t + 1)) (t + 1) M = LA.gj n n 0 (LA.aug n A)) : K a' W' := by
  subst hm
  exact hK _ _ ⟨w1, t + 1, p, v, G, C, M, hF, ht, hw1, hp, hb, hO, hg⟩ (by rw [hF.mu hb]; omega)
theorem inv_q (X I : Nat) (hX : X < 256) (h0 : X ≠ 0) (h : GF.inv X = I) (w : World) : Calls Try.prog 27 #[.int .u8 (X : Int)] w fun e w' => e = .returned (.tuple #[.int .u8 (I : Int), .int .i64 0]) ∧ w' = w :=
  (inv_nat X hX h0 w).mono fun e w' k => ⟨by rw [k.1, h], k.2.symm⟩

set_option maxRecDepth 100000 in
set_option maxHeartbeats 8000000 in
theorem inv_tail (w w1 W2 : World) (n m t p g cap : Nat) (G2 C2 : Nat → Nat) (N A : Nat → Nat → Nat) (a : Act) (K : Act → World → Prop) (hF : InvFr n (.slice (some ⟨g, 0, none⟩) n cap) p a) (t1 : t < n) (hm : m = 2 * n) (hn2 : n ≤ 32)
    (hw1 : Below w.heap.size w w1) (hp : w1.heap.size ≤ p) (hb : BoxAt W2 p t) (hO : Own w1 W2 (.slice (some ⟨g, 0, none⟩) n cap) n m G2 C2 N) (h0 : N t t ≠ 0) (hG : LA.gj n (n - (t + 1)) (t + 1) (clr t (LA.scl t N)) = LA.gj n n 0 (LA.aug n A))
    (hK : ∀ a' w', InvJ w n A a' w' → invMu n a' w' < n - t → K a' w') : invY.wp Try.prog (Exit.jump 0 K (bodyPost Try.prog Try.f12 (InvPost n A w))) a W2 := by
  have HNX := Lib.hid h0
  have HGJ := Lib.hid hG
  have HW1 := Lib.hid hw1
  have HP := Lib.hid hp
  have HB2 := Lib.hid hb
  have HS := Lib.hid hO
  have HM := Lib.hid hm
  have HK := Lib.hid hK
  have r2 : (n : Int) ≤ 32 := by omega
  have m3 : (m : Int) ≤ 64 := by omega
  have t0 : (0 : Int) ≤ (t : Int) := by omega
  have t2 : (t : Int) < (n : Int) := by omega
  have t3 : (t : Int) ≤ 32 := by omega
  have t4 : (t : Int) < (m : Int) := by omega
  have t5 : t < m := by omega
  have e1 := (hO.atc t t1).1
  have hXX := (hO.row t t1).2.2.2.lt (j := t) t5
  have e2 := (hO.row t t1).2.2.2.cell (j := t) t5
  obtain ⟨X, hX⟩ : ∃ X, X = N t t := ⟨_, rfl⟩
  rw [← hX] at e2 hXX
  have HX := Lib.hid hX
  obtain ⟨I, hI⟩ : ∃ I, GF.inv X = I := ⟨_, rfl⟩
  have hI2 : I < 256 := by rw [← hI]; exact GF.inv_lt _ hXX
  have HI := Lib.hid hI
  have HX0 : Hid (X ≠ 0) := Lib.hid (by rw [hX]; exact h0)
  have bx := hb.cell
  refine InvFr.elim (motive := fun x => Code.wp Try.prog invY _ x W2) hF ?_
  intro u0 u1 u2 u3 u5 u6 u8 u10 u11 u12 u13 u14 u15 u16 u17 u18 u19 u20 u21 u22 u23 u24 u25 u26 u27 u28 u29 u30 u31 u32 u33 u34 u35 u36 u37 u38 u39 u40 u41 u42 u43 u44 u45 u46 u47 u48 u49 u50 u51 u52 u53 u54 u55 u56 u57 u58 u59 u60 u61 u62 u63 u64 u65 u66 u67 u68 u69 u70 u71 u72 u73 u74 u75 u76 u77 u78 u79 u80 u81 u82 u83 u84 u85 u86 u87 u88 u89 u90 u91 u92 u93 u94 u95 u96 u97 u98 u99 u100 u101 u102 u103 u104 u105 u106 u107 u108 u109 u110 u111 u112 u113 u114 u115 u116 u117 u118 u119 u120 u121 u122 u123 u124 u125 u126 u127 u128 u129 u130 u131 u132 u133 u134 u135
  clear hX hI h0 hG hw1 hp hb hO hm hK hF
  refine invY_of (R := fun Y => Code.wp Try.prog Y _ _ W2) ⟨_, _, _, _, _, rfl, ?_⟩
  go_wp2_with fail
  go_quiet ((go_at_call 27; exact Calls.quiet_of_same (inv_q X I hXX HX0.out HI.out _)))
  go_wp2
  clear e1 e2 bx hXX
  go_loopw [112] (fun i wr => ∃ c : Nat, c ≤ m ∧ i = .int .i64 (c : Int) ∧ Own w1 wr (.slice (some ⟨g, 0, none⟩) n cap) n m G2 C2 (sclAt t c N) ∧ BoxAt wr p t) (fun i _ => m - (intOf i).toNat)
  case atStart => exact ⟨0, Nat.zero_le _, rfl, (HS.out.step ((Fresh.refl W2).drewN nq).below).congr fun i hi j hj => sclAt_zero t N i j, HB2.out⟩
  case round =>
    obtain ⟨c, hc, rfl, hO, hb⟩ := hrel
    have HC := Lib.hid hO
    have HB := Lib.hid hb
    have bx := hb.cell
    clear hO hb
    by_cases hcm : c < m
    · have c0 : (0 : Int) ≤ (c : Int) := by omega
      have c1 : (c : Int) < (m : Int) := by omega
      have c2 : (c : Int) ≤ 64 := by omega
      have d1 := (HC.out.atc t t1).1
      have x1 := (HC.out.row t t1).2.2.2.cell hcm
      have fz := (HC.out.row t t1).2.2.2.frozen hcm
      have b1 := (HS.out.row t t1).2.2.2.lt hcm
      rw [sclAt_here t c N] at x1
      obtain ⟨Y, hY⟩ : ∃ Y, Y = N t c := ⟨_, rfl⟩
      rw [← hY] at x1 b1
      obtain ⟨P, hP⟩ : ∃ P, GF.mul Y I = P := ⟨_, rfl⟩
      have p2 : P < 256 := by rw [← hP]; exact GF.mul_lt _ _ b1
      have HPP := Lib.hid hP
      have HQ : Hid (GF.mul (N t c) (GF.inv (N t t)) = P) := Lib.hid (by rw [← hY, ← HX.out, HI.out]; exact hP)
      clear hY hP
      go_wp2_with fail
      refine wp_region_still_tail 15 (by kernel_rfl) (by kernel_rfl) ?_
      simp only [List.take_succ_cons, List.take_zero, List.drop_succ_cons, List.drop_zero]
      repeat (first
        | still_step
        | still_call (mul_q Y I P b1 hI2 HPP.out _))
      refine wpStill_nil ?_
      change wpList _ _ _ _ _ wr.drew
      have HN := Lib.hid ((HC.out.step (Below.refl _ _).drew).put t c P t1 p2)
      have HNB : Hid (BoxAt (wr.drew.setCell ⟨G2 t, c, none⟩ (.int .u8 (P : Int))) p t) := Lib.hid (BoxAt.far (W := wr.drew) HB.out (fun e => HB.out.row_ne (HC.out.row t t1).2.2.2 e.symm) _)
      go_wp2
      go_roundw
      case rel => exact ⟨c + 1, by omega, by go_num, HN.out.congr fun i hi j hj => sclAt_put t c P N HQ.out i j, HNB.out⟩
      case measure => simp [intOf]; omega
    · obtain rfl : m = c := by omega
      have HC' := Lib.hid (HC.out.congr (N := LA.scl t N) fun i hi j hj => sclAt_full t m N i j hj)
      have c1 : ¬ (m : Int) < (m : Int) := by omega
      go_wp2_with fail
      refine (clear_any w1 wr _ n m t G2 C2 _ HC'.out hn2 (by omega) t1 t5).mono ?_
      rintro e w5 ⟨⟨u, rfl⟩, hO5, hK5⟩
      have H5 := Lib.hid hO5
      have HB5 := Lib.hid (HB.out.kept (fun i hi => (HC'.out.row i hi).2.2.2) hK5)
      clear hO5 hK5 bx
      have bx := HB5.out.cell
      have bf := HB5.out.free
      have HB6 := Lib.hid HB5.out.put1
      have H6 := Lib.hid (H5.out.far (Nat.le_trans HP.out (Nat.le_refl p)) (fun i hi => HB5.out.row_ne (H5.out.row i hi).2.2.2) (HB5.out.top_ne H5.out.top) 0 (.int .i64 ((t : Int) + 1)))
      go_wp2
      go_step3
      refine ⟨rfl, ?_⟩
      exact inv_next HK.out ⟨rfl, rfl, rfl, rfl, rfl⟩ t1 HW1.out HP.out HB6.out HM.out H6.out HGJ.out

set_option maxRecDepth 100000 in
set_option maxHeartbeats 8000000 in
theorem inv_pass (n : Nat) (A : Nat → Nat → Nat) (w : World) (hn1 : 1 ≤ n) (hn2 : n ≤ 32) (K : Act → World → Prop) (a : Act) (W : World) (hJ : InvJ w n A a W) (hK : ∀ a' w', InvJ w n A a' w' → invMu n a' w' < invMu n a W → K a' w') :
    invX.wp Try.prog (Exit.jump 0 K (bodyPost Try.prog Try.f12 (InvPost n A w))) a W := by
  have r0 : 0 < n := hn1
  have r1 : (0 : Int) < (n : Int) := by omega
  have r2 : (n : Int) ≤ 32 := by omega
  obtain ⟨w1, t, p, v, G, C, M, hF, htn, hw1, hp, hbox, hO, hG⟩ := hJ
  rw [hF.mu hbox] at hK
  have HK := Lib.hid hK
  clear hK
  refine InvFr.elim (motive := fun x => Code.wp Try.prog invX _ x W) hF ?_
  intro u0 u1 u2 u3 u5 u6 u8 u10 u11 u12 u13 u14 u15 u16 u17 u18 u19 u20 u21 u22 u23 u24 u25 u26 u27 u28 u29 u30 u31 u32 u33 u34 u35 u36 u37 u38 u39 u40 u41 u42 u43 u44 u45 u46 u47 u48 u49 u50 u51 u52 u53 u54 u55 u56 u57 u58 u59 u60 u61 u62 u63 u64 u65 u66 u67 u68 u69 u70 u71 u72 u73 u74 u75 u76 u77 u78 u79 u80 u81 u82 u83 u84 u85 u86 u87 u88 u89 u90 u91 u92 u93 u94 u95 u96 u97 u98 u99 u100 u101 u102 u103 u104 u105 u106 u107 u108 u109 u110 u111 u112 u113 u114 u115 u116 u117 u118 u119 u120 u121 u122 u123 u124 u125 u126 u127 u128 u129 u130 u131 u132 u133 u134 u135
  have HB := Lib.hid hbox
  have HG := Lib.hid hG
  have HW1 := Lib.hid hw1
  have HP := Lib.hid hp
  obtain ⟨m, hm⟩ : ∃ m, m = 2 * n := ⟨_, rfl⟩
  have HM := Lib.hid hm
  have m1 : n < m := by omega
  have m2 : (n : Int) ≤ (m : Int) := by omega
  have m3 : (m : Int) ≤ 64 := by omega
  rw [← hm] at hO
  have HO := Lib.hid hO
  have bx := hbox.cell
  obtain ⟨g, cap, rfl, hg, c1, c2, htop⟩ := hO.at (by omega)
  have HT := Lib.hid htop
  have c3 : (n : Int) ≤ (cap : Int) := by omega
  have c4 : (cap : Int) ≤ 9223372036854775807 := by unfold maxLen at c2; omega
  clear hF hbox hG hw1 hp hm hO htop c2
  refine invX_of (R := fun X => Code.wp Try.prog X _ _ W) ⟨_, rfl, ?_⟩
  by_cases ht : t = n
  · obtain rfl : n = t := ht.symm
    have q1 : ((n : Int) == (n : Int)) = true := by simp
    clear ht
    go_wp2
    clear bx
    go_loopw [57] (fun i wr => ∃ k : Nat, k ≤ n ∧ i = .int .i64 (k : Int) ∧ Fin w1 wr g n m G C M k) (fun i _ => n - (intOf i).toNat)
    case atStart => exact ⟨0, Nat.zero_le _, rfl, Fin.start HO.out r0⟩
    case round =>
      obtain ⟨k, hk, rfl, hF⟩ := hrel
      have HX := Lib.hid hF
      clear hF
      by_cases hkn : k < n
      · have k0 : (0 : Int) ≤ (k : Int) := by omega
        have k1 : (k : Int) < (n : Int) := by omega
        have k2 : (k : Int) ≤ 32 := by omega
        have dk := HX.out.todo k (Nat.le_refl _) hkn
        have fk := HX.out.free k hkn
        have ck : n < C k := Nat.lt_of_lt_of_le m1 (HX.out.row k hkn).2.2.1
        have ck2 : (m : Int) ≤ (C k : Int) := by have := (HX.out.row k hkn).2.2.1; omega
        go_wp2
        have HY := Lib.hid (HX.out.put hkn)
        go_roundw
        case rel => exact ⟨k + 1, by omega, by go_num, HY.out⟩
        case measure => simp [intOf]; omega
      · obtain rfl : n = k := by omega
        go_wp2
        simp only [Exit.jump]
        go_ret2
        exact ⟨HW1.out.trans (HX.out.below.mono HW1.out.size), .inr ⟨M, ⟨g, 0, none⟩, cap, by rw [← HG.out, gj_end], rfl, HX.out.grid HM.out hn2⟩⟩
  · have t0 : (0 : Int) ≤ (t : Int) := by omega
    have t1 : t < n := by omega
    have t2 : (t : Int) < (n : Int) := by omega
    have t3 : (t : Int) ≤ 32 := by omega
    have t4 : (t : Int) < (m : Int) := by omega
    have q1 : ((t : Int) == (n : Int)) = false := by rw [beq_eq_false_iff_ne]; omega
    have hmf : ∀ (fn : Fn) (first cap : Array Value) (w : World), (Instr.makeFunc fn first cap).run Try.prog w = .ok (.func fn first cap) w := fun _ _ _ _ => rfl
    clear ht
    go_wp2_with fail
    refine (index_any g t (n - t) (cap - t) m p t (fun i => G (t + i)) (fun i => C (t + i)) (fun i => M (t + i) t) W (by omega) (by omega) (by omega) HB.out.cell (fun i hi => ⟨(HT.out (t + i) (by omega)).1, (HO.out.row (t + i) (by omega)).2.2.2.cell (by omega)⟩)).mono ?_
    rintro e w2 ⟨r, rfl, hidx, rfl⟩
    rcases idx_piv t1 hidx with ⟨rfl, hpv⟩ | ⟨i, rfl, hin, hpv, hne⟩
    · have HPV := Lib.hid hpv
      clear hidx hpv
      go_wp2
      simp only [Exit.jump]
      go_ret2
      exact ⟨HW1.out.trans (HO.out.below.mono HW1.out.size), .inl ⟨by rw [← HG.out, gj_stop t1 HPV.out], rfl⟩⟩
    · have HPV := Lib.hid hpv
      have HNE := Lib.hid hne
      have i0 : (0 : Int) ≤ (i : Int) := by omega
      have i1 : ¬ (i : Int) < 0 := by omega
      have i2 : (t : Int) + (i : Int) < (n : Int) := by omega
      have i3 : (0 : Int) ≤ (t : Int) + (i : Int) := by omega
      have da := (HT.out t t1).1
      have db := (HT.out (t + i) hin).1
      have fa := (HT.out t t1).2.1
      have fb := (HT.out (t + i) hin).2.1
      obtain ⟨G2, C2, N, hS, hNX, hGJ⟩ := swap_pack HO.out t1 hin HPV.out HNE.out HG.out
      have HS := Lib.hid hS
      have HNX := Lib.hid hNX
      have HGJ := Lib.hid hGJ
      clear hS hNX hGJ
      have HB2 : Hid (BoxAt ((W.setCell ⟨g, t, none⟩ (.slice (some ⟨G (t + i), 0, none⟩) m (C (t + i)))).setCell ⟨g, t + i, none⟩ (.slice (some ⟨G t, 0, none⟩) m (C t))).drew p t) := Lib.hid ((HB.out.far (a := ⟨g, t, none⟩) (fun e => HB.out.top_ne HO.out.top (by rw [e]; rfl)) (.slice (some ⟨G (t + i), 0, none⟩) m (C (t + i)))).far (a := ⟨g, t + i, none⟩) (fun e => HB.out.top_ne HO.out.top (by rw [e]; rfl)) (.slice (some ⟨G t, 0, none⟩) m (C t)))
      obtain ⟨vz, hz⟩ := cell?_setCell_some (w := W) (p := ⟨g, t, none⟩) (x := .slice (some ⟨G (t + i), 0, none⟩) m (C (t + i))) (q := ⟨g, t + i, none⟩) db
      have hbz := (HB.out.far (a := ⟨g, t, none⟩) (fun e => HB.out.top_ne HO.out.top (by rw [e]; rfl)) (.slice (some ⟨G (t + i), 0, none⟩) m (C (t + i)))).cell
      clear hidx hpv hne
      go_wp2_with fail
      go_region
      refine (show ∀ (a : Act) (w : World), _ → _ by assumption) _ _ ?_
      exact inv_tail w w1 _ n m t p g cap G2 C2 N A _ K ⟨rfl, rfl, rfl, rfl, rfl⟩ t1 HM.out hn2 HW1.out HP.out HB2.out HS.out HNX.out HGJ.out HK.out

set_option maxRecDepth 100000 in
set_option maxHeartbeats 8000000 in
theorem inverse_yes (a : Option Addr) (n ca : Nat) (A : Nat → Nat → Nat) (w : World) (gA : Grid w a n (fun _ => n) A) (hA : May n (fun _ => n)) : Calls Try.prog 12 #[.slice a n ca] w (InvPost n A w) := by
  have GA := Lib.hid gA
  have HMA := Lib.hid hA
  have hn1 : 1 ≤ n := hA.1
  have hn2 : n ≤ 32 := hA.2.1
  obtain ⟨xa, oa, CA, BA, OA, rfl, cA⟩ := gA.at hn1 hn1
  have d0 := (cA 0 hn1).1
  rw [Nat.add_zero] at d0
  have HC := Lib.hid cA
  have q : ((n : Int) != (n : Int)) = false := by simp
  have r0 : 0 < n := hn1
  have r1 : (0 : Int) < (n : Int) := by omega
  have r2 : (n : Int) ≤ 32 := by omega
  clear gA hA cA
  go_enter Try.func12, Try.ntmps12
  go_wp2
  refine wp_scope_label 0 (InvJ w n A) (invMu n) rfl ?_ ?_
  · exact fun K a W hJ hK => inv_pass n A w hn1 hn2 K a W hJ hK
  · intro HP
    have HP' : Hid (∀ a W, InvJ w n A a W → invX.wp Try.prog (Exit.jump 0 (InvJ w n A) (bodyPost Try.prog Try.f12 (InvPost n A w))) a W) := Lib.hid fun a W h => inv_pass n A w hn1 hn2 _ a W h fun _ _ hj _ => hj
    clear HP
    go_wp2_with fail
    refine (may_any (some ⟨xa, oa, none⟩) n ca _ _ w GA.out true ⟨fun _ => HMA.out, fun _ => rfl⟩).mono ?_
    rintro e w' ⟨rfl, rfl⟩
    go_wp2_with fail
    refine (identity_yes n ⟨hn1, hn2⟩ w).mono ?_
    rintro e w1 ⟨rfl, hO⟩
    have HO := Lib.hid hO
    clear hO
    obtain ⟨i0, hi, hz0, hz1, hz2⟩ := info22
    go_wp2
    go_loopw [7, 8, 35] (fun v _ i wr => ∃ (k : Nat) (G C : Nat → Nat), k ≤ n ∧ i = .int .i64 (k : Int) ∧ Own w1 wr v k (2 * n) G C (LA.aug n A)) (fun _ _ i _ => n - (intOf i).toNat)
    case atStart => exact ⟨0, fun _ => 0, fun _ => 0, Nat.zero_le _, rfl, Own.start (Below.refl _ _) _ _ _ _⟩
    case round =>
      obtain ⟨k, G, C, hk, rfl, hO⟩ := hrel
      have HK := Lib.hid hO
      clear hO
      by_cases hkn : k < n
      · have k0 : (0 : Int) ≤ (k : Int) := by omega
        have k1 : (k : Int) < (n : Int) := by omega
        have k2 : (k : Int) ≤ 32 := by omega
        have HD := Lib.hid (below_cell HO.out.fresh.below (HC.out k hkn).1)
        have HE := Lib.hid (show w1.cell? ⟨w.heap.size, k, none⟩ = some (.slice (some ⟨w.heap.size + 1 + k, 0, none⟩) n n) by
          have := HO.out.top.cell hkn
          rwa [show Ytlpmehnffdaobaa.top w.heap.size (fun _ => n) n k = .slice (some ⟨w.heap.size + 1 + k, 0, none⟩) n n from if_pos hkn] at this)
        have HS : Hid (∀ W', Below w1.heap.size w1 W' → W'.cell? ⟨xa, oa + k, none⟩ = some (.slice (some ⟨BA k, OA k, none⟩) n (CA k)) ∧ W'.cell? ⟨w.heap.size, k, none⟩ = some (.slice (some ⟨w.heap.size + 1 + k, 0, none⟩) n n)) :=
          Lib.hid fun W' f => ⟨below_cell f HD.out, below_cell f HE.out⟩
        have HR : Hid (∀ W', Below w1.heap.size w1 W' → ∀ i, i < 2 → _) := Lib.hid fun W' (f : Below w1.heap.size w1 W') => two_rows (BO := w.heap.size + 1 + k) (CO := n) (CA := CA k) (n := n) (f := A k) (g := idm k) f
          (fun j hj => ⟨below_cell HO.out.fresh.below ((HC.out k hkn).2 j hj).1, ((HC.out k hkn).2 j hj).2⟩) (fun j hj => ⟨by have := (HO.out.done k hkn).cell hj; simpa using this, idm_lt k j⟩)
        have HQ1 := Lib.hid (show 0 < 2 * n by omega)
        have HQ2 : Hid (∀ j, j < 2 * n → cat n (pkF (A k) (idm k)) j = LA.aug n A k j) := Lib.hid fun j hj => cat_aug n A k j hj
        have HQ3 : Hid (∀ j, j < 2 * n → LA.aug n A k j < 256) := Lib.hid fun j hj => LA.aug_bytes (fun i hi j hj => gA_lt GA.out i hi j hj) k hkn j (by omega)
        have HQ4 : Hid (k + 1 ≤ maxLen) := Lib.hid (by unfold maxLen; omega)
        have HQ5 : Hid ((k + 1) * 24 ≤ 140737488355328) := Lib.hid (by omega)
        clear d0
        go_wp2_with fail
        go_region_held3 (fun W' => Below w1.heap.size w1 W' ∧ W'.cell? ⟨xa, oa + k, none⟩ = some (.slice (some ⟨BA k, OA k, none⟩) n (CA k)) ∧ W'.cell? ⟨w.heap.size, k, none⟩ = some (.slice (some ⟨w.heap.size + 1 + k, 0, none⟩) n n))
          (first
            | exact ⟨HK.out.below.drew, (HS.out _ HK.out.below.drew).1, (HS.out _ HK.out.below.drew).2⟩
            | exact ⟨(HK.out.below.alloc HK.out.below.size _).drew, (HS.out _ (HK.out.below.alloc HK.out.below.size _).drew).1, (HS.out _ (HK.out.below.alloc HK.out.below.size _).drew).2⟩
            | exact ⟨HB4.out, (HS.out _ HB4.out).1, (HS.out _ HB4.out).2⟩
            | exact ⟨HB4.out.alloc HB4.out.size _, (HS.out _ (HB4.out.alloc HB4.out.size _)).1, (HS.out _ (HB4.out.alloc HB4.out.size _)).2⟩
            | exact ⟨HP5.out.below, (HS.out _ HP5.out.below).1, (HS.out _ HP5.out.below).2⟩)
          (first
            | (go_at_call 24; refine (joined_any wr.heap.size n (pk (BA k) (w.heap.size + 1 + k)) (pk (OA k) 0) (pk (CA k) n) (pkF (A k) (idm k)) hn1 hn2 _ (HR.out _ HK.out.below)).mono ?_; rintro e w4 ⟨v3, rfl, hR⟩
               obtain ⟨g3, cap3, rfl, r1, r2, r3, r4, r5, r6, r7⟩ := joined_arm HK.out.below hR HQ1.out HQ2.out HQ3.out
               have HB4 := Lib.hid r1
               have HW4 := Lib.hid r2
               have HR4 := Lib.hid (And.intro r3 (And.intro r4 (And.intro r5 (And.intro r6 r7))))
               clear r1 r2 r3 r4 r5 r6 r7 hR)
            | (refine step_append_lies _ (by rfl) _ _ _ (by rfl) w1.heap.size 38 i0 (.slice none 0 0) 1 24 Try.underlying22 hi hz0 hz1 hz2 rfl (by decide) _ _ _ (by rfl) (HK.out.step (HW4.out.alloc HW4.out.size (.cells #[.slice (some ⟨g3, 0, none⟩) (2 * n) cap3] 38))).top ⟨w4.heap.size, 0, none⟩ 1 1 [.slice (some ⟨g3, 0, none⟩) (2 * n) cap3] (by rfl) (by rfl) (one_slot (one_cell w4 _ _)) one_ones Nat.one_pos HQ4.out HQ5.out (alloc_le HB4.out.size _) (w4.heap.size + 1) (alloc_size w4 _) ?_
               intro g5 cap5 w5 hown5 hgrow5 hat5 hlt5
               obtain ⟨G5, C5, hP5⟩ := push_arm HK.out HW4.out HR4.out.1 HR4.out.2.1 HR4.out.2.2.1 HR4.out.2.2.2.1 HR4.out.2.2.2.2 hown5 hgrow5
               have HP5 := Lib.hid hP5
               clear hP5 hown5 hgrow5 hat5 hlt5))
        go_wp2
        go_roundw
        case rel => exact ⟨k + 1, G5, C5, by omega, by go_num, HP5.out⟩
        case measure => simp [intOf]; omega
      · obtain rfl : n = k := by omega
        go_wp2
        go_step3
        refine (show ∀ (a : Act) (w : World), _ → _ by assumption) _ _ ?_
        refine HP'.out _ _ ?_
        exact ⟨w1, 0, wr.heap.size, _, G, C, LA.aug n A, ⟨rfl, rfl, rfl, rfl, rfl⟩, Nat.zero_le _, HO.out.fresh.below, HK.out.below.size, BoxAt.start wr, HK.out.step ((Below.refl _ _).alloc (Nat.le_refl _) _), rfl⟩
end Go.Proofs.Ytlpmehnffdaobaa
