/- The document's Inverse walked. (Printed by matrinv.py.) -/
import Derived.Test.YtlpmehnffdaobaaRInvM
import Derived.Test.YtlpmehnffdaobaaInvW
import Derived.StillTailTactics
namespace Go.Proofs.Ytlpmehnffdaobaa
open Go.RowKit Go.Deep
set_option linter.unusedVariables false
/-- the frame of the steps -/
def RFr (n : Nat) (vW vO : Value) (t : Nat) (a : Act) : Prop := a.defers = [] ∧ a.tmps.size = 221 ∧ a.tmps.getD 5 undef = .int .i64 (n : Int) ∧ a.tmps.getD 6 undef = vO ∧ a.tmps.getD 8 undef = vW ∧ a.tmps.getD 10 undef = .int .i64 (t : Int)
theorem arr_lit2 (x : Array Value) (h : x.size = 221) : x = #[x.getD 0 undef, x.getD 1 undef, x.getD 2 undef, x.getD 3 undef, x.getD 4 undef, x.getD 5 undef, x.getD 6 undef, x.getD 7 undef, x.getD 8 undef, x.getD 9 undef, x.getD 10 undef, x.getD 11 undef, x.getD 12 undef, x.getD 13 undef, x.getD 14 undef, x.getD 15 undef, x.getD 16 undef, x.getD 17 undef, x.getD 18 undef, x.getD 19 undef, x.getD 20 undef, x.getD 21 undef, x.getD 22 undef, x.getD 23 undef, x.getD 24 undef, x.getD 25 undef, x.getD 26 undef, x.getD 27 undef, x.getD 28 undef, x.getD 29 undef, x.getD 30 undef, x.getD 31 undef, x.getD 32 undef, x.getD 33 undef, x.getD 34 undef, x.getD 35 undef, x.getD 36 undef, x.getD 37 undef, x.getD 38 undef, x.getD 39 undef, x.getD 40 undef, x.getD 41 undef, x.getD 42 undef, x.getD 43 undef, x.getD 44 undef, x.getD 45 undef, x.getD 46 undef, x.getD 47 undef, x.getD 48 undef, x.getD 49 undef, x.getD 50 undef, x.getD 51 undef, x.getD 52 undef, x.getD 53 undef, x.getD 54 undef, x.getD 55 undef, x.getD 56 undef, x.getD 57 undef, x.getD 58 undef, x.getD 59 undef, x.getD 60 undef, x.getD 61 undef, x.getD 62 undef, x.getD 63 undef, x.getD 64 undef, x.getD 65 undef, x.getD 66 undef, x.getD 67 undef, x.getD 68 undef, x.getD 69 undef, x.getD 70 undef, x.getD 71 undef, x.getD 72 undef, x.getD 73 undef, x.getD 74 undef, x.getD 75 undef, x.getD 76 undef, x.getD 77 undef, x.getD 78 undef, x.getD 79 undef, x.getD 80 undef, x.getD 81 undef, x.getD 82 undef, x.getD 83 undef, x.getD 84 undef, x.getD 85 undef, x.getD 86 undef, x.getD 87 undef, x.getD 88 undef, x.getD 89 undef, x.getD 90 undef, x.getD 91 undef, x.getD 92 undef, x.getD 93 undef, x.getD 94 undef, x.getD 95 undef, x.getD 96 undef, x.getD 97 undef, x.getD 98 undef, x.getD 99 undef, x.getD 100 undef, x.getD 101 undef, x.getD 102 undef, x.getD 103 undef, x.getD 104 undef, x.getD 105 undef, x.getD 106 undef, x.getD 107 undef, x.getD 108 undef, x.getD 109 undef, x.getD 110 undef, x.getD 111 undef, x.getD 112 undef, x.getD 113 undef, x.getD 114 undef, x.getD 115 undef, x.getD 116 undef, x.getD 117 undef, x.getD 118 undef, x.getD 119 undef, x.getD 120 undef, x.getD 121 undef, x.getD 122 undef, x.getD 123 undef, x.getD 124 undef, x.getD 125 undef, x.getD 126 undef, x.getD 127 undef, x.getD 128 undef, x.getD 129 undef, x.getD 130 undef, x.getD 131 undef, x.getD 132 undef, x.getD 133 undef, x.getD 134 undef, x.getD 135 undef, x.getD 136 undef, x.getD 137 undef, x.getD 138 undef, x.getD 139 undef, x.getD 140 undef, x.getD 141 undef, x.getD 142 undef, x.getD 143 undef, x.getD 144 undef, x.getD 145 undef, x.getD 146 undef, x.getD 147 undef, x.getD 148 undef, x.getD 149 undef, x.getD 150 undef, x.getD 151 undef, x.getD 152 undef, x.getD 153 undef, x.getD 154 undef, x.getD 155 undef, x.getD 156 undef, x.getD 157 undef, x.getD 158 undef, x.getD 159 undef, x.getD 160 undef, x.getD 161 undef, x.getD 162 undef, x.getD 163 undef, x.getD 164 undef, x.getD 165 undef, x.getD 166 undef, x.getD 167 undef, x.getD 168 undef, x.getD 169 undef, x.getD 170 undef, x.getD 171 undef, x.getD 172 undef, x.getD 173 undef, x.getD 174 undef, x.getD 175 undef, x.getD 176 undef, x.getD 177 undef, x.getD 178 undef, x.getD 179 undef, x.getD 180 undef, x.getD 181 undef, x.getD 182 undef, x.getD 183 undef, x.getD 184 undef, x.getD 185 undef, x.getD 186 undef, x.getD 187 undef, x.getD 188 undef, x.getD 189 undef, x.getD 190 undef, x.getD 191 undef, x.getD 192 undef, x.getD 193 undef, x.getD 194 undef, x.getD 195 undef, x.getD 196 undef, x.getD 197 undef, x.getD 198 undef, x.getD 199 undef, x.getD 200 undef, x.getD 201 undef, x.getD 202 undef, x.getD 203 undef, x.getD 204 undef, x.getD 205 undef, x.getD 206 undef, x.getD 207 undef, x.getD 208 undef, x.getD 209 undef, x.getD 210 undef, x.getD 211 undef, x.getD 212 undef, x.getD 213 undef, x.getD 214 undef, x.getD 215 undef, x.getD 216 undef, x.getD 217 undef, x.getD 218 undef, x.getD 219 undef, x.getD 220 undef] := by
  apply Array.ext'
  apply List.ext_getElem?
  intro i
  have e : (#[x.getD 0 undef, x.getD 1 undef, x.getD 2 undef, x.getD 3 undef, x.getD 4 undef, x.getD 5 undef, x.getD 6 undef, x.getD 7 undef, x.getD 8 undef, x.getD 9 undef, x.getD 10 undef, x.getD 11 undef, x.getD 12 undef, x.getD 13 undef, x.getD 14 undef, x.getD 15 undef, x.getD 16 undef, x.getD 17 undef, x.getD 18 undef, x.getD 19 undef, x.getD 20 undef, x.getD 21 undef, x.getD 22 undef, x.getD 23 undef, x.getD 24 undef, x.getD 25 undef, x.getD 26 undef, x.getD 27 undef, x.getD 28 undef, x.getD 29 undef, x.getD 30 undef, x.getD 31 undef, x.getD 32 undef, x.getD 33 undef, x.getD 34 undef, x.getD 35 undef, x.getD 36 undef, x.getD 37 undef, x.getD 38 undef, x.getD 39 undef, x.getD 40 undef, x.getD 41 undef, x.getD 42 undef, x.getD 43 undef, x.getD 44 undef, x.getD 45 undef, x.getD 46 undef, x.getD 47 undef, x.getD 48 undef, x.getD 49 undef, x.getD 50 undef, x.getD 51 undef, x.getD 52 undef, x.getD 53 undef, x.getD 54 undef, x.getD 55 undef, x.getD 56 undef, x.getD 57 undef, x.getD 58 undef, x.getD 59 undef, x.getD 60 undef, x.getD 61 undef, x.getD 62 undef, x.getD 63 undef, x.getD 64 undef, x.getD 65 undef, x.getD 66 undef, x.getD 67 undef, x.getD 68 undef, x.getD 69 undef, x.getD 70 undef, x.getD 71 undef, x.getD 72 undef, x.getD 73 undef, x.getD 74 undef, x.getD 75 undef, x.getD 76 undef, x.getD 77 undef, x.getD 78 undef, x.getD 79 undef, x.getD 80 undef, x.getD 81 undef, x.getD 82 undef, x.getD 83 undef, x.getD 84 undef, x.getD 85 undef, x.getD 86 undef, x.getD 87 undef, x.getD 88 undef, x.getD 89 undef, x.getD 90 undef, x.getD 91 undef, x.getD 92 undef, x.getD 93 undef, x.getD 94 undef, x.getD 95 undef, x.getD 96 undef, x.getD 97 undef, x.getD 98 undef, x.getD 99 undef, x.getD 100 undef, x.getD 101 undef, x.getD 102 undef, x.getD 103 undef, x.getD 104 undef, x.getD 105 undef, x.getD 106 undef, x.getD 107 undef, x.getD 108 undef, x.getD 109 undef, x.getD 110 undef, x.getD 111 undef, x.getD 112 undef, x.getD 113 undef, x.getD 114 undef, x.getD 115 undef, x.getD 116 undef, x.getD 117 undef, x.getD 118 undef, x.getD 119 undef, x.getD 120 undef, x.getD 121 undef, x.getD 122 undef, x.getD 123 undef, x.getD 124 undef, x.getD 125 undef, x.getD 126 undef, x.getD 127 undef, x.getD 128 undef, x.getD 129 undef, x.getD 130 undef, x.getD 131 undef, x.getD 132 undef, x.getD 133 undef, x.getD 134 undef, x.getD 135 undef, x.getD 136 undef, x.getD 137 undef, x.getD 138 undef, x.getD 139 undef, x.getD 140 undef, x.getD 141 undef, x.getD 142 undef, x.getD 143 undef, x.getD 144 undef, x.getD 145 undef, x.getD 146 undef, x.getD 147 undef, x.getD 148 undef, x.getD 149 undef, x.getD 150 undef, x.getD 151 undef, x.getD 152 undef, x.getD 153 undef, x.getD 154 undef, x.getD 155 undef, x.getD 156 undef, x.getD 157 undef, x.getD 158 undef, x.getD 159 undef, x.getD 160 undef, x.getD 161 undef, x.getD 162 undef, x.getD 163 undef, x.getD 164 undef, x.getD 165 undef, x.getD 166 undef, x.getD 167 undef, x.getD 168 undef, x.getD 169 undef, x.getD 170 undef, x.getD 171 undef, x.getD 172 undef, x.getD 173 undef, x.getD 174 undef, x.getD 175 undef, x.getD 176 undef, x.getD 177 undef, x.getD 178 undef, x.getD 179 undef, x.getD 180 undef, x.getD 181 undef, x.getD 182 undef, x.getD 183 undef, x.getD 184 undef, x.getD 185 undef, x.getD 186 undef, x.getD 187 undef, x.getD 188 undef, x.getD 189 undef, x.getD 190 undef, x.getD 191 undef, x.getD 192 undef, x.getD 193 undef, x.getD 194 undef, x.getD 195 undef, x.getD 196 undef, x.getD 197 undef, x.getD 198 undef, x.getD 199 undef, x.getD 200 undef, x.getD 201 undef, x.getD 202 undef, x.getD 203 undef, x.getD 204 undef, x.getD 205 undef, x.getD 206 undef, x.getD 207 undef, x.getD 208 undef, x.getD 209 undef, x.getD 210 undef, x.getD 211 undef, x.getD 212 undef, x.getD 213 undef, x.getD 214 undef, x.getD 215 undef, x.getD 216 undef, x.getD 217 undef, x.getD 218 undef, x.getD 219 undef, x.getD 220 undef] : Array Value).toList = (List.range 221).map fun i => x.getD i undef := rfl
  rw [e]
  by_cases hi : i < 221
  · rw [List.getElem?_map, List.getElem?_range hi]
    simp [h, hi]
  · rw [List.getElem?_eq_none (by simp; omega), List.getElem?_eq_none (by simp; omega)]
theorem RFr.elim {n t : Nat} {vW vO : Value} {motive : Act → Prop} {a : Act} (h : RFr n vW vO t a) (H : ∀ u0 u1 u2 u3 u4 u7 u9 u11 u12 u13 u14 u15 u16 u17 u18 u19 u20 u21 u22 u23 u24 u25 u26 u27 u28 u29 u30 u31 u32 u33 u34 u35 u36 u37 u38 u39 u40 u41 u42 u43 u44 u45 u46 u47 u48 u49 u50 u51 u52 u53 u54 u55 u56 u57 u58 u59 u60 u61 u62 u63 u64 u65 u66 u67 u68 u69 u70 u71 u72 u73 u74 u75 u76 u77 u78 u79 u80 u81 u82 u83 u84 u85 u86 u87 u88 u89 u90 u91 u92 u93 u94 u95 u96 u97 u98 u99 u100 u101 u102 u103 u104 u105 u106 u107 u108 u109 u110 u111 u112 u113 u114 u115 u116 u117 u118 u119 u120 u121 u122 u123 u124 u125 u126 u127 u128 u129 u130 u131 u132 u133 u134 u135 u136 u137 u138 u139 u140 u141 u142 u143 u144 u145 u146 u147 u148 u149 u150 u151 u152 u153 u154 u155 u156 u157 u158 u159 u160 u161 u162 u163 u164 u165 u166 u167 u168 u169 u170 u171 u172 u173 u174 u175 u176 u177 u178 u179 u180 u181 u182 u183 u184 u185 u186 u187 u188 u189 u190 u191 u192 u193 u194 u195 u196 u197 u198 u199 u200 u201 u202 u203 u204 u205 u206 u207 u208 u209 u210 u211 u212 u213 u214 u215 u216 u217 u218 u219 u220 : Value, motive { tmps := #[u0, u1, u2, u3, u4, .int .i64 (n : Int), vO, u7, vW, u9, .int .i64 (t : Int), u11, u12, u13, u14, u15, u16, u17, u18, u19, u20, u21, u22, u23, u24, u25, u26, u27, u28, u29, u30, u31, u32, u33, u34, u35, u36, u37, u38, u39, u40, u41, u42, u43, u44, u45, u46, u47, u48, u49, u50, u51, u52, u53, u54, u55, u56, u57, u58, u59, u60, u61, u62, u63, u64, u65, u66, u67, u68, u69, u70, u71, u72, u73, u74, u75, u76, u77, u78, u79, u80, u81, u82, u83, u84, u85, u86, u87, u88, u89, u90, u91, u92, u93, u94, u95, u96, u97, u98, u99, u100, u101, u102, u103, u104, u105, u106, u107, u108, u109, u110, u111, u112, u113, u114, u115, u116, u117, u118, u119, u120, u121, u122, u123, u124, u125, u126, u127, u128, u129, u130, u131, u132, u133, u134, u135, u136, u137, u138, u139, u140, u141, u142, u143, u144, u145, u146, u147, u148, u149, u150, u151, u152, u153, u154, u155, u156, u157, u158, u159, u160, u161, u162, u163, u164, u165, u166, u167, u168, u169, u170, u171, u172, u173, u174, u175, u176, u177, u178, u179, u180, u181, u182, u183, u184, u185, u186, u187, u188, u189, u190, u191, u192, u193, u194, u195, u196, u197, u198, u199, u200, u201, u202, u203, u204, u205, u206, u207, u208, u209, u210, u211, u212, u213, u214, u215, u216, u217, u218, u219, u220], defers := [] }) : motive a := by
  obtain ⟨h1, h2, h3, h4, h5, h6⟩ := h
  have e : a = { tmps := #[a.tmps.getD 0 undef, a.tmps.getD 1 undef, a.tmps.getD 2 undef, a.tmps.getD 3 undef, a.tmps.getD 4 undef, .int .i64 (n : Int), vO, a.tmps.getD 7 undef, vW, a.tmps.getD 9 undef, .int .i64 (t : Int), a.tmps.getD 11 undef, a.tmps.getD 12 undef, a.tmps.getD 13 undef, a.tmps.getD 14 undef, a.tmps.getD 15 undef, a.tmps.getD 16 undef, a.tmps.getD 17 undef, a.tmps.getD 18 undef, a.tmps.getD 19 undef, a.tmps.getD 20 undef, a.tmps.getD 21 undef, a.tmps.getD 22 undef, a.tmps.getD 23 undef, a.tmps.getD 24 undef, a.tmps.getD 25 undef, a.tmps.getD 26 undef, a.tmps.getD 27 undef, a.tmps.getD 28 undef, a.tmps.getD 29 undef, a.tmps.getD 30 undef, a.tmps.getD 31 undef, a.tmps.getD 32 undef, a.tmps.getD 33 undef, a.tmps.getD 34 undef, a.tmps.getD 35 undef, a.tmps.getD 36 undef, a.tmps.getD 37 undef, a.tmps.getD 38 undef, a.tmps.getD 39 undef, a.tmps.getD 40 undef, a.tmps.getD 41 undef, a.tmps.getD 42 undef, a.tmps.getD 43 undef, a.tmps.getD 44 undef, a.tmps.getD 45 undef, a.tmps.getD 46 undef, a.tmps.getD 47 undef, a.tmps.getD 48 undef, a.tmps.getD 49 undef, a.tmps.getD 50 undef, a.tmps.getD 51 undef, a.tmps.getD 52 undef, a.tmps.getD 53 undef, a.tmps.getD 54 undef, a.tmps.getD 55 undef, a.tmps.getD 56 undef, a.tmps.getD 57 undef, a.tmps.getD 58 undef, a.tmps.getD 59 undef, a.tmps.getD 60 undef, a.tmps.getD 61 undef, a.tmps.getD 62 undef, a.tmps.getD 63 undef, a.tmps.getD 64 undef, a.tmps.getD 65 undef, a.tmps.getD 66 undef, a.tmps.getD 67 undef, a.tmps.getD 68 undef, a.tmps.getD 69 undef, a.tmps.getD 70 undef, a.tmps.getD 71 undef, a.tmps.getD 72 undef, a.tmps.getD 73 undef, a.tmps.getD 74 undef, a.tmps.getD 75 undef, a.tmps.getD 76 undef, a.tmps.getD 77 undef, a.tmps.getD 78 undef, a.tmps.getD 79 undef, a.tmps.getD 80 undef, a.tmps.getD 81 undef, a.tmps.getD 82 undef, a.tmps.getD 83 undef, a.tmps.getD 84 undef, a.tmps.getD 85 undef, a.tmps.getD 86 undef, a.tmps.getD 87 undef, a.tmps.getD 88 undef, a.tmps.getD 89 undef, a.tmps.getD 90 undef, a.tmps.getD 91 undef, a.tmps.getD 92 undef, a.tmps.getD 93 undef, a.tmps.getD 94 undef, a.tmps.getD 95 undef, a.tmps.getD 96 undef, a.tmps.getD 97 undef, a.tmps.getD 98 undef, a.tmps.getD 99 undef, a.tmps.getD 100 undef, a.tmps.getD 101 undef, a.tmps.getD 102 undef, a.tmps.getD 103 undef, a.tmps.getD 104 undef, a.tmps.getD 105 undef, a.tmps.getD 106 undef, a.tmps.getD 107 undef, a.tmps.getD 108 undef, a.tmps.getD 109 undef, a.tmps.getD 110 undef, a.tmps.getD 111 undef, a.tmps.getD 112 undef, a.tmps.getD 113 undef, a.tmps.getD 114 undef, a.tmps.getD 115 undef, a.tmps.getD 116 undef, a.tmps.getD 117 undef, a.tmps.getD 118 undef, a.tmps.getD 119 undef, a.tmps.getD 120 undef, a.tmps.getD 121 undef, a.tmps.getD 122 undef, a.tmps.getD 123 undef, a.tmps.getD 124 undef, a.tmps.getD 125 undef, a.tmps.getD 126 undef, a.tmps.getD 127 undef, a.tmps.getD 128 undef, a.tmps.getD 129 undef, a.tmps.getD 130 undef, a.tmps.getD 131 undef, a.tmps.getD 132 undef, a.tmps.getD 133 undef, a.tmps.getD 134 undef, a.tmps.getD 135 undef, a.tmps.getD 136 undef, a.tmps.getD 137 undef, a.tmps.getD 138 undef, a.tmps.getD 139 undef, a.tmps.getD 140 undef, a.tmps.getD 141 undef, a.tmps.getD 142 undef, a.tmps.getD 143 undef, a.tmps.getD 144 undef, a.tmps.getD 145 undef, a.tmps.getD 146 undef, a.tmps.getD 147 undef, a.tmps.getD 148 undef, a.tmps.getD 149 undef, a.tmps.getD 150 undef, a.tmps.getD 151 undef, a.tmps.getD 152 undef, a.tmps.getD 153 undef, a.tmps.getD 154 undef, a.tmps.getD 155 undef, a.tmps.getD 156 undef, a.tmps.getD 157 undef, a.tmps.getD 158 undef, a.tmps.getD 159 undef, a.tmps.getD 160 undef, a.tmps.getD 161 undef, a.tmps.getD 162 undef, a.tmps.getD 163 undef, a.tmps.getD 164 undef, a.tmps.getD 165 undef, a.tmps.getD 166 undef, a.tmps.getD 167 undef, a.tmps.getD 168 undef, a.tmps.getD 169 undef, a.tmps.getD 170 undef, a.tmps.getD 171 undef, a.tmps.getD 172 undef, a.tmps.getD 173 undef, a.tmps.getD 174 undef, a.tmps.getD 175 undef, a.tmps.getD 176 undef, a.tmps.getD 177 undef, a.tmps.getD 178 undef, a.tmps.getD 179 undef, a.tmps.getD 180 undef, a.tmps.getD 181 undef, a.tmps.getD 182 undef, a.tmps.getD 183 undef, a.tmps.getD 184 undef, a.tmps.getD 185 undef, a.tmps.getD 186 undef, a.tmps.getD 187 undef, a.tmps.getD 188 undef, a.tmps.getD 189 undef, a.tmps.getD 190 undef, a.tmps.getD 191 undef, a.tmps.getD 192 undef, a.tmps.getD 193 undef, a.tmps.getD 194 undef, a.tmps.getD 195 undef, a.tmps.getD 196 undef, a.tmps.getD 197 undef, a.tmps.getD 198 undef, a.tmps.getD 199 undef, a.tmps.getD 200 undef, a.tmps.getD 201 undef, a.tmps.getD 202 undef, a.tmps.getD 203 undef, a.tmps.getD 204 undef, a.tmps.getD 205 undef, a.tmps.getD 206 undef, a.tmps.getD 207 undef, a.tmps.getD 208 undef, a.tmps.getD 209 undef, a.tmps.getD 210 undef, a.tmps.getD 211 undef, a.tmps.getD 212 undef, a.tmps.getD 213 undef, a.tmps.getD 214 undef, a.tmps.getD 215 undef, a.tmps.getD 216 undef, a.tmps.getD 217 undef, a.tmps.getD 218 undef, a.tmps.getD 219 undef, a.tmps.getD 220 undef], defers := [] } := by
    rw [← h3, ← h4, ← h5, ← h6, ← h1]
    cases a with
    | mk tmps defers => exact congrArg (fun x => Act.mk x defers) (arr_lit2 tmps h2)
  rw [e]
  exact H (a.tmps.getD 0 undef) (a.tmps.getD 1 undef) (a.tmps.getD 2 undef) (a.tmps.getD 3 undef) (a.tmps.getD 4 undef) (a.tmps.getD 7 undef) (a.tmps.getD 9 undef) (a.tmps.getD 11 undef) (a.tmps.getD 12 undef) (a.tmps.getD 13 undef) (a.tmps.getD 14 undef) (a.tmps.getD 15 undef) (a.tmps.getD 16 undef) (a.tmps.getD 17 undef) (a.tmps.getD 18 undef) (a.tmps.getD 19 undef) (a.tmps.getD 20 undef) (a.tmps.getD 21 undef) (a.tmps.getD 22 undef) (a.tmps.getD 23 undef) (a.tmps.getD 24 undef) (a.tmps.getD 25 undef) (a.tmps.getD 26 undef) (a.tmps.getD 27 undef) (a.tmps.getD 28 undef) (a.tmps.getD 29 undef) (a.tmps.getD 30 undef) (a.tmps.getD 31 undef) (a.tmps.getD 32 undef) (a.tmps.getD 33 undef) (a.tmps.getD 34 undef) (a.tmps.getD 35 undef) (a.tmps.getD 36 undef) (a.tmps.getD 37 undef) (a.tmps.getD 38 undef) (a.tmps.getD 39 undef) (a.tmps.getD 40 undef) (a.tmps.getD 41 undef) (a.tmps.getD 42 undef) (a.tmps.getD 43 undef) (a.tmps.getD 44 undef) (a.tmps.getD 45 undef) (a.tmps.getD 46 undef) (a.tmps.getD 47 undef) (a.tmps.getD 48 undef) (a.tmps.getD 49 undef) (a.tmps.getD 50 undef) (a.tmps.getD 51 undef) (a.tmps.getD 52 undef) (a.tmps.getD 53 undef) (a.tmps.getD 54 undef) (a.tmps.getD 55 undef) (a.tmps.getD 56 undef) (a.tmps.getD 57 undef) (a.tmps.getD 58 undef) (a.tmps.getD 59 undef) (a.tmps.getD 60 undef) (a.tmps.getD 61 undef) (a.tmps.getD 62 undef) (a.tmps.getD 63 undef) (a.tmps.getD 64 undef) (a.tmps.getD 65 undef) (a.tmps.getD 66 undef) (a.tmps.getD 67 undef) (a.tmps.getD 68 undef) (a.tmps.getD 69 undef) (a.tmps.getD 70 undef) (a.tmps.getD 71 undef) (a.tmps.getD 72 undef) (a.tmps.getD 73 undef) (a.tmps.getD 74 undef) (a.tmps.getD 75 undef) (a.tmps.getD 76 undef) (a.tmps.getD 77 undef) (a.tmps.getD 78 undef) (a.tmps.getD 79 undef) (a.tmps.getD 80 undef) (a.tmps.getD 81 undef) (a.tmps.getD 82 undef) (a.tmps.getD 83 undef) (a.tmps.getD 84 undef) (a.tmps.getD 85 undef) (a.tmps.getD 86 undef) (a.tmps.getD 87 undef) (a.tmps.getD 88 undef) (a.tmps.getD 89 undef) (a.tmps.getD 90 undef) (a.tmps.getD 91 undef) (a.tmps.getD 92 undef) (a.tmps.getD 93 undef) (a.tmps.getD 94 undef) (a.tmps.getD 95 undef) (a.tmps.getD 96 undef) (a.tmps.getD 97 undef) (a.tmps.getD 98 undef) (a.tmps.getD 99 undef) (a.tmps.getD 100 undef) (a.tmps.getD 101 undef) (a.tmps.getD 102 undef) (a.tmps.getD 103 undef) (a.tmps.getD 104 undef) (a.tmps.getD 105 undef) (a.tmps.getD 106 undef) (a.tmps.getD 107 undef) (a.tmps.getD 108 undef) (a.tmps.getD 109 undef) (a.tmps.getD 110 undef) (a.tmps.getD 111 undef) (a.tmps.getD 112 undef) (a.tmps.getD 113 undef) (a.tmps.getD 114 undef) (a.tmps.getD 115 undef) (a.tmps.getD 116 undef) (a.tmps.getD 117 undef) (a.tmps.getD 118 undef) (a.tmps.getD 119 undef) (a.tmps.getD 120 undef) (a.tmps.getD 121 undef) (a.tmps.getD 122 undef) (a.tmps.getD 123 undef) (a.tmps.getD 124 undef) (a.tmps.getD 125 undef) (a.tmps.getD 126 undef) (a.tmps.getD 127 undef) (a.tmps.getD 128 undef) (a.tmps.getD 129 undef) (a.tmps.getD 130 undef) (a.tmps.getD 131 undef) (a.tmps.getD 132 undef) (a.tmps.getD 133 undef) (a.tmps.getD 134 undef) (a.tmps.getD 135 undef) (a.tmps.getD 136 undef) (a.tmps.getD 137 undef) (a.tmps.getD 138 undef) (a.tmps.getD 139 undef) (a.tmps.getD 140 undef) (a.tmps.getD 141 undef) (a.tmps.getD 142 undef) (a.tmps.getD 143 undef) (a.tmps.getD 144 undef) (a.tmps.getD 145 undef) (a.tmps.getD 146 undef) (a.tmps.getD 147 undef) (a.tmps.getD 148 undef) (a.tmps.getD 149 undef) (a.tmps.getD 150 undef) (a.tmps.getD 151 undef) (a.tmps.getD 152 undef) (a.tmps.getD 153 undef) (a.tmps.getD 154 undef) (a.tmps.getD 155 undef) (a.tmps.getD 156 undef) (a.tmps.getD 157 undef) (a.tmps.getD 158 undef) (a.tmps.getD 159 undef) (a.tmps.getD 160 undef) (a.tmps.getD 161 undef) (a.tmps.getD 162 undef) (a.tmps.getD 163 undef) (a.tmps.getD 164 undef) (a.tmps.getD 165 undef) (a.tmps.getD 166 undef) (a.tmps.getD 167 undef) (a.tmps.getD 168 undef) (a.tmps.getD 169 undef) (a.tmps.getD 170 undef) (a.tmps.getD 171 undef) (a.tmps.getD 172 undef) (a.tmps.getD 173 undef) (a.tmps.getD 174 undef) (a.tmps.getD 175 undef) (a.tmps.getD 176 undef) (a.tmps.getD 177 undef) (a.tmps.getD 178 undef) (a.tmps.getD 179 undef) (a.tmps.getD 180 undef) (a.tmps.getD 181 undef) (a.tmps.getD 182 undef) (a.tmps.getD 183 undef) (a.tmps.getD 184 undef) (a.tmps.getD 185 undef) (a.tmps.getD 186 undef) (a.tmps.getD 187 undef) (a.tmps.getD 188 undef) (a.tmps.getD 189 undef) (a.tmps.getD 190 undef) (a.tmps.getD 191 undef) (a.tmps.getD 192 undef) (a.tmps.getD 193 undef) (a.tmps.getD 194 undef) (a.tmps.getD 195 undef) (a.tmps.getD 196 undef) (a.tmps.getD 197 undef) (a.tmps.getD 198 undef) (a.tmps.getD 199 undef) (a.tmps.getD 200 undef) (a.tmps.getD 201 undef) (a.tmps.getD 202 undef) (a.tmps.getD 203 undef) (a.tmps.getD 204 undef) (a.tmps.getD 205 undef) (a.tmps.getD 206 undef) (a.tmps.getD 207 undef) (a.tmps.getD 208 undef) (a.tmps.getD 209 undef) (a.tmps.getD 210 undef) (a.tmps.getD 211 undef) (a.tmps.getD 212 undef) (a.tmps.getD 213 undef) (a.tmps.getD 214 undef) (a.tmps.getD 215 undef) (a.tmps.getD 216 undef) (a.tmps.getD 217 undef) (a.tmps.getD 218 undef) (a.tmps.getD 219 undef) (a.tmps.getD 220 undef)
/-- the body of the loop over the steps -/
noncomputable def rBd : Code := match Try.f13.body with
  | some (.seq _ (.seq _ (.seq _ (.seq _ (.seq _ (.seq _ (.seq _ (.seq _ (.seq (.seq _ (.block _ (.loop (.seq _ (.seq (.block _ B) _))))) _))))))))) => B
  | _ => .skip
theorem rBd_of {R : Code → Prop} (h : ∃ a1 a2 a3 a4 a5 a6 a7 a8 x m1 m2 y z B tl, Try.f13.body = some (Code.seq a1 (Code.seq a2 (Code.seq a3 (Code.seq a4 (Code.seq a5 (Code.seq a6 (Code.seq a7 (Code.seq a8 (Code.seq (Code.seq x (Code.block m1 (Code.loop (Code.seq y (Code.seq (Code.block m2 B) z))))) tl))))))))) ∧ R B) : R rBd := by
  obtain ⟨a1, a2, a3, a4, a5, a6, a7, a8, x, m1, m2, y, z, B, tl, h1, h2⟩ := h
  have : rBd = B := by unfold rBd; rw [h1]
  rw [this]
  exact h2
theorem two_bytes {w W : World} {n g cap h cap2 : Nat} {G C H D : Nat → Nat} {M : Nat → Nat → Nat} (T : Two w W n g cap h cap2 G C H D M) (i : Nat) (hi : i < n) (j : Nat) (hj : j < n + n) : M i j < 256 := by
  by_cases h : j < n
  · exact (T.a.row i hi).2.2.2.lt h
  · have : LA.half n M i (j - n) < 256 := (T.b.row i hi).2.2.2.lt (j := j - n) (by omega)
    unfold LA.half at this
    rwa [show n + (j - n) = j by omega] at this
/-- the code behind the exchange: the region with the inverse, and what follows -/
noncomputable def rHd : Code := match rBd with
  | .seq _ (.seq _ (.seq _ (.seq _ (.seq _ (.seq _ (.seq _ (.seq _ (.seq _ (.seq X _))))))))) => X
  | _ => .skip
noncomputable def rRs : Code := match rBd with
  | .seq _ (.seq _ (.seq _ (.seq _ (.seq _ (.seq _ (.seq _ (.seq _ (.seq _ (.seq _ Y))))))))) => Y
  | _ => .skip
theorem rTl_of {R : Code → Code → Prop} (h : ∃ b1 b2 b3 b4 b5 b6 b7 b8 b9 X Y, rBd = Code.seq b1 (Code.seq b2 (Code.seq b3 (Code.seq b4 (Code.seq b5 (Code.seq b6 (Code.seq b7 (Code.seq b8 (Code.seq b9 (Code.seq X Y))))))))) ∧ R X Y) : R rHd rRs := by
  obtain ⟨b1, b2, b3, b4, b5, b6, b7, b8, b9, X, Y, h1, h2⟩ := h
  have e1 : rHd = X := by unfold rHd; rw [h1]
  have e2 : rRs = Y := by unfold rRs; rw [h1]
  rw [e1, e2]
  exact h2

set_option maxRecDepth 100000 in
set_option maxHeartbeats 8000000 in
theorem rtail (w W4 : World) (n g cap h cap2 t : Nat) (G C H D : Nat → Nat) (N : Nat → Nat → Nat) (R : Option (Nat → Nat → Nat)) (a : Act) (Q : Exit → Act → World → Prop) (K : Act → World → Prop) (hK : ∀ a w, rRs.wp Try.prog Q a w → K a w) (hF : RFr n (.slice (some ⟨g, 0, none⟩) n cap) (.slice (some ⟨h, 0, none⟩) n cap2) t a)
    (T : Two w W4 n g cap h cap2 G C H D N) (t1 : t < n) (hn2 : n ≤ 32) (h0 : N t t ≠ 0) (hg : LA.gj n (n - (t + 1)) (t + 1) (clr t (LA.scl t N)) = R)
    (hN : ∀ a' W' M', RFr n (.slice (some ⟨g, 0, none⟩) n cap) (.slice (some ⟨h, 0, none⟩) n cap2) t a' → (∃ G' C' H' D', Two w W' n g cap h cap2 G' C' H' D' M') → LA.gj n (n - (t + 1)) (t + 1) M' = R → Q .normal a' W') : rHd.wp Try.prog (Exit.then K Q) a W4 := by
  have HT := Lib.hid T
  have HN := Lib.hid hN
  have HG := Lib.hid hg
  have r2 : (n : Int) ≤ 32 := by omega
  have t0 : (0 : Int) ≤ (t : Int) := by omega
  have t2 : (t : Int) < (n : Int) := by omega
  have t3 : (t : Int) ≤ 32 := by omega
  have e1 := (T.a.atc t t1).1
  have hXX := (T.a.row t t1).2.2.2.lt (j := t) t1
  have e2 := (T.a.row t t1).2.2.2.cell (j := t) t1
  obtain ⟨X, hX⟩ : ∃ X, X = N t t := ⟨_, rfl⟩
  rw [← hX] at e2 hXX
  have HX := Lib.hid hX
  obtain ⟨I, hI⟩ : ∃ I, GF.inv X = I := ⟨_, rfl⟩
  have hI2 : I < 256 := by rw [← hI]; exact GF.inv_lt _ hXX
  have HI := Lib.hid hI
  have HX0 : Hid (X ≠ 0) := Lib.hid (by rw [hX]; exact h0)
  refine RFr.elim (motive := fun x => Code.wp Try.prog rHd _ x W4) hF ?_
  intro u0 u1 u2 u3 u4 u7 u9 u11 u12 u13 u14 u15 u16 u17 u18 u19 u20 u21 u22 u23 u24 u25 u26 u27 u28 u29 u30 u31 u32 u33 u34 u35 u36 u37 u38 u39 u40 u41 u42 u43 u44 u45 u46 u47 u48 u49 u50 u51 u52 u53 u54 u55 u56 u57 u58 u59 u60 u61 u62 u63 u64 u65 u66 u67 u68 u69 u70 u71 u72 u73 u74 u75 u76 u77 u78 u79 u80 u81 u82 u83 u84 u85 u86 u87 u88 u89 u90 u91 u92 u93 u94 u95 u96 u97 u98 u99 u100 u101 u102 u103 u104 u105 u106 u107 u108 u109 u110 u111 u112 u113 u114 u115 u116 u117 u118 u119 u120 u121 u122 u123 u124 u125 u126 u127 u128 u129 u130 u131 u132 u133 u134 u135 u136 u137 u138 u139 u140 u141 u142 u143 u144 u145 u146 u147 u148 u149 u150 u151 u152 u153 u154 u155 u156 u157 u158 u159 u160 u161 u162 u163 u164 u165 u166 u167 u168 u169 u170 u171 u172 u173 u174 u175 u176 u177 u178 u179 u180 u181 u182 u183 u184 u185 u186 u187 u188 u189 u190 u191 u192 u193 u194 u195 u196 u197 u198 u199 u200 u201 u202 u203 u204 u205 u206 u207 u208 u209 u210 u211 u212 u213 u214 u215 u216 u217 u218 u219 u220
  clear hX hI h0 hg hN T hF
  revert hK
  refine rTl_of (R := fun X Y => (∀ a w, Code.wp Try.prog Y Q a w → K a w) → Code.wp Try.prog X (Exit.then K Q) _ W4) ⟨_, _, _, _, _, _, _, _, _, _, _, rfl, ?_⟩
  intro hK
  go_wp2_with fail
  refine (rinv_q X I hXX HX0.out HI.out _).mono ?_
  rintro e w' ⟨rfl, rfl⟩
  go_wp2
  clear e1 e2 hXX
  go_loopw [15] (fun i wr => ∃ c : Nat, c ≤ n ∧ i = .int .i64 (c : Int) ∧ Two w wr n g cap h cap2 G C H D (sc2 n t I c c N)) (fun i _ => n - (intOf i).toNat)
  case atStart => exact ⟨0, Nat.zero_le _, rfl, HT.out.congr fun i hi j hj => sc2_zero n t I N i j⟩
  case round =>
    obtain ⟨c, hc, rfl, hT⟩ := hrel
    have HC := Lib.hid hT
    clear hT
    by_cases hcn : c < n
    · have c0 : (0 : Int) ≤ (c : Int) := by omega
      have c1 : (c : Int) < (n : Int) := by omega
      have c2 : (c : Int) ≤ 32 := by omega
      have d1 := (HC.out.a.atc t t1).1
      have x1 := (HC.out.a.row t t1).2.2.2.cell hcn
      have fz := (HC.out.a.row t t1).2.2.2.frozen hcn
      have b1 := (HT.out.a.row t t1).2.2.2.lt hcn
      rw [sc2_a n t I c c N hcn] at x1
      obtain ⟨Y, hY⟩ : ∃ Y, Y = N t c := ⟨_, rfl⟩
      rw [← hY] at x1 b1
      obtain ⟨P, hP⟩ : ∃ P, GF.mul Y I = P := ⟨_, rfl⟩
      have p2 : P < 256 := by rw [← hP]; exact GF.mul_lt _ _ b1
      have HP := Lib.hid hP
      have HA : Hid (Two w (wr.setCell ⟨G t, c, none⟩ (.int .u8 (P : Int))).drew n g cap h cap2 G C H D (sc2 n t I (c + 1) c N)) := Lib.hid (((HC.out.step (Below.refl _ _).drew).putA t c P t1 hcn p2).congr fun i hi j hj => sc2_putA n t I c c P N (by rw [← hY]; exact hP) i j)
      clear hY hP
      go_wp2_with fail
      refine wp_region_still_tail 15 (by kernel_rfl) (by kernel_rfl) ?_
      simp only [List.take_succ_cons, List.take_zero, List.drop_succ_cons, List.drop_zero]
      repeat (first
        | still_step
        | still_call (RNM_q Y I P b1 hI2 HP.out _))
      refine wpStill_nil ?_
      change wpList _ _ _ _ _ wr.drew
      go_wp2_with fail
      generalize hWA : (wr.setCell ⟨G t, c, none⟩ (.int .u8 (P : Int))).drew = WA
      rw [hWA] at HA
      clear hWA d1 x1 fz b1
      have d1 := (HA.out.b.atc t t1).1
      have x1 : WA.cell? ⟨H t, c, none⟩ = some (.int .u8 ((sc2 n t I (c + 1) c N t (n + c) : Nat) : Int)) := (HA.out.b.row t t1).2.2.2.cell hcn
      have fz := (HA.out.b.row t t1).2.2.2.frozen hcn
      have b1 : N t (n + c) < 256 := (HT.out.b.row t t1).2.2.2.lt hcn
      rw [sc2_b n t I (c + 1) c N (by omega)] at x1
      obtain ⟨Z, hZ⟩ : ∃ Z, Z = N t (n + c) := ⟨_, rfl⟩
      rw [← hZ] at x1 b1
      obtain ⟨V, hV⟩ : ∃ V, GF.mul Z I = V := ⟨_, rfl⟩
      have v2 : V < 256 := by rw [← hV]; exact GF.mul_lt _ _ b1
      have HV := Lib.hid hV
      have HB : Hid (Two w (WA.setCell ⟨H t, c, none⟩ (.int .u8 (V : Int))).drew n g cap h cap2 G C H D (sc2 n t I (c + 1) (c + 1) N)) := Lib.hid (((HA.out.step (Below.refl _ _).drew).putB t c V t1 hcn v2).congr fun i hi j hj => sc2_putB n t I (c + 1) c V N (by rw [← hZ]; exact hV) i j)
      clear hZ hV
      refine wp_region_still_tail 15 (by kernel_rfl) (by kernel_rfl) ?_
      simp only [List.take_succ_cons, List.take_zero, List.drop_succ_cons, List.drop_zero]
      repeat (first
        | still_step
        | still_call (RNM_q Z I V b1 hI2 HV.out _))
      refine wpStill_nil ?_
      change wpList _ _ _ _ _ WA.drew
      go_wp2
      go_roundw
      case rel => exact ⟨c + 1, by omega, by go_num, HB.out⟩
      case measure => simp [intOf]; omega
    · obtain rfl : n = c := by omega
      have c1 : ¬ (n : Int) < (n : Int) := by omega
      obtain ⟨S, hS⟩ : ∃ S, S = LA.scl t N := ⟨_, rfl⟩
      have HS : Hid (Two w wr n g cap h cap2 G C H D S) := Lib.hid (HC.out.congr fun i hi j hj => by
        have := sc2_full n t N i j hj
        rw [← HX.out, HI.out] at this
        rw [hS]
        exact this)
      have HGJ : Hid (LA.gj n (n - (t + 1)) (t + 1) (clr t S) = R) := Lib.hid (by rw [hS]; exact HG.out)
      clear hS
      go_wp2
      go_loopw [16] (fun i w5 => ∃ k : Nat, k ≤ n ∧ i = .int .i64 (k : Int) ∧ Two w w5 n g cap h cap2 G C H D (cl2 n t S k 0 0)) (fun i _ => n - (intOf i).toNat)
      case atStart => exact ⟨0, Nat.zero_le _, rfl, HS.out.congr fun i hi j hj => cl2_zero n t S i j⟩
      case round =>
        obtain ⟨k, hk, rfl, hT⟩ := hrel
        have HK := Lib.hid hT
        clear hT
        by_cases hkn : k < n
        · have k0 : (0 : Int) ≤ (k : Int) := by omega
          have k1 : (k : Int) < (n : Int) := by omega
          have k2 : (k : Int) ≤ 32 := by omega
          have dk := (HK.out.a.atc k hkn).1
          have xk := (HK.out.a.row k hkn).2.2.2.cell t1
          rw [cl2_head n t S k t] at xk
          obtain ⟨F, hF⟩ : ∃ F, F = S k t := ⟨_, rfl⟩
          rw [← hF] at xk
          have HF := Lib.hid hF
          clear hF
          by_cases hkt : k = t
          · obtain rfl : t = k := hkt.symm
            have q1 : ((t : Int) == (t : Int)) = true := by simp
            clear hkt
            go_wp2
            go_roundw
            case rel => exact ⟨t + 1, by omega, by go_num, HK.out.congr fun i hi j hj => cl2_skip n t S t i j (.inl rfl) (two_bytes HS.out t t1 j hj)⟩
            case measure => simp [intOf]; omega
          · have q1 : ((k : Int) == (t : Int)) = false := by rw [beq_eq_false_iff_ne]; omega
            have HKT := Lib.hid hkt
            clear hkt
            by_cases hf0 : F = 0
            · have q2 : ((F : Int) == 0) = true := by rw [hf0]; rfl
              have HF0 := Lib.hid (HF.out.symm.trans hf0)
              clear hf0
              go_wp2
              go_roundw
              case rel => exact ⟨k + 1, by omega, by go_num, HK.out.congr fun i hi j hj => cl2_skip n t S k i j (.inr HF0.out) (two_bytes HS.out t t1 j hj)⟩
              case measure => simp [intOf]; omega
            · have q2 : ((F : Int) == 0) = false := by rw [beq_eq_false_iff_ne]; omega
              have b3 : F < 256 := by rw [HF.out]; exact (HS.out.a.row k hkn).2.2.2.lt t1
              clear hf0
              go_wp2
              clear dk xk
              go_loopw [18] (fun i w6 => ∃ c : Nat, c ≤ n ∧ i = .int .i64 (c : Int) ∧ Two w w6 n g cap h cap2 G C H D (cl2 n t S k c c)) (fun i _ => n - (intOf i).toNat)
              case atStart => exact ⟨0, Nat.zero_le _, rfl, HK.out⟩
              case round =>
                obtain ⟨c, hc, rfl, hT⟩ := hrel
                have HC2 := Lib.hid hT
                clear hT
                by_cases hcn : c < n
                · have c0 : (0 : Int) ≤ (c : Int) := by omega
                  have c1 : (c : Int) < (n : Int) := by omega
                  have c2 : (c : Int) ≤ 32 := by omega
                  have d1 := (HC2.out.a.atc k hkn).1
                  have d2 := (HC2.out.a.atc t t1).1
                  have x1 := (HC2.out.a.row k hkn).2.2.2.cell hcn
                  have x2 := (HC2.out.a.row t t1).2.2.2.cell hcn
                  have fz := (HC2.out.a.row k hkn).2.2.2.frozen hcn
                  rw [cl2_a n t S k c c hcn] at x1
                  rw [cl2_at n t S k c c c HKT.out] at x2
                  have b1 := (HS.out.a.row k hkn).2.2.2.lt hcn
                  have b2 := (HS.out.a.row t t1).2.2.2.lt hcn
                  obtain ⟨Z, hZ⟩ : ∃ Z, Z = S k c := ⟨_, rfl⟩
                  obtain ⟨Y, hY⟩ : ∃ Y, Y = S t c := ⟨_, rfl⟩
                  rw [← hZ] at x1 b1
                  rw [← hY] at x2 b2
                  obtain ⟨P, hP⟩ : ∃ P, GF.mul F Y = P := ⟨_, rfl⟩
                  have p2 : P < 256 := by rw [← hP]; exact GF.mul_lt _ _ b3
                  obtain ⟨V, hV⟩ : ∃ V, Z ^^^ P = V := ⟨_, rfl⟩
                  have v2 : V < 256 := by rw [← hV]; exact GF.xor_lt b1 p2
                  have hxor : bits .xor .u8 (Z : Int) (P : Int) = (V : Int) := by rw [bits_xor_u8 Z P b1 p2, hV]
                  have HP := Lib.hid hP
                  have HA : Hid (Two w (wr.setCell ⟨G k, c, none⟩ (.int .u8 (V : Int))).drew n g cap h cap2 G C H D (cl2 n t S k (c + 1) c)) := Lib.hid (((HC2.out.step (Below.refl _ _).drew).putA k c V hkn hcn v2).congr fun i hi j hj => cl2_putA n t S k c c V (by unfold clr; rw [if_neg HKT.out, ← HF.out, ← hZ, ← hY, hP, hV]) i j)
                  clear hZ hY hP hV
                  go_wp2_with fail
                  refine wp_region_still_tail 23 (by kernel_rfl) (by kernel_rfl) ?_
                  simp only [List.take_succ_cons, List.take_zero, List.drop_succ_cons, List.drop_zero]
                  repeat (first
                    | still_step
                    | still_call (RNM_q F Y P b3 b2 HP.out _))
                  refine wpStill_nil ?_
                  change wpList _ _ _ _ _ wr.drew
                  go_wp2_with fail
                  generalize hWA : (wr.setCell ⟨G k, c, none⟩ (.int .u8 (V : Int))).drew = WA
                  rw [hWA] at HA
                  clear hWA d1 d2 x1 x2 fz b1 b2 hxor
                  have d1 := (HA.out.b.atc k hkn).1
                  have d2 := (HA.out.b.atc t t1).1
                  have x1 : WA.cell? ⟨H k, c, none⟩ = some (.int .u8 ((cl2 n t S k (c + 1) c k (n + c) : Nat) : Int)) := (HA.out.b.row k hkn).2.2.2.cell hcn
                  have x2 : WA.cell? ⟨H t, c, none⟩ = some (.int .u8 ((cl2 n t S k (c + 1) c t (n + c) : Nat) : Int)) := (HA.out.b.row t t1).2.2.2.cell hcn
                  have fz := (HA.out.b.row k hkn).2.2.2.frozen hcn
                  rw [cl2_b n t S k (c + 1) c (by omega)] at x1
                  rw [cl2_at n t S k (c + 1) c (n + c) HKT.out] at x2
                  have b1 : S k (n + c) < 256 := two_bytes HS.out k hkn _ (by omega)
                  have b2 : S t (n + c) < 256 := two_bytes HS.out t t1 _ (by omega)
                  obtain ⟨Z', hZ⟩ : ∃ Z, Z = S k (n + c) := ⟨_, rfl⟩
                  obtain ⟨Y', hY⟩ : ∃ Y, Y = S t (n + c) := ⟨_, rfl⟩
                  rw [← hZ] at x1 b1
                  rw [← hY] at x2 b2
                  obtain ⟨P', hP'⟩ : ∃ P, GF.mul F Y' = P := ⟨_, rfl⟩
                  have p2' : P' < 256 := by rw [← hP']; exact GF.mul_lt _ _ b3
                  obtain ⟨V', hV⟩ : ∃ V, Z' ^^^ P' = V := ⟨_, rfl⟩
                  have v2' : V' < 256 := by rw [← hV]; exact GF.xor_lt b1 p2'
                  have hxor : bits .xor .u8 (Z' : Int) (P' : Int) = (V' : Int) := by rw [bits_xor_u8 Z' P' b1 p2', hV]
                  have HPP := Lib.hid hP'
                  have HB : Hid (Two w (WA.setCell ⟨H k, c, none⟩ (.int .u8 (V' : Int))).drew n g cap h cap2 G C H D (cl2 n t S k (c + 1) (c + 1))) := Lib.hid (((HA.out.step (Below.refl _ _).drew).putB k c V' hkn hcn v2').congr fun i hi j hj => cl2_putB n t S k (c + 1) c V' (by unfold clr; rw [if_neg HKT.out, ← HF.out, ← hZ, ← hY, hP', hV]) i j)
                  clear hZ hY hP' hV
                  refine wp_region_still_tail 23 (by kernel_rfl) (by kernel_rfl) ?_
                  simp only [List.take_succ_cons, List.take_zero, List.drop_succ_cons, List.drop_zero]
                  repeat (first
                    | still_step
                    | still_call (RNM_q F Y' P' b3 b2 HPP.out _))
                  refine wpStill_nil ?_
                  change wpList _ _ _ _ _ WA.drew
                  go_wp2
                  go_roundw
                  case rel => exact ⟨c + 1, by omega, by go_num, HB.out⟩
                  case measure => simp [intOf]; omega
                · obtain rfl : n = c := by omega
                  have c1 : ¬ (n : Int) < (n : Int) := by omega
                  go_wp2
                  go_roundw
                  case rel => exact ⟨k + 1, by omega, by go_num, HC2.out.congr fun i hi j hj => cl2_full n t S k i j hj⟩
                  case measure => simp [intOf]; omega
        · obtain rfl : n = k := by omega
          have c1 : ¬ (n : Int) < (n : Int) := by omega
          go_wp2
          exact HN.out _ _ (clr t S) ⟨rfl, rfl, rfl, rfl, rfl, rfl⟩ ⟨G, C, H, D, HK.out.congr fun i hi j hj => cl2_end n t S i j hi⟩ HGJ.out
end Go.Proofs.Ytlpmehnffdaobaa
