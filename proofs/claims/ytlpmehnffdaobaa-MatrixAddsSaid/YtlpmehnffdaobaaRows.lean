/-
  No cell of these rows narrows 'for every input' (looked for: loops, veiled, ifaces, maps, wideKeys, modest, calm, conditions, laid).
  DERIVED. THE GIVEN ROWS OF THIS SEAT. 8 by the template 'for every input the law returns true; each argument reads behind the call as it read before'; 0 by the template 'total and deterministic' (their statements: YtlpmehnffdaobaaTotals.lean).
  GIVEN WITH THE SEED: the statements are not yours to turn. If you find one false, say at which input.
  Laid BY PROGRAM, IN A SANDBOX (cutbox-rows.mjs): the forced cells as the released guide's own fill.sh prints them over the translation df2a8647d3817300… (all of the seat's roots in one cut). By AI agents, Wed Nov 11 2026. No macro, syntax, notation, axiom, sorry.
-/
import Derived.Test.YtlpmehnffdaobaaChecked
import GoSem.Claim
import GoSem.ClaimJoined
import GoSem.ClaimMapViews
import Derived.JoinedTies
import Derived.KernelRfl
namespace Go.Proofs.Ytlpmehnffdaobaa
/- THE CELL 'sum', in the pinned program and in every row, IS THE sha256 OF THE DUMP (.gsa) THAT YtlpmehnffdaobaaProg.lean LOADS. Nothing in Lean hashes anything: it is a label: what it is worth is what the hold of that sum in a sandbox is worth. -/
noncomputable def Try.pinned : Pinned := { name := "ytlpmehnffdaobaa", sum := "df2a8647d38173002856c740a853de8950995454e55bf26e7185c58654649330", checked := Try.checked }
namespace Rows
def none {H : Type} : Left H := { results := [], args := [] }

/-- 'hogsheadlaw04.MatrixInverts': WHATEVER THE INPUT: true; the input reads as it did. -/
def matrixInvertsSpec : ChangeSpec := { name := "matrixInverts", fn := fun _ => fun
  | [d] => { results := [.lit (.bool true)], args := [d] }
  | _ => none }
def matrixInvertsRow : OpenClaim := { program := "ytlpmehnffdaobaa", sum := "df2a8647d38173002856c740a853de8950995454e55bf26e7185c58654649330", func := "hogshead/hogsheadlaw04.MatrixInverts", spec := "matrixInverts", unfollowed := true, recurses := true, apart := false }
def MatrixInvertsSaid : Prop := matrixInvertsRow.holds Try.pinned (OpenSpec.ofChange matrixInvertsSpec)

/-- ITS FALSE NEIGHBOUR: 'it returns false'. Refute it at one input. -/
def matrixInvertsWrong : ChangeSpec := { name := "matrixInverts", fn := fun _ => fun
  | [d] => { results := [.lit (.bool false)], args := [d] }
  | _ => none }
def MatrixInvertsWrongFalsely : Prop := matrixInvertsRow.holds Try.pinned (OpenSpec.ofChange matrixInvertsWrong)

/-- 'hogsheadlaw04.MatrixMade': WHATEVER THE INPUT: true; the input reads as it did. -/
def matrixMadeSpec : ChangeSpec := { name := "matrixMade", fn := fun _ => fun
  | [d1, d2] => { results := [.lit (.bool true)], args := [d1, d2] }
  | _ => none }
def matrixMadeRow : OpenClaim := { program := "ytlpmehnffdaobaa", sum := "df2a8647d38173002856c740a853de8950995454e55bf26e7185c58654649330", func := "hogshead/hogsheadlaw04.MatrixMade", spec := "matrixMade", unfollowed := true, recurses := true, apart := false }
def MatrixMadeSaid : Prop := matrixMadeRow.holds Try.pinned (OpenSpec.ofChange matrixMadeSpec)

/-- ITS FALSE NEIGHBOUR: 'it returns false'. Refute it at one input. -/
def matrixMadeWrong : ChangeSpec := { name := "matrixMade", fn := fun _ => fun
  | [d1, d2] => { results := [.lit (.bool false)], args := [d1, d2] }
  | _ => none }
def MatrixMadeWrongFalsely : Prop := matrixMadeRow.holds Try.pinned (OpenSpec.ofChange matrixMadeWrong)

/-- 'hogsheadlaw04.MatrixPowers': WHATEVER THE INPUT: true; the input reads as it did. -/
def matrixPowersSpec : ChangeSpec := { name := "matrixPowers", fn := fun _ => fun
  | [d1, d2] => { results := [.lit (.bool true)], args := [d1, d2] }
  | _ => none }
def matrixPowersRow : OpenClaim := { program := "ytlpmehnffdaobaa", sum := "df2a8647d38173002856c740a853de8950995454e55bf26e7185c58654649330", func := "hogshead/hogsheadlaw04.MatrixPowers", spec := "matrixPowers", unfollowed := true, recurses := true, apart := false }
def MatrixPowersSaid : Prop := matrixPowersRow.holds Try.pinned (OpenSpec.ofChange matrixPowersSpec)

/-- ITS FALSE NEIGHBOUR: 'it returns false'. Refute it at one input. -/
def matrixPowersWrong : ChangeSpec := { name := "matrixPowers", fn := fun _ => fun
  | [d1, d2] => { results := [.lit (.bool false)], args := [d1, d2] }
  | _ => none }
def MatrixPowersWrongFalsely : Prop := matrixPowersRow.holds Try.pinned (OpenSpec.ofChange matrixPowersWrong)

/-- 'hogsheadlaw04.MatrixBrackets': WHATEVER THE INPUT: true; the input reads as it did. -/
def matrixBracketsSpec : ChangeSpec := { name := "matrixBrackets", fn := fun _ => fun
  | [d1, d2, d3] => { results := [.lit (.bool true)], args := [d1, d2, d3] }
  | _ => none }
def matrixBracketsRow : OpenClaim := { program := "ytlpmehnffdaobaa", sum := "df2a8647d38173002856c740a853de8950995454e55bf26e7185c58654649330", func := "hogshead/hogsheadlaw04.MatrixBrackets", spec := "matrixBrackets", unfollowed := true, recurses := true, apart := false }
def MatrixBracketsSaid : Prop := matrixBracketsRow.holds Try.pinned (OpenSpec.ofChange matrixBracketsSpec)

/-- ITS FALSE NEIGHBOUR: 'it returns false'. Refute it at one input. -/
def matrixBracketsWrong : ChangeSpec := { name := "matrixBrackets", fn := fun _ => fun
  | [d1, d2, d3] => { results := [.lit (.bool false)], args := [d1, d2, d3] }
  | _ => none }
def MatrixBracketsWrongFalsely : Prop := matrixBracketsRow.holds Try.pinned (OpenSpec.ofChange matrixBracketsWrong)

/-- 'hogsheadlaw04.MatrixTurns': WHATEVER THE INPUT: true; the input reads as it did. -/
def matrixTurnsSpec : ChangeSpec := { name := "matrixTurns", fn := fun _ => fun
  | [d] => { results := [.lit (.bool true)], args := [d] }
  | _ => none }
def matrixTurnsRow : OpenClaim := { program := "ytlpmehnffdaobaa", sum := "df2a8647d38173002856c740a853de8950995454e55bf26e7185c58654649330", func := "hogshead/hogsheadlaw04.MatrixTurns", spec := "matrixTurns", unfollowed := true, recurses := true, apart := false }
def MatrixTurnsSaid : Prop := matrixTurnsRow.holds Try.pinned (OpenSpec.ofChange matrixTurnsSpec)

/-- ITS FALSE NEIGHBOUR: 'it returns false'. Refute it at one input. -/
def matrixTurnsWrong : ChangeSpec := { name := "matrixTurns", fn := fun _ => fun
  | [d] => { results := [.lit (.bool false)], args := [d] }
  | _ => none }
def MatrixTurnsWrongFalsely : Prop := matrixTurnsRow.holds Try.pinned (OpenSpec.ofChange matrixTurnsWrong)

/-- 'hogsheadlaw04.MatrixNone': WHATEVER THE INPUT: true; the input reads as it did. -/
def matrixNoneSpec : ChangeSpec := { name := "matrixNone", fn := fun _ => fun
  | [d1, d2] => { results := [.lit (.bool true)], args := [d1, d2] }
  | _ => none }
def matrixNoneRow : OpenClaim := { program := "ytlpmehnffdaobaa", sum := "df2a8647d38173002856c740a853de8950995454e55bf26e7185c58654649330", func := "hogshead/hogsheadlaw04.MatrixNone", spec := "matrixNone", unfollowed := true, recurses := true, apart := false }
def MatrixNoneSaid : Prop := matrixNoneRow.holds Try.pinned (OpenSpec.ofChange matrixNoneSpec)

/-- ITS FALSE NEIGHBOUR: 'it returns false'. Refute it at one input. -/
def matrixNoneWrong : ChangeSpec := { name := "matrixNone", fn := fun _ => fun
  | [d1, d2] => { results := [.lit (.bool false)], args := [d1, d2] }
  | _ => none }
def MatrixNoneWrongFalsely : Prop := matrixNoneRow.holds Try.pinned (OpenSpec.ofChange matrixNoneWrong)

/-- 'hogsheadlaw04.MatrixAdds': WHATEVER THE INPUT: true; the input reads as it did. -/
def matrixAddsSpec : ChangeSpec := { name := "matrixAdds", fn := fun _ => fun
  | [d1, d2, d3] => { results := [.lit (.bool true)], args := [d1, d2, d3] }
  | _ => none }
def matrixAddsRow : OpenClaim := { program := "ytlpmehnffdaobaa", sum := "df2a8647d38173002856c740a853de8950995454e55bf26e7185c58654649330", func := "hogshead/hogsheadlaw04.MatrixAdds", spec := "matrixAdds", unfollowed := true, recurses := true, apart := false }
def MatrixAddsSaid : Prop := matrixAddsRow.holds Try.pinned (OpenSpec.ofChange matrixAddsSpec)

/-- ITS FALSE NEIGHBOUR: 'it returns false'. Refute it at one input. -/
def matrixAddsWrong : ChangeSpec := { name := "matrixAdds", fn := fun _ => fun
  | [d1, d2, d3] => { results := [.lit (.bool false)], args := [d1, d2, d3] }
  | _ => none }
def MatrixAddsWrongFalsely : Prop := matrixAddsRow.holds Try.pinned (OpenSpec.ofChange matrixAddsWrong)

/-- 'hogsheadlaw04.MatrixMuls': WHATEVER THE INPUT: true; the input reads as it did. -/
def matrixMulsSpec : ChangeSpec := { name := "matrixMuls", fn := fun _ => fun
  | [d1, d2] => { results := [.lit (.bool true)], args := [d1, d2] }
  | _ => none }
def matrixMulsRow : OpenClaim := { program := "ytlpmehnffdaobaa", sum := "df2a8647d38173002856c740a853de8950995454e55bf26e7185c58654649330", func := "hogshead/hogsheadlaw04.MatrixMuls", spec := "matrixMuls", unfollowed := true, recurses := true, apart := false }
def MatrixMulsSaid : Prop := matrixMulsRow.holds Try.pinned (OpenSpec.ofChange matrixMulsSpec)

/-- ITS FALSE NEIGHBOUR: 'it returns false'. Refute it at one input. -/
def matrixMulsWrong : ChangeSpec := { name := "matrixMuls", fn := fun _ => fun
  | [d1, d2] => { results := [.lit (.bool false)], args := [d1, d2] }
  | _ => none }
def MatrixMulsWrongFalsely : Prop := matrixMulsRow.holds Try.pinned (OpenSpec.ofChange matrixMulsWrong)

/- THE SECOND FORM. 'bulk': how many values and letters a reading holds, each counted each time it is reached (what is shared counts as often as it is met; a slice's spare places count too). A statement '..UptoSaid' is the law's where the arguments, and the package variables that the reading takes, are together of bulk at most 1048576: NARROWER than '..Said'. Prove '..Said' where nothing that the law and all that it calls make is longer than what came in: it says more and counts as full. Else prove '..UptoSaid'. A law counts once. -/
mutual
def uptoBulk {H : Type} : DataW H → Nat
  | .lit (.string bytes) => bytes.length + 1
  | .lit _ => 1
  | .nil => 1
  | .ptr d => uptoBulk d + 1
  | .slice elems spare => uptoBulkAll elems + uptoBulkAll spare + 1
  | .agg parts => uptoBulkAll parts + 1
  | .iface _ d => uptoBulk d + 1
  | .map entries => uptoBulkEntries entries + 1
  | .held _ => 1
def uptoBulkAll {H : Type} : List (DataW H) → Nat
  | [] => 0
  | d :: r => uptoBulk d + uptoBulkAll r
def uptoBulkEntries {H : Type} : List (Lit × DataW H) → Nat
  | [] => 0
  | x :: r => uptoBulkEntry x + uptoBulkEntries r
def uptoBulkEntry {H : Type} : Lit × DataW H → Nat
  | (.string bytes, d) => bytes.length + uptoBulk d + 1
  | (_, d) => uptoBulk d + 1
 end
def uptoSmall : (H : Type) → List (DataW H) → Bool := fun _ ds => decide (uptoBulkAll ds ≤ 1048576)
def OpenSpec.upto (s : _root_.Go.ChangeSpec) : _root_.Go.OpenSpec := { _root_.Go.OpenSpec.ofChange s with cond := some uptoSmall }

/-- 'hogsheadlaw04.MatrixInverts', WHERE WHAT IT READS IS OF BULK AT MOST 1048576: true; the input reads as it did. -/
def matrixInvertsUptoRow : OpenClaim := { program := "ytlpmehnffdaobaa", sum := "df2a8647d38173002856c740a853de8950995454e55bf26e7185c58654649330", func := "hogshead/hogsheadlaw04.MatrixInverts", spec := "matrixInverts", unfollowed := true, recurses := true, apart := false, narrowed := true }
def MatrixInvertsUptoSaid : Prop := matrixInvertsUptoRow.holds Try.pinned (OpenSpec.upto matrixInvertsSpec)

/-- 'hogsheadlaw04.MatrixMade', WHERE WHAT IT READS IS OF BULK AT MOST 1048576: true; the input reads as it did. -/
def matrixMadeUptoRow : OpenClaim := { program := "ytlpmehnffdaobaa", sum := "df2a8647d38173002856c740a853de8950995454e55bf26e7185c58654649330", func := "hogshead/hogsheadlaw04.MatrixMade", spec := "matrixMade", unfollowed := true, recurses := true, apart := false, narrowed := true }
def MatrixMadeUptoSaid : Prop := matrixMadeUptoRow.holds Try.pinned (OpenSpec.upto matrixMadeSpec)

/-- 'hogsheadlaw04.MatrixPowers', WHERE WHAT IT READS IS OF BULK AT MOST 1048576: true; the input reads as it did. -/
def matrixPowersUptoRow : OpenClaim := { program := "ytlpmehnffdaobaa", sum := "df2a8647d38173002856c740a853de8950995454e55bf26e7185c58654649330", func := "hogshead/hogsheadlaw04.MatrixPowers", spec := "matrixPowers", unfollowed := true, recurses := true, apart := false, narrowed := true }
def MatrixPowersUptoSaid : Prop := matrixPowersUptoRow.holds Try.pinned (OpenSpec.upto matrixPowersSpec)

/-- 'hogsheadlaw04.MatrixBrackets', WHERE WHAT IT READS IS OF BULK AT MOST 1048576: true; the input reads as it did. -/
def matrixBracketsUptoRow : OpenClaim := { program := "ytlpmehnffdaobaa", sum := "df2a8647d38173002856c740a853de8950995454e55bf26e7185c58654649330", func := "hogshead/hogsheadlaw04.MatrixBrackets", spec := "matrixBrackets", unfollowed := true, recurses := true, apart := false, narrowed := true }
def MatrixBracketsUptoSaid : Prop := matrixBracketsUptoRow.holds Try.pinned (OpenSpec.upto matrixBracketsSpec)

/-- 'hogsheadlaw04.MatrixTurns', WHERE WHAT IT READS IS OF BULK AT MOST 1048576: true; the input reads as it did. -/
def matrixTurnsUptoRow : OpenClaim := { program := "ytlpmehnffdaobaa", sum := "df2a8647d38173002856c740a853de8950995454e55bf26e7185c58654649330", func := "hogshead/hogsheadlaw04.MatrixTurns", spec := "matrixTurns", unfollowed := true, recurses := true, apart := false, narrowed := true }
def MatrixTurnsUptoSaid : Prop := matrixTurnsUptoRow.holds Try.pinned (OpenSpec.upto matrixTurnsSpec)

/-- 'hogsheadlaw04.MatrixNone', WHERE WHAT IT READS IS OF BULK AT MOST 1048576: true; the input reads as it did. -/
def matrixNoneUptoRow : OpenClaim := { program := "ytlpmehnffdaobaa", sum := "df2a8647d38173002856c740a853de8950995454e55bf26e7185c58654649330", func := "hogshead/hogsheadlaw04.MatrixNone", spec := "matrixNone", unfollowed := true, recurses := true, apart := false, narrowed := true }
def MatrixNoneUptoSaid : Prop := matrixNoneUptoRow.holds Try.pinned (OpenSpec.upto matrixNoneSpec)

/-- 'hogsheadlaw04.MatrixAdds', WHERE WHAT IT READS IS OF BULK AT MOST 1048576: true; the input reads as it did. -/
def matrixAddsUptoRow : OpenClaim := { program := "ytlpmehnffdaobaa", sum := "df2a8647d38173002856c740a853de8950995454e55bf26e7185c58654649330", func := "hogshead/hogsheadlaw04.MatrixAdds", spec := "matrixAdds", unfollowed := true, recurses := true, apart := false, narrowed := true }
def MatrixAddsUptoSaid : Prop := matrixAddsUptoRow.holds Try.pinned (OpenSpec.upto matrixAddsSpec)

/-- 'hogsheadlaw04.MatrixMuls', WHERE WHAT IT READS IS OF BULK AT MOST 1048576: true; the input reads as it did. -/
def matrixMulsUptoRow : OpenClaim := { program := "ytlpmehnffdaobaa", sum := "df2a8647d38173002856c740a853de8950995454e55bf26e7185c58654649330", func := "hogshead/hogsheadlaw04.MatrixMuls", spec := "matrixMuls", unfollowed := true, recurses := true, apart := false, narrowed := true }
def MatrixMulsUptoSaid : Prop := matrixMulsUptoRow.holds Try.pinned (OpenSpec.upto matrixMulsSpec)

end Rows
end Go.Proofs.Ytlpmehnffdaobaa
