/- The field's contracts with the answers named. -/
import Derived.Test.YthapmjnhnfcaeaaShown
namespace Go.Proofs.Ythapmjnhnfcaeaa
open Go.RowKit
theorem byte_of {a : Int} (h : (Lit.int .u8 a).wf = true) : ∃ X : Nat, X < 256 ∧ a = (X : Int) := by
  have hb : 0 ≤ a ∧ a ≤ 255 := by simpa [Lit.wf, IntKind.min, IntKind.max, IntKind.bits, IntKind.signed] using h
  exact ⟨a.toNat, by omega, by omega⟩
theorem word_of {a : Int} (h : (Lit.int .u64 a).wf = true) : ∃ X : Nat, X < 18446744073709551616 ∧ a = (X : Int) := by
  have hb : 0 ≤ a ∧ a ≤ 18446744073709551615 := by simpa [Lit.wf, IntKind.min, IntKind.max, IntKind.bits, IntKind.signed] using h
  exact ⟨a.toNat, by omega, by omega⟩
theorem mul_to (X Y M : Nat) (hX : X < 256) (hY : Y < 256) (h : GF.mul X Y = M) (w : World) :
    Calls Try.prog 15 #[.int .u8 (X : Int), .int .u8 (Y : Int)] w fun e w' => e = .returned (.int .u8 (M : Int)) ∧ w = w' := by
  subst h; exact mul_nat X Y hX hY w
theorem pow_to (X n M : Nat) (hX : X < 256) (hN : U64 n) (h : GF.npow X n = M) (w : World) :
    Calls Try.prog 16 #[.int .u8 (X : Int), .int .u64 (n : Int)] w fun e w' => e = .returned (.int .u8 (M : Int)) ∧ w = w' := by
  subst h; exact pow_nat X n hX hN w
theorem inv_to (X I : Nat) (hX : X < 256) (h0 : X ≠ 0) (h : GF.inv X = I) (w : World) :
    Calls Try.prog 14 #[.int .u8 (X : Int)] w fun e w' => e = .returned (.tuple #[.int .u8 (I : Int), .int .i64 0]) ∧ w = w' := by
  subst h; exact inv_nat X hX h0 w
theorem log_to (X L : Nat) (hX : X < 256) (h0 : X ≠ 0) (h : GF.lg X = L) (w : World) :
    Calls Try.prog 17 #[.int .u8 (X : Int)] w fun e w' => e = .returned (.tuple #[.int .i64 (L : Int), .int .i64 0]) ∧ Fresh w w' := by
  subst h; exact log_nat X hX h0 w
theorem div_to (X Y M : Nat) (hX : X < 256) (hY : Y < 256) (h0 : Y ≠ 0) (h : GF.mul X (GF.inv Y) = M) (w : World) :
    Calls Try.prog 22 #[.int .u8 (X : Int), .int .u8 (Y : Int)] w fun e w' => e = .returned (.tuple #[.int .u8 (M : Int), .int .i64 0]) ∧ w = w' := by
  subst h; exact div_nat X Y hX hY h0 w
theorem add_to (X Y M : Nat) (hX : X < 256) (hY : Y < 256) (h : X ^^^ Y = M) (w : World) :
    Calls Try.prog 18 #[.int .u8 (X : Int), .int .u8 (Y : Int)] w fun e w' => e = .returned (.int .u8 (M : Int)) ∧ w = w' := by
  subst h; exact add_nat X Y hX hY w
end Go.Proofs.Ythapmjnhnfcaeaa
