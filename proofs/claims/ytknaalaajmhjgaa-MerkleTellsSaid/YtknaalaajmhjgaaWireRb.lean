/- The wire's reader: bytes behind their length. -/
import Derived.Test.YtknaalaajmhjgaaWireRd
namespace Go.Proofs.Ytknaalaajmhjgaa
open Go.RowKit Go.ChangeShapes
set_option linter.unusedVariables false
set_option linter.unusedSimpArgs false
theorem u16_nat (x : List Int) : ∃ k : Nat, IntKind.u16.wrap (vOf (x.take 2)) = (k : Int) ∧ k ≤ 65535 := by
  have h0 : IntKind.u16.wrap (vOf (x.take 2)) = vOf (x.take 2) % 65536 := by simp [IntKind.wrap, IntKind.bits, IntKind.signed]
  exact ⟨(vOf (x.take 2) % 65536).toNat, by omega, by omega⟩
end Go.Proofs.Ytknaalaajmhjgaa
