/- How the laws' arguments lie in memory. (Written by mktypes.py.) -/
import Derived.Test.YtbjkdikiomhmgaaProg
import Derived.Test.YtbjkdikiomhmgaaCod
namespace Go.Proofs.Ytbjkdikiomhmgaa
open Go.RowKit
set_option linter.unusedVariables false
set_option linter.unusedSimpArgs false
theorem seg_one {cs : List Value} {o : Nat} {v : Value} (h : (cs.drop o).take 1 = [v]) : cs[o]? = some v := by
  have : ((cs.drop o).take 1)[0]? = some v := by rw [h]; rfl
  rw [List.getElem?_take, if_pos (by decide), List.getElem?_drop, Nat.add_zero] at this
  exact this
theorem cells30 : Try.prog.cellsOf 30 = 1 := by kernel_rfl
def c30 : Cod Try.prog 30 Int := codInt Try.underlying30 cells30
theorem cells39 : Try.prog.cellsOf 39 = 4 := by kernel_rfl
def c39 : Cod Try.prog 39 (List Int) := codArray Try.underlying39 c30
theorem k39 {w : World} {x : (List Int)} {cs : List Value} (h : c39.K w x cs) : cs = x.map (Value.int .u32) ∧ x.length = 4 ∧ ∀ y ∈ x, (Lit.int .u32 y).wf = true := array_ints cells39 h
end Go.Proofs.Ytbjkdikiomhmgaa
