/- How the laws' arguments lie in memory. (Written by mktypes.py.) -/
import Derived.Test.YtknaalaajmhjgaaProg
import Derived.Test.YtknaalaajmhjgaaCod
namespace Go.Proofs.Ytknaalaajmhjgaa
open Go.RowKit
set_option linter.unusedVariables false
set_option linter.unusedSimpArgs false
theorem seg_one {cs : List Value} {o : Nat} {v : Value} (h : (cs.drop o).take 1 = [v]) : cs[o]? = some v := by
  have : ((cs.drop o).take 1)[0]? = some v := by rw [h]; rfl
  rw [List.getElem?_take, if_pos (by decide), List.getElem?_drop, Nat.add_zero] at this
  exact this
theorem cells22 : Try.prog.cellsOf 22 = 1 := by kernel_rfl
def c22 : Cod Try.prog 22 Int := codInt Try.underlying22 cells22
theorem cells23 : Try.prog.cellsOf 23 = 8 := by kernel_rfl
def c23 : Cod Try.prog 23 (List Int) := codArray Try.underlying23 c22
theorem k23 {w : World} {x : (List Int)} {cs : List Value} (h : c23.K w x cs) : cs = x.map (Value.int .u64) ∧ x.length = 8 ∧ ∀ y ∈ x, (Lit.int .u64 y).wf = true := array_ints cells23 h
theorem cells5 : Try.prog.cellsOf 5 = 1 := by kernel_rfl
def c5 : Cod Try.prog 5 Int := codInt Try.underlying5 cells5
end Go.Proofs.Ytknaalaajmhjgaa
