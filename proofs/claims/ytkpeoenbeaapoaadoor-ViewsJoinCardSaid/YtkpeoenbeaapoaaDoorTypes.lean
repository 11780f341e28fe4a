/- How the laws' arguments lie in memory. (Written by mktypes.py.) -/
import Derived.Test.YtkpeoenbeaapoaaDoorProg
import Derived.Test.YtkpeoenbeaapoaaDoorCod
namespace Go.Proofs.YtkpeoenbeaapoaaDoor
open Go.RowKit
set_option linter.unusedVariables false
set_option linter.unusedSimpArgs false
theorem seg_one {cs : List Value} {o : Nat} {v : Value} (h : (cs.drop o).take 1 = [v]) : cs[o]? = some v := by
  have : ((cs.drop o).take 1)[0]? = some v := by rw [h]; rfl
  rw [List.getElem?_take, if_pos (by decide), List.getElem?_drop, Nat.add_zero] at this
  exact this
theorem cells5 : Tryd.prog.cellsOf 5 = 1 := by kernel_rfl
def c5 : Cod Tryd.prog 5 Int := codInt Tryd.underlying5 cells5
theorem cells22 : Tryd.prog.cellsOf 22 = 4 := by kernel_rfl
def c22 : Cod Tryd.prog 22 (List Int) := codArray Tryd.underlying22 c5
theorem k22 {w : World} {x : (List Int)} {cs : List Value} (h : c22.K w x cs) : cs = x.map (Value.int .u8) ∧ x.length = 4 ∧ ∀ y ∈ x, (Lit.int .u8 y).wf = true := array_ints cells22 h
theorem cells50 : Tryd.prog.cellsOf 50 = 1 := by kernel_rfl
def c50 : Cod Tryd.prog 50 (List Int) := codSlice Tryd.underlying50 cells50 c5 (by rw [cells5]; decide)
end Go.Proofs.YtkpeoenbeaapoaaDoor
