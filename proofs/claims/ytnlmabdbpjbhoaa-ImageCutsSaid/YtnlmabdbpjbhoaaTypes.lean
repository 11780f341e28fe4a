/- How the laws' arguments lie in memory. (Written by mktypes.py.) -/
import Derived.Test.YtnlmabdbpjbhoaaProg
import Derived.Test.YtnlmabdbpjbhoaaCod
namespace Go.Proofs.Ytnlmabdbpjbhoaa
open Go.RowKit
set_option linter.unusedVariables false
set_option linter.unusedSimpArgs false
theorem seg_one {cs : List Value} {o : Nat} {v : Value} (h : (cs.drop o).take 1 = [v]) : cs[o]? = some v := by
  have : ((cs.drop o).take 1)[0]? = some v := by rw [h]; rfl
  rw [List.getElem?_take, if_pos (by decide), List.getElem?_drop, Nat.add_zero] at this
  exact this
theorem cells5 : Try.prog.cellsOf 5 = 1 := by kernel_rfl
def c5 : Cod Try.prog 5 Int := codInt Try.underlying5 cells5
theorem cells23 : Try.prog.cellsOf 23 = 1 := by kernel_rfl
def c23 : Cod Try.prog 23 (List Int) := codSlice Try.underlying23 cells23 c5 (by rw [cells5]; decide)
theorem cells37 : Try.prog.cellsOf 37 = 1 := by kernel_rfl
def c37 : Cod Try.prog 37 (List (List Int)) := codSlice Try.underlying37 cells37 c23 (by rw [cells23]; decide)
theorem cells44 : Try.prog.cellsOf 44 = 1 := by kernel_rfl
def c44 : Cod Try.prog 44 Int := codInt Try.underlying44 cells44
theorem cells43 : Try.prog.cellsOf 43 = 1 := by kernel_rfl
def c43 : Cod Try.prog 43 (List Int) := codSlice Try.underlying43 cells43 c44 (by rw [cells44]; decide)
end Go.Proofs.Ytnlmabdbpjbhoaa
