/- How the laws' arguments lie in memory. (Written by mktypes.py.) -/
import Derived.Test.YtmfklfgddblmdaaProg
import Derived.Test.YtmfklfgddblmdaaCod
namespace Go.Proofs.Ytmfklfgddblmdaa
open Go.RowKit
set_option linter.unusedVariables false
set_option linter.unusedSimpArgs false
theorem seg_one {cs : List Value} {o : Nat} {v : Value} (h : (cs.drop o).take 1 = [v]) : cs[o]? = some v := by
  have : ((cs.drop o).take 1)[0]? = some v := by rw [h]; rfl
  rw [List.getElem?_take, if_pos (by decide), List.getElem?_drop, Nat.add_zero] at this
  exact this
theorem cells4 : Try.prog.cellsOf 4 = 1 := by kernel_rfl
def c4 : Cod Try.prog 4 Bool := codBool Try.underlying4 cells4
theorem cells5 : Try.prog.cellsOf 5 = 1 := by kernel_rfl
def c5 : Cod Try.prog 5 Int := codInt Try.underlying5 cells5
theorem cells31 : Try.prog.cellsOf 31 = 2 := by kernel_rfl
def c31 : Cod Try.prog 31 (Bool × Int × Unit) := codStruct Try.underlying31 (codCons _ c4 (codCons _ c5 codNil))
theorem k31 {w : World} {x : (Bool × Int × Unit)} {cs : List Value} (h : c31.K w x cs) : cs.length = 2 ∧ cs[0]? = some (.bool x.1) ∧ cs[1]? = some (.int .u8 x.2.1) ∧ (Lit.int .u8 x.2.1).wf = true := by
  obtain ⟨hl, h0, h1, _⟩ := h
  rw [cells31] at hl
  have g0 := seg_one (cells4 ▸ h0 : (cs.drop 0).take 1 = _)
  obtain ⟨h1, w1⟩ := h1
  have g1 := seg_one (cells5 ▸ h1 : (cs.drop 1).take 1 = _)
  exact ⟨hl, g0, g1, w1⟩
theorem cells22 : Try.prog.cellsOf 22 = 1 := by kernel_rfl
def c22 : Cod Try.prog 22 (List (Bool × Int × Unit)) := codSlice Try.underlying22 cells22 c31 (by rw [cells31]; decide)
end Go.Proofs.Ytmfklfgddblmdaa
