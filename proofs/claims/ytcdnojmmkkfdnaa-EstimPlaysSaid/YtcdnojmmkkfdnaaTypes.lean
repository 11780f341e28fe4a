/- How the laws' arguments lie in memory. (Written by mktypes.py.) -/
import Derived.Test.YtcdnojmmkkfdnaaProg
import Derived.Test.YtcdnojmmkkfdnaaCod
namespace Go.Proofs.Ytcdnojmmkkfdnaa
open Go.RowKit
set_option linter.unusedVariables false
set_option linter.unusedSimpArgs false
theorem seg_one {cs : List Value} {o : Nat} {v : Value} (h : (cs.drop o).take 1 = [v]) : cs[o]? = some v := by
  have : ((cs.drop o).take 1)[0]? = some v := by rw [h]; rfl
  rw [List.getElem?_take, if_pos (by decide), List.getElem?_drop, Nat.add_zero] at this
  exact this
theorem cells5 : Try.prog.cellsOf 5 = 1 := by kernel_rfl
def c5 : Cod Try.prog 5 Int := codInt Try.underlying5 cells5
theorem cells41 : Try.prog.cellsOf 41 = 4 := by kernel_rfl
def c41 : Cod Try.prog 41 (List Int) := codArray Try.underlying41 c5
theorem k41 {w : World} {x : (List Int)} {cs : List Value} (h : c41.K w x cs) : cs = x.map (Value.int .u8) ∧ x.length = 4 ∧ ∀ y ∈ x, (Lit.int .u8 y).wf = true := array_ints cells41 h
theorem cells28 : Try.prog.cellsOf 28 = 1 := by kernel_rfl
def c28 : Cod Try.prog 28 Int := codInt Try.underlying28 cells28
theorem cells33 : Try.prog.cellsOf 33 = 3 := by kernel_rfl
def c33 : Cod Try.prog 33 (Int × Int × Int × Unit) := codStruct Try.underlying33 (codCons _ c5 (codCons _ c5 (codCons _ c28 codNil)))
theorem k33 {w : World} {x : (Int × Int × Int × Unit)} {cs : List Value} (h : c33.K w x cs) : cs.length = 3 ∧ cs[0]? = some (.int .u8 x.1) ∧ (Lit.int .u8 x.1).wf = true ∧ cs[1]? = some (.int .u8 x.2.1) ∧ (Lit.int .u8 x.2.1).wf = true ∧ cs[2]? = some (.int .u32 x.2.2.1) ∧ (Lit.int .u32 x.2.2.1).wf = true := by
  obtain ⟨hl, h0, h1, h2, _⟩ := h
  rw [cells33] at hl
  obtain ⟨h0, w0⟩ := h0
  have g0 := seg_one (cells5 ▸ h0 : (cs.drop 0).take 1 = _)
  obtain ⟨h1, w1⟩ := h1
  have g1 := seg_one (cells5 ▸ h1 : (cs.drop 1).take 1 = _)
  obtain ⟨h2, w2⟩ := h2
  have g2 := seg_one (cells28 ▸ h2 : (cs.drop 2).take 1 = _)
  exact ⟨hl, g0, w0, g1, w1, g2, w2⟩
theorem cells22 : Try.prog.cellsOf 22 = 1 := by kernel_rfl
def c22 : Cod Try.prog 22 (List (Int × Int × Int × Unit)) := codSlice Try.underlying22 cells22 c33 (by rw [cells33]; decide)
end Go.Proofs.Ytcdnojmmkkfdnaa
