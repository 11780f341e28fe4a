/- How the laws' arguments lie in memory. (Written by mktypes.py.) -/
import Derived.Test.YtaeonidjfmlbiaaProg
import Derived.Test.YtaeonidjfmlbiaaCod
namespace Go.Proofs.Ytaeonidjfmlbiaa
open Go.RowKit
set_option linter.unusedVariables false
set_option linter.unusedSimpArgs false
theorem seg_one {cs : List Value} {o : Nat} {v : Value} (h : (cs.drop o).take 1 = [v]) : cs[o]? = some v := by
  have : ((cs.drop o).take 1)[0]? = some v := by rw [h]; rfl
  rw [List.getElem?_take, if_pos (by decide), List.getElem?_drop, Nat.add_zero] at this
  exact this
theorem cells5 : Try.prog.cellsOf 5 = 1 := by kernel_rfl
def c5 : Cod Try.prog 5 Int := codInt Try.underlying5 cells5
theorem cells28 : Try.prog.cellsOf 28 = 1 := by kernel_rfl
def c28 : Cod Try.prog 28 Int := codInt Try.underlying28 cells28
theorem cells27 : Try.prog.cellsOf 27 = 1 := by kernel_rfl
def c27 : Cod Try.prog 27 Int := codInt Try.underlying27 cells27
theorem cells33 : Try.prog.cellsOf 33 = 3 := by kernel_rfl
def c33 : Cod Try.prog 33 (Int × Int × Int × Unit) := codStruct Try.underlying33 (codCons _ c5 (codCons _ c5 (codCons _ c27 codNil)))
theorem k33 {w : World} {x : (Int × Int × Int × Unit)} {cs : List Value} (h : c33.K w x cs) : cs.length = 3 ∧ cs[0]? = some (.int .u8 x.1) ∧ (Lit.int .u8 x.1).wf = true ∧ cs[1]? = some (.int .u8 x.2.1) ∧ (Lit.int .u8 x.2.1).wf = true ∧ cs[2]? = some (.int .u16 x.2.2.1) ∧ (Lit.int .u16 x.2.2.1).wf = true := by
  obtain ⟨hl, h0, h1, h2, _⟩ := h
  rw [cells33] at hl
  obtain ⟨h0, w0⟩ := h0
  have g0 := seg_one (cells5 ▸ h0 : (cs.drop 0).take 1 = _)
  obtain ⟨h1, w1⟩ := h1
  have g1 := seg_one (cells5 ▸ h1 : (cs.drop 1).take 1 = _)
  obtain ⟨h2, w2⟩ := h2
  have g2 := seg_one (cells27 ▸ h2 : (cs.drop 2).take 1 = _)
  exact ⟨hl, g0, w0, g1, w1, g2, w2⟩
theorem cells35 : Try.prog.cellsOf 35 = 5 := by kernel_rfl
def c35 : Cod Try.prog 35 (Int × Int × (Int × Int × Int × Unit) × Unit) := codStruct Try.underlying35 (codCons _ c5 (codCons _ c28 (codCons _ c33 codNil)))
theorem k35 {w : World} {x : (Int × Int × (Int × Int × Int × Unit) × Unit)} {cs : List Value} (h : c35.K w x cs) : cs.length = 5 ∧ cs[0]? = some (.int .u8 x.1) ∧ (Lit.int .u8 x.1).wf = true ∧ cs[1]? = some (.int .u32 x.2.1) ∧ (Lit.int .u32 x.2.1).wf = true ∧ c33.K w x.2.2.1 ((cs.drop 2).take 3) := by
  obtain ⟨hl, h0, h1, h2, _⟩ := h
  rw [cells35] at hl
  obtain ⟨h0, w0⟩ := h0
  have g0 := seg_one (cells5 ▸ h0 : (cs.drop 0).take 1 = _)
  obtain ⟨h1, w1⟩ := h1
  have g1 := seg_one (cells28 ▸ h1 : (cs.drop 1).take 1 = _)
  exact ⟨hl, g0, w0, g1, w1, (cells33 ▸ h2)⟩
theorem cells42 : Try.prog.cellsOf 42 = 1 := by kernel_rfl
def c42 : Cod Try.prog 42 (List (Int × Int × (Int × Int × Int × Unit) × Unit)) := codSlice Try.underlying42 cells42 c35 (by rw [cells35]; decide)
end Go.Proofs.Ytaeonidjfmlbiaa
