/- How the laws' arguments lie in memory. (Written by mktypes.py.) -/
import Derived.Test.YtijomhinfcahpaaProg
import Derived.Test.YtijomhinfcahpaaCod
namespace Go.Proofs.Ytijomhinfcahpaa
open Go.RowKit
set_option linter.unusedVariables false
set_option linter.unusedSimpArgs false
theorem seg_one {cs : List Value} {o : Nat} {v : Value} (h : (cs.drop o).take 1 = [v]) : cs[o]? = some v := by
  have : ((cs.drop o).take 1)[0]? = some v := by rw [h]; rfl
  rw [List.getElem?_take, if_pos (by decide), List.getElem?_drop, Nat.add_zero] at this
  exact this
theorem cells22 : Try.prog.cellsOf 22 = 1 := by kernel_rfl
def c22 : Cod Try.prog 22 Int := codInt Try.underlying22 cells22
theorem cells5 : Try.prog.cellsOf 5 = 1 := by kernel_rfl
def c5 : Cod Try.prog 5 Int := codInt Try.underlying5 cells5
theorem cells23 : Try.prog.cellsOf 23 = 1 := by kernel_rfl
def c23 : Cod Try.prog 23 Int := codInt Try.underlying23 cells23
theorem cells25 : Try.prog.cellsOf 25 = 3 := by kernel_rfl
def c25 : Cod Try.prog 25 (Int × Int × Int × Unit) := codStruct Try.underlying25 (codCons _ c5 (codCons _ c5 (codCons _ c23 codNil)))
theorem k25 {w : World} {x : (Int × Int × Int × Unit)} {cs : List Value} (h : c25.K w x cs) : cs.length = 3 ∧ cs[0]? = some (.int .u8 x.1) ∧ (Lit.int .u8 x.1).wf = true ∧ cs[1]? = some (.int .u8 x.2.1) ∧ (Lit.int .u8 x.2.1).wf = true ∧ cs[2]? = some (.int .u16 x.2.2.1) ∧ (Lit.int .u16 x.2.2.1).wf = true := by
  obtain ⟨hl, h0, h1, h2, _⟩ := h
  rw [cells25] at hl
  obtain ⟨h0, w0⟩ := h0
  have g0 := seg_one (cells5 ▸ h0 : (cs.drop 0).take 1 = _)
  obtain ⟨h1, w1⟩ := h1
  have g1 := seg_one (cells5 ▸ h1 : (cs.drop 1).take 1 = _)
  obtain ⟨h2, w2⟩ := h2
  have g2 := seg_one (cells23 ▸ h2 : (cs.drop 2).take 1 = _)
  exact ⟨hl, g0, w0, g1, w1, g2, w2⟩
theorem cells27 : Try.prog.cellsOf 27 = 5 := by kernel_rfl
def c27 : Cod Try.prog 27 (Int × Int × (Int × Int × Int × Unit) × Unit) := codStruct Try.underlying27 (codCons _ c5 (codCons _ c22 (codCons _ c25 codNil)))
theorem k27 {w : World} {x : (Int × Int × (Int × Int × Int × Unit) × Unit)} {cs : List Value} (h : c27.K w x cs) : cs.length = 5 ∧ cs[0]? = some (.int .u8 x.1) ∧ (Lit.int .u8 x.1).wf = true ∧ cs[1]? = some (.int .u32 x.2.1) ∧ (Lit.int .u32 x.2.1).wf = true ∧ c25.K w x.2.2.1 ((cs.drop 2).take 3) := by
  obtain ⟨hl, h0, h1, h2, _⟩ := h
  rw [cells27] at hl
  obtain ⟨h0, w0⟩ := h0
  have g0 := seg_one (cells5 ▸ h0 : (cs.drop 0).take 1 = _)
  obtain ⟨h1, w1⟩ := h1
  have g1 := seg_one (cells22 ▸ h1 : (cs.drop 1).take 1 = _)
  exact ⟨hl, g0, w0, g1, w1, (cells25 ▸ h2)⟩
theorem cells3 : Try.prog.cellsOf 3 = 1 := by kernel_rfl
def c3 : Cod Try.prog 3 Int := codInt Try.underlying3 cells3
theorem cells53 : Try.prog.cellsOf 53 = 9 := by kernel_rfl
def c53 : Cod Try.prog 53 (Int × Int × Int × Int × (Int × Int × (Int × Int × Int × Unit) × Unit) × Unit) := codStruct Try.underlying53 (codCons _ c3 (codCons _ c5 (codCons _ c22 (codCons _ c22 (codCons _ c27 codNil)))))
theorem k53 {w : World} {x : (Int × Int × Int × Int × (Int × Int × (Int × Int × Int × Unit) × Unit) × Unit)} {cs : List Value} (h : c53.K w x cs) : cs.length = 9 ∧ cs[0]? = some (.int .i64 x.1) ∧ (Lit.int .i64 x.1).wf = true ∧ cs[1]? = some (.int .u8 x.2.1) ∧ (Lit.int .u8 x.2.1).wf = true ∧ cs[2]? = some (.int .u32 x.2.2.1) ∧ (Lit.int .u32 x.2.2.1).wf = true ∧ cs[3]? = some (.int .u32 x.2.2.2.1) ∧ (Lit.int .u32 x.2.2.2.1).wf = true ∧ c27.K w x.2.2.2.2.1 ((cs.drop 4).take 5) := by
  obtain ⟨hl, h0, h1, h2, h3, h4, _⟩ := h
  rw [cells53] at hl
  obtain ⟨h0, w0⟩ := h0
  have g0 := seg_one (cells3 ▸ h0 : (cs.drop 0).take 1 = _)
  obtain ⟨h1, w1⟩ := h1
  have g1 := seg_one (cells5 ▸ h1 : (cs.drop 1).take 1 = _)
  obtain ⟨h2, w2⟩ := h2
  have g2 := seg_one (cells22 ▸ h2 : (cs.drop 2).take 1 = _)
  obtain ⟨h3, w3⟩ := h3
  have g3 := seg_one (cells22 ▸ h3 : (cs.drop 3).take 1 = _)
  exact ⟨hl, g0, w0, g1, w1, g2, w2, g3, w3, (cells27 ▸ h4)⟩
theorem cells47 : Try.prog.cellsOf 47 = 1 := by kernel_rfl
def c47 : Cod Try.prog 47 (List (Int × Int × Int × Int × (Int × Int × (Int × Int × Int × Unit) × Unit) × Unit)) := codSlice Try.underlying47 cells47 c53 (by rw [cells53]; decide)
end Go.Proofs.Ytijomhinfcahpaa
