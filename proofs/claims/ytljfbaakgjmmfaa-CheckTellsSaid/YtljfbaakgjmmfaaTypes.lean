/- How the laws' arguments lie in memory. (Written by mktypes.py.) -/
import Derived.Test.YtljfbaakgjmmfaaProg
import Derived.Test.YtljfbaakgjmmfaaCod
namespace Go.Proofs.Ytljfbaakgjmmfaa
open Go.RowKit
set_option linter.unusedVariables false
set_option linter.unusedSimpArgs false
theorem seg_one {cs : List Value} {o : Nat} {v : Value} (h : (cs.drop o).take 1 = [v]) : cs[o]? = some v := by
  have : ((cs.drop o).take 1)[0]? = some v := by rw [h]; rfl
  rw [List.getElem?_take, if_pos (by decide), List.getElem?_drop, Nat.add_zero] at this
  exact this
theorem cells5 : Try.prog.cellsOf 5 = 1 := by kernel_rfl
def c5 : Cod Try.prog 5 Int := codInt Try.underlying5 cells5
theorem cells22 : Try.prog.cellsOf 22 = 3 := by kernel_rfl
def c22 : Cod Try.prog 22 (List Int) := codArray Try.underlying22 c5
theorem k22 {w : World} {x : (List Int)} {cs : List Value} (h : c22.K w x cs) : cs = x.map (Value.int .u8) ∧ x.length = 3 ∧ ∀ y ∈ x, (Lit.int .u8 y).wf = true := array_ints cells22 h
theorem cells25 : Try.prog.cellsOf 25 = 1 := by kernel_rfl
def c25 : Cod Try.prog 25 Int := codInt Try.underlying25 cells25
theorem cells26 : Try.prog.cellsOf 26 = 1 := by kernel_rfl
def c26 : Cod Try.prog 26 Int := codInt Try.underlying26 cells26
theorem cells28 : Try.prog.cellsOf 28 = 3 := by kernel_rfl
def c28 : Cod Try.prog 28 (Int × Int × Int × Unit) := codStruct Try.underlying28 (codCons _ c5 (codCons _ c5 (codCons _ c26 codNil)))
theorem k28 {w : World} {x : (Int × Int × Int × Unit)} {cs : List Value} (h : c28.K w x cs) : cs.length = 3 ∧ cs[0]? = some (.int .u8 x.1) ∧ (Lit.int .u8 x.1).wf = true ∧ cs[1]? = some (.int .u8 x.2.1) ∧ (Lit.int .u8 x.2.1).wf = true ∧ cs[2]? = some (.int .u16 x.2.2.1) ∧ (Lit.int .u16 x.2.2.1).wf = true := by
  obtain ⟨hl, h0, h1, h2, _⟩ := h
  rw [cells28] at hl
  obtain ⟨h0, w0⟩ := h0
  have g0 := seg_one (cells5 ▸ h0 : (cs.drop 0).take 1 = _)
  obtain ⟨h1, w1⟩ := h1
  have g1 := seg_one (cells5 ▸ h1 : (cs.drop 1).take 1 = _)
  obtain ⟨h2, w2⟩ := h2
  have g2 := seg_one (cells26 ▸ h2 : (cs.drop 2).take 1 = _)
  exact ⟨hl, g0, w0, g1, w1, g2, w2⟩
theorem cells30 : Try.prog.cellsOf 30 = 5 := by kernel_rfl
def c30 : Cod Try.prog 30 (Int × Int × (Int × Int × Int × Unit) × Unit) := codStruct Try.underlying30 (codCons _ c5 (codCons _ c25 (codCons _ c28 codNil)))
theorem k30 {w : World} {x : (Int × Int × (Int × Int × Int × Unit) × Unit)} {cs : List Value} (h : c30.K w x cs) : cs.length = 5 ∧ cs[0]? = some (.int .u8 x.1) ∧ (Lit.int .u8 x.1).wf = true ∧ cs[1]? = some (.int .u32 x.2.1) ∧ (Lit.int .u32 x.2.1).wf = true ∧ c28.K w x.2.2.1 ((cs.drop 2).take 3) := by
  obtain ⟨hl, h0, h1, h2, _⟩ := h
  rw [cells30] at hl
  obtain ⟨h0, w0⟩ := h0
  have g0 := seg_one (cells5 ▸ h0 : (cs.drop 0).take 1 = _)
  obtain ⟨h1, w1⟩ := h1
  have g1 := seg_one (cells25 ▸ h1 : (cs.drop 1).take 1 = _)
  exact ⟨hl, g0, w0, g1, w1, (cells28 ▸ h2)⟩
theorem cells36 : Try.prog.cellsOf 36 = 7 := by kernel_rfl
def c36 : Cod Try.prog 36 (Int × (Int × Int × (Int × Int × Int × Unit) × Unit) × Int × Unit) := codStruct Try.underlying36 (codCons _ c25 (codCons _ c30 (codCons _ c25 codNil)))
theorem k36 {w : World} {x : (Int × (Int × Int × (Int × Int × Int × Unit) × Unit) × Int × Unit)} {cs : List Value} (h : c36.K w x cs) : cs.length = 7 ∧ cs[0]? = some (.int .u32 x.1) ∧ (Lit.int .u32 x.1).wf = true ∧ c30.K w x.2.1 ((cs.drop 1).take 5) ∧ cs[6]? = some (.int .u32 x.2.2.1) ∧ (Lit.int .u32 x.2.2.1).wf = true := by
  obtain ⟨hl, h0, h1, h2, _⟩ := h
  rw [cells36] at hl
  obtain ⟨h0, w0⟩ := h0
  have g0 := seg_one (cells25 ▸ h0 : (cs.drop 0).take 1 = _)
  obtain ⟨h2, w2⟩ := h2
  have g2 := seg_one (cells25 ▸ h2 : (cs.drop 6).take 1 = _)
  exact ⟨hl, g0, w0, (cells30 ▸ h1), g2, w2⟩
theorem cells34 : Try.prog.cellsOf 34 = 1 := by kernel_rfl
def c34 : Cod Try.prog 34 (List (Int × (Int × Int × (Int × Int × Int × Unit) × Unit) × Int × Unit)) := codSlice Try.underlying34 cells34 c36 (by rw [cells36]; decide)
theorem cells33 : Try.prog.cellsOf 33 = 1 := by kernel_rfl
def c33 : Cod Try.prog 33 (List (List (Int × (Int × Int × (Int × Int × Int × Unit) × Unit) × Int × Unit))) := codSlice Try.underlying33 cells33 c34 (by rw [cells34]; decide)
theorem cells24 : Try.prog.cellsOf 24 = 1 := by kernel_rfl
def c24 : Cod Try.prog 24 (List (Int × Int × (Int × Int × Int × Unit) × Unit)) := codSlice Try.underlying24 cells24 c30 (by rw [cells30]; decide)
theorem cells44 : Try.prog.cellsOf 44 = 6 := by kernel_rfl
def c44 : Cod Try.prog 44 ((Int × Int × (Int × Int × Int × Unit) × Unit) × Int × Unit) := codStruct Try.underlying44 (codCons _ c30 (codCons _ c25 codNil))
theorem k44 {w : World} {x : ((Int × Int × (Int × Int × Int × Unit) × Unit) × Int × Unit)} {cs : List Value} (h : c44.K w x cs) : cs.length = 6 ∧ c30.K w x.1 ((cs.drop 0).take 5) ∧ cs[5]? = some (.int .u32 x.2.1) ∧ (Lit.int .u32 x.2.1).wf = true := by
  obtain ⟨hl, h0, h1, _⟩ := h
  rw [cells44] at hl
  obtain ⟨h1, w1⟩ := h1
  have g1 := seg_one (cells25 ▸ h1 : (cs.drop 5).take 1 = _)
  exact ⟨hl, (cells30 ▸ h0), g1, w1⟩
theorem cells46 : Try.prog.cellsOf 46 = 1 := by kernel_rfl
def c46 : Cod Try.prog 46 (List ((Int × Int × (Int × Int × Int × Unit) × Unit) × Int × Unit)) := codSlice Try.underlying46 cells46 c44 (by rw [cells44]; decide)
end Go.Proofs.Ytljfbaakgjmmfaa
