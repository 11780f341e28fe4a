/- How the laws' arguments lie in memory. (Written by mktypes.py.) -/
import Derived.Test.YtabmbppolmikcaaProg
import Derived.Test.YtabmbppolmikcaaCod
namespace Go.Proofs.Ytabmbppolmikcaa
open Go.RowKit
set_option linter.unusedVariables false
set_option linter.unusedSimpArgs false
theorem seg_one {cs : List Value} {o : Nat} {v : Value} (h : (cs.drop o).take 1 = [v]) : cs[o]? = some v := by
  have : ((cs.drop o).take 1)[0]? = some v := by rw [h]; rfl
  rw [List.getElem?_take, if_pos (by decide), List.getElem?_drop, Nat.add_zero] at this
  exact this
theorem cells5 : Try.prog.cellsOf 5 = 1 := by kernel_rfl
def c5 : Cod Try.prog 5 Int := codInt Try.underlying5 cells5
theorem cells22 : Try.prog.cellsOf 22 = 1 := by kernel_rfl
def c22 : Cod Try.prog 22 (List Int) := codSlice Try.underlying22 cells22 c5 (by rw [cells5]; decide)
theorem cells3 : Try.prog.cellsOf 3 = 1 := by kernel_rfl
def c3 : Cod Try.prog 3 Int := codInt Try.underlying3 cells3
theorem cells26 : Try.prog.cellsOf 26 = 1 := by kernel_rfl
def c26 : Cod Try.prog 26 Int := codInt Try.underlying26 cells26
theorem cells29 : Try.prog.cellsOf 29 = 1 := by kernel_rfl
def c29 : Cod Try.prog 29 Int := codInt Try.underlying29 cells29
theorem cells31 : Try.prog.cellsOf 31 = 3 := by kernel_rfl
def c31 : Cod Try.prog 31 (Int × Int × Int × Unit) := codStruct Try.underlying31 (codCons _ c5 (codCons _ c5 (codCons _ c29 codNil)))
theorem k31 {w : World} {x : (Int × Int × Int × Unit)} {cs : List Value} (h : c31.K w x cs) : cs.length = 3 ∧ cs[0]? = some (.int .u8 x.1) ∧ (Lit.int .u8 x.1).wf = true ∧ cs[1]? = some (.int .u8 x.2.1) ∧ (Lit.int .u8 x.2.1).wf = true ∧ cs[2]? = some (.int .u16 x.2.2.1) ∧ (Lit.int .u16 x.2.2.1).wf = true := by
  obtain ⟨hl, h0, h1, h2, _⟩ := h
  rw [cells31] at hl
  obtain ⟨h0, w0⟩ := h0
  have g0 := seg_one (cells5 ▸ h0 : (cs.drop 0).take 1 = _)
  obtain ⟨h1, w1⟩ := h1
  have g1 := seg_one (cells5 ▸ h1 : (cs.drop 1).take 1 = _)
  obtain ⟨h2, w2⟩ := h2
  have g2 := seg_one (cells29 ▸ h2 : (cs.drop 2).take 1 = _)
  exact ⟨hl, g0, w0, g1, w1, g2, w2⟩
theorem cells33 : Try.prog.cellsOf 33 = 5 := by kernel_rfl
def c33 : Cod Try.prog 33 (Int × Int × (Int × Int × Int × Unit) × Unit) := codStruct Try.underlying33 (codCons _ c5 (codCons _ c26 (codCons _ c31 codNil)))
theorem k33 {w : World} {x : (Int × Int × (Int × Int × Int × Unit) × Unit)} {cs : List Value} (h : c33.K w x cs) : cs.length = 5 ∧ cs[0]? = some (.int .u8 x.1) ∧ (Lit.int .u8 x.1).wf = true ∧ cs[1]? = some (.int .u32 x.2.1) ∧ (Lit.int .u32 x.2.1).wf = true ∧ c31.K w x.2.2.1 ((cs.drop 2).take 3) := by
  obtain ⟨hl, h0, h1, h2, _⟩ := h
  rw [cells33] at hl
  obtain ⟨h0, w0⟩ := h0
  have g0 := seg_one (cells5 ▸ h0 : (cs.drop 0).take 1 = _)
  obtain ⟨h1, w1⟩ := h1
  have g1 := seg_one (cells26 ▸ h1 : (cs.drop 1).take 1 = _)
  exact ⟨hl, g0, w0, g1, w1, (cells31 ▸ h2)⟩
theorem cells44 : Try.prog.cellsOf 44 = 6 := by kernel_rfl
def c44 : Cod Try.prog 44 (Int × (Int × Int × (Int × Int × Int × Unit) × Unit) × Unit) := codStruct Try.underlying44 (codCons _ c3 (codCons _ c33 codNil))
theorem k44 {w : World} {x : (Int × (Int × Int × (Int × Int × Int × Unit) × Unit) × Unit)} {cs : List Value} (h : c44.K w x cs) : cs.length = 6 ∧ cs[0]? = some (.int .i64 x.1) ∧ (Lit.int .i64 x.1).wf = true ∧ c33.K w x.2.1 ((cs.drop 1).take 5) := by
  obtain ⟨hl, h0, h1, _⟩ := h
  rw [cells44] at hl
  obtain ⟨h0, w0⟩ := h0
  have g0 := seg_one (cells3 ▸ h0 : (cs.drop 0).take 1 = _)
  exact ⟨hl, g0, w0, (cells33 ▸ h1)⟩
theorem cells39 : Try.prog.cellsOf 39 = 1 := by kernel_rfl
def c39 : Cod Try.prog 39 (List (Int × (Int × Int × (Int × Int × Int × Unit) × Unit) × Unit)) := codSlice Try.underlying39 cells39 c44 (by rw [cells44]; decide)
end Go.Proofs.Ytabmbppolmikcaa
