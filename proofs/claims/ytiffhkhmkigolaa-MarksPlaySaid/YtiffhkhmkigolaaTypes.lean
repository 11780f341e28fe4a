/- How the laws' arguments lie in memory. (Written by mktypes.py.) -/
import Derived.Test.YtiffhkhmkigolaaProg
import Derived.Test.YtiffhkhmkigolaaCod
namespace Go.Proofs.Ytiffhkhmkigolaa
open Go.RowKit
set_option linter.unusedVariables false
set_option linter.unusedSimpArgs false
theorem seg_one {cs : List Value} {o : Nat} {v : Value} (h : (cs.drop o).take 1 = [v]) : cs[o]? = some v := by
  have : ((cs.drop o).take 1)[0]? = some v := by rw [h]; rfl
  rw [List.getElem?_take, if_pos (by decide), List.getElem?_drop, Nat.add_zero] at this
  exact this
theorem cells5 : Try.prog.cellsOf 5 = 1 := by kernel_rfl
def c5 : Cod Try.prog 5 Int := codInt Try.underlying5 cells5
theorem cells34 : Try.prog.cellsOf 34 = 4 := by kernel_rfl
def c34 : Cod Try.prog 34 (List Int) := codArray Try.underlying34 c5
theorem k34 {w : World} {x : (List Int)} {cs : List Value} (h : c34.K w x cs) : cs = x.map (Value.int .u8) ∧ x.length = 4 ∧ ∀ y ∈ x, (Lit.int .u8 y).wf = true := array_ints cells34 h
theorem cells3 : Try.prog.cellsOf 3 = 1 := by kernel_rfl
def c3 : Cod Try.prog 3 Int := codInt Try.underlying3 cells3
theorem cells26 : Try.prog.cellsOf 26 = 1 := by kernel_rfl
def c26 : Cod Try.prog 26 Int := codInt Try.underlying26 cells26
theorem cells28 : Try.prog.cellsOf 28 = 1 := by kernel_rfl
def c28 : Cod Try.prog 28 Int := codInt Try.underlying28 cells28
theorem cells43 : Try.prog.cellsOf 43 = 4 := by kernel_rfl
def c43 : Cod Try.prog 43 (Int × Int × Int × Int × Unit) := codStruct Try.underlying43 (codCons _ c3 (codCons _ c5 (codCons _ c26 (codCons _ c28 codNil))))
theorem k43 {w : World} {x : (Int × Int × Int × Int × Unit)} {cs : List Value} (h : c43.K w x cs) : cs.length = 4 ∧ cs[0]? = some (.int .i64 x.1) ∧ (Lit.int .i64 x.1).wf = true ∧ cs[1]? = some (.int .u8 x.2.1) ∧ (Lit.int .u8 x.2.1).wf = true ∧ cs[2]? = some (.int .u32 x.2.2.1) ∧ (Lit.int .u32 x.2.2.1).wf = true ∧ cs[3]? = some (.int .u64 x.2.2.2.1) ∧ (Lit.int .u64 x.2.2.2.1).wf = true := by
  obtain ⟨hl, h0, h1, h2, h3, _⟩ := h
  rw [cells43] at hl
  obtain ⟨h0, w0⟩ := h0
  have g0 := seg_one (cells3 ▸ h0 : (cs.drop 0).take 1 = _)
  obtain ⟨h1, w1⟩ := h1
  have g1 := seg_one (cells5 ▸ h1 : (cs.drop 1).take 1 = _)
  obtain ⟨h2, w2⟩ := h2
  have g2 := seg_one (cells26 ▸ h2 : (cs.drop 2).take 1 = _)
  obtain ⟨h3, w3⟩ := h3
  have g3 := seg_one (cells28 ▸ h3 : (cs.drop 3).take 1 = _)
  exact ⟨hl, g0, w0, g1, w1, g2, w2, g3, w3⟩
theorem cells37 : Try.prog.cellsOf 37 = 1 := by kernel_rfl
def c37 : Cod Try.prog 37 (List (Int × Int × Int × Int × Unit)) := codSlice Try.underlying37 cells37 c43 (by rw [cells43]; decide)
end Go.Proofs.Ytiffhkhmkigolaa
