/- How the laws' arguments lie in memory. (Written by mktypes.py.) -/
import Derived.Test.YtlcdldddghhdjaaProg
import Derived.Test.YtlcdldddghhdjaaCod
namespace Go.Proofs.Ytlcdldddghhdjaa
open Go.RowKit
set_option linter.unusedVariables false
set_option linter.unusedSimpArgs false
theorem seg_one {cs : List Value} {o : Nat} {v : Value} (h : (cs.drop o).take 1 = [v]) : cs[o]? = some v := by
  have : ((cs.drop o).take 1)[0]? = some v := by rw [h]; rfl
  rw [List.getElem?_take, if_pos (by decide), List.getElem?_drop, Nat.add_zero] at this
  exact this
theorem cells3 : Try.prog.cellsOf 3 = 1 := by kernel_rfl
def c3 : Cod Try.prog 3 Int := codInt Try.underlying3 cells3
theorem cells5 : Try.prog.cellsOf 5 = 1 := by kernel_rfl
def c5 : Cod Try.prog 5 Int := codInt Try.underlying5 cells5
theorem cells27 : Try.prog.cellsOf 27 = 1 := by kernel_rfl
def c27 : Cod Try.prog 27 (List Int) := codSlice Try.underlying27 cells27 c5 (by rw [cells5]; decide)
theorem cells29 : Try.prog.cellsOf 29 = 4 := by kernel_rfl
def c29 : Cod Try.prog 29 (Int × Int × Int × (List Int) × Unit) := codStruct Try.underlying29 (codCons _ c3 (codCons _ c3 (codCons _ c3 (codCons _ c27 codNil))))
theorem k29 {w : World} {x : (Int × Int × Int × (List Int) × Unit)} {cs : List Value} (h : c29.K w x cs) : cs.length = 4 ∧ cs[0]? = some (.int .i64 x.1) ∧ (Lit.int .i64 x.1).wf = true ∧ cs[1]? = some (.int .i64 x.2.1) ∧ (Lit.int .i64 x.2.1).wf = true ∧ cs[2]? = some (.int .i64 x.2.2.1) ∧ (Lit.int .i64 x.2.2.1).wf = true ∧ (∃ a n, cs[3]? = some (.slice a x.2.2.2.1.length n) ∧ SlK c5 w a n x.2.2.2.1) := by
  obtain ⟨hl, h0, h1, h2, h3, _⟩ := h
  rw [cells29] at hl
  obtain ⟨h0, w0⟩ := h0
  have g0 := seg_one (cells3 ▸ h0 : (cs.drop 0).take 1 = _)
  obtain ⟨h1, w1⟩ := h1
  have g1 := seg_one (cells3 ▸ h1 : (cs.drop 1).take 1 = _)
  obtain ⟨h2, w2⟩ := h2
  have g2 := seg_one (cells3 ▸ h2 : (cs.drop 2).take 1 = _)
  obtain ⟨a3, n3, h3, s3⟩ := h3
  have g3 := seg_one (cells27 ▸ h3 : (cs.drop 3).take 1 = _)
  exact ⟨hl, g0, w0, g1, w1, g2, w2, ⟨a3, n3, g3, s3⟩⟩
theorem cells22 : Try.prog.cellsOf 22 = 1 := by kernel_rfl
def c22 : Cod Try.prog 22 (List (Int × Int × Int × (List Int) × Unit)) := codSlice Try.underlying22 cells22 c29 (by rw [cells29]; decide)
end Go.Proofs.Ytlcdldddghhdjaa
