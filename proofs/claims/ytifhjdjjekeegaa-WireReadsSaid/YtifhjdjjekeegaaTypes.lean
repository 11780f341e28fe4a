/- How the laws' arguments lie in memory. (Written by mktypes.py.) -/
import Derived.Test.YtifhjdjjekeegaaProg
import Derived.Test.YtifhjdjjekeegaaCod
namespace Go.Proofs.Ytifhjdjjekeegaa
open Go.RowKit
set_option linter.unusedVariables false
set_option linter.unusedSimpArgs false
theorem seg_one {cs : List Value} {o : Nat} {v : Value} (h : (cs.drop o).take 1 = [v]) : cs[o]? = some v := by
  have : ((cs.drop o).take 1)[0]? = some v := by rw [h]; rfl
  rw [List.getElem?_take, if_pos (by decide), List.getElem?_drop, Nat.add_zero] at this
  exact this
theorem cells3 : Try.prog.cellsOf 3 = 1 := by kernel_rfl
def c3 : Cod Try.prog 3 Int := codInt Try.underlying3 cells3
theorem cells24 : Try.prog.cellsOf 24 = 1 := by kernel_rfl
def c24 : Cod Try.prog 24 Int := codInt Try.underlying24 cells24
theorem cells5 : Try.prog.cellsOf 5 = 1 := by kernel_rfl
def c5 : Cod Try.prog 5 Int := codInt Try.underlying5 cells5
theorem cells25 : Try.prog.cellsOf 25 = 1 := by kernel_rfl
def c25 : Cod Try.prog 25 (List Int) := codSlice Try.underlying25 cells25 c5 (by rw [cells5]; decide)
theorem cells46 : Try.prog.cellsOf 46 = 4 := by kernel_rfl
def c46 : Cod Try.prog 46 (Int × Int × (List Int) × Int × Unit) := codStruct Try.underlying46 (codCons _ c3 (codCons _ c24 (codCons _ c25 (codCons _ c3 codNil))))
theorem k46 {w : World} {x : (Int × Int × (List Int) × Int × Unit)} {cs : List Value} (h : c46.K w x cs) : cs.length = 4 ∧ cs[0]? = some (.int .i64 x.1) ∧ (Lit.int .i64 x.1).wf = true ∧ cs[1]? = some (.int .u64 x.2.1) ∧ (Lit.int .u64 x.2.1).wf = true ∧ (∃ a n, cs[2]? = some (.slice a x.2.2.1.length n) ∧ SlK c5 w a n x.2.2.1) ∧ cs[3]? = some (.int .i64 x.2.2.2.1) ∧ (Lit.int .i64 x.2.2.2.1).wf = true := by
  obtain ⟨hl, h0, h1, h2, h3, _⟩ := h
  rw [cells46] at hl
  obtain ⟨h0, w0⟩ := h0
  have g0 := seg_one (cells3 ▸ h0 : (cs.drop 0).take 1 = _)
  obtain ⟨h1, w1⟩ := h1
  have g1 := seg_one (cells24 ▸ h1 : (cs.drop 1).take 1 = _)
  obtain ⟨a2, n2, h2, s2⟩ := h2
  have g2 := seg_one (cells25 ▸ h2 : (cs.drop 2).take 1 = _)
  obtain ⟨h3, w3⟩ := h3
  have g3 := seg_one (cells3 ▸ h3 : (cs.drop 3).take 1 = _)
  exact ⟨hl, g0, w0, g1, w1, ⟨a2, n2, g2, s2⟩, g3, w3⟩
theorem cells44 : Try.prog.cellsOf 44 = 1 := by kernel_rfl
def c44 : Cod Try.prog 44 (List (Int × Int × (List Int) × Int × Unit)) := codSlice Try.underlying44 cells44 c46 (by rw [cells46]; decide)
end Go.Proofs.Ytifhjdjjekeegaa
