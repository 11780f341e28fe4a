/- How the laws' arguments lie in memory. (Written by mktypes.py.) -/
import Derived.Test.YtipalebaaejfjaaDoorProg
import Derived.Test.YtipalebaaejfjaaDoorCod
namespace Go.Proofs.YtipalebaaejfjaaDoor
open Go.RowKit
set_option linter.unusedVariables false
set_option linter.unusedSimpArgs false
theorem seg_one {cs : List Value} {o : Nat} {v : Value} (h : (cs.drop o).take 1 = [v]) : cs[o]? = some v := by
  have : ((cs.drop o).take 1)[0]? = some v := by rw [h]; rfl
  rw [List.getElem?_take, if_pos (by decide), List.getElem?_drop, Nat.add_zero] at this
  exact this
theorem cells22 : Tryd.prog.cellsOf 22 = 1 := by kernel_rfl
def c22 : Cod Tryd.prog 22 Int := codInt Tryd.underlying22 cells22
theorem cells5 : Tryd.prog.cellsOf 5 = 1 := by kernel_rfl
def c5 : Cod Tryd.prog 5 Int := codInt Tryd.underlying5 cells5
theorem cells55 : Tryd.prog.cellsOf 55 = 4 := by kernel_rfl
def c55 : Cod Tryd.prog 55 (List Int) := codArray Tryd.underlying55 c5
theorem k55 {w : World} {x : (List Int)} {cs : List Value} (h : c55.K w x cs) : cs = x.map (Value.int .u8) ∧ x.length = 4 ∧ ∀ y ∈ x, (Lit.int .u8 y).wf = true := array_ints cells55 h
theorem cells35 : Tryd.prog.cellsOf 35 = 1 := by kernel_rfl
def c35 : Cod Tryd.prog 35 Int := codInt Tryd.underlying35 cells35
theorem cells37 : Tryd.prog.cellsOf 37 = 3 := by kernel_rfl
def c37 : Cod Tryd.prog 37 (Int × Int × Int × Unit) := codStruct Tryd.underlying37 (codCons _ c5 (codCons _ c5 (codCons _ c35 codNil)))
theorem k37 {w : World} {x : (Int × Int × Int × Unit)} {cs : List Value} (h : c37.K w x cs) : cs.length = 3 ∧ cs[0]? = some (.int .u8 x.1) ∧ (Lit.int .u8 x.1).wf = true ∧ cs[1]? = some (.int .u8 x.2.1) ∧ (Lit.int .u8 x.2.1).wf = true ∧ cs[2]? = some (.int .u16 x.2.2.1) ∧ (Lit.int .u16 x.2.2.1).wf = true := by
  obtain ⟨hl, h0, h1, h2, _⟩ := h
  rw [cells37] at hl
  obtain ⟨h0, w0⟩ := h0
  have g0 := seg_one (cells5 ▸ h0 : (cs.drop 0).take 1 = _)
  obtain ⟨h1, w1⟩ := h1
  have g1 := seg_one (cells5 ▸ h1 : (cs.drop 1).take 1 = _)
  obtain ⟨h2, w2⟩ := h2
  have g2 := seg_one (cells35 ▸ h2 : (cs.drop 2).take 1 = _)
  exact ⟨hl, g0, w0, g1, w1, g2, w2⟩
theorem cells39 : Tryd.prog.cellsOf 39 = 5 := by kernel_rfl
def c39 : Cod Tryd.prog 39 (Int × Int × (Int × Int × Int × Unit) × Unit) := codStruct Tryd.underlying39 (codCons _ c5 (codCons _ c22 (codCons _ c37 codNil)))
theorem k39 {w : World} {x : (Int × Int × (Int × Int × Int × Unit) × Unit)} {cs : List Value} (h : c39.K w x cs) : cs.length = 5 ∧ cs[0]? = some (.int .u8 x.1) ∧ (Lit.int .u8 x.1).wf = true ∧ cs[1]? = some (.int .u32 x.2.1) ∧ (Lit.int .u32 x.2.1).wf = true ∧ c37.K w x.2.2.1 ((cs.drop 2).take 3) := by
  obtain ⟨hl, h0, h1, h2, _⟩ := h
  rw [cells39] at hl
  obtain ⟨h0, w0⟩ := h0
  have g0 := seg_one (cells5 ▸ h0 : (cs.drop 0).take 1 = _)
  obtain ⟨h1, w1⟩ := h1
  have g1 := seg_one (cells22 ▸ h1 : (cs.drop 1).take 1 = _)
  exact ⟨hl, g0, w0, g1, w1, (cells37 ▸ h2)⟩
end Go.Proofs.YtipalebaaejfjaaDoor
