/- How the laws' arguments lie in memory. (Written by mktypes.py.) -/
import Derived.Test.YtipalebaaejfjaaDoorProg
import Derived.Test.YtipalebaaejfjaaDoorCod
namespace Go.Proofs.YtipalebaaejfjaaDoor
open Go.RowKit
set_option linter.unusedVariables false
set_option linter.unusedSimpArgs false
theorem seg_one {cs : List Value} {o : Nat} {v : Value} (h : (cs.drop o).take 1 = [v]) : cs[o]? = some v := by
  have : ((cs.drop o).take 1)[0]? = some v := by rw [h]; rfl
  rw [List.getElem?_take, if_pos (by decide), List.getElem?_drop, Nat.add_zero] at this
  exact this
theorem cells22 : Tryd.prog.cellsOf 22 = 1 := by kernel_rfl
def c22 : Cod Tryd.prog 22 Int := codInt Tryd.underlying22 cells22
theorem cells5 : Tryd.prog.cellsOf 5 = 1 := by kernel_rfl
def c5 : Cod Tryd.prog 5 Int := codInt Tryd.underlying5 cells5
theorem cells55 : Tryd.prog.cellsOf 55 = 4 := by kernel_rfl
def c55 : Cod Tryd.prog 55 (List Int) := codArray Tryd.underlying55 c5
theorem k55 {w : World} {x : (List Int)} {cs : List Value} (h : c55.K w x cs) : cs = x.map (Value.int .u8) ∧ x.length = 4 ∧ ∀ y ∈ x, (Lit.int .u8 y).wf = true := array_ints cells55 h
theorem cells35 : Tryd.prog.cellsOf 35 = 1 := by kernel_rfl
def c35 : Cod Tryd.prog 35 Int := codInt Tryd.underlying35 cells35
theorem cells37 : Tryd.prog.cellsOf 37 = 3 := by kernel_rfl
def c37 : Cod Tryd.prog 37 (Int × Int × Int × Unit) := codStruct Tryd.underlying37 (codCons _ c5 (codCons _ c5 (codCons _ c35 codNil)))
theorem k37 {w : World} {x : (Int × Int × Int × Unit)} {cs : List Value} (h : c37.K w x cs) : cs.length = 3 ∧ cs[0]? = some (.int .u8 x.1) ∧ (Lit.int .u8 x.1).wf = true ∧ cs[1]? = some (.int .u8 x.2.1) ∧ (Lit.int .u8 x.2.1).wf = true ∧ cs[2]? = some (.int .u16 x.2.2.1) ∧ (Lit.int .u16 x.2.2.1).wf = true := by
  obtain ⟨hl, h0, h1, h2, _⟩ := h
  rw [cells37] at hl
  obtain ⟨h0, w0⟩ := h0
  have g0 := seg_one (cells5 ▸ h0 : (cs.drop 0).take 1 = _)
  obtain ⟨h1, w1⟩ := h1
  have g1 := seg_one (cells5 ▸ h1 : (cs.drop 1).take 1 = _)
  obtain ⟨h2, w2⟩ := h2
  have g2 := seg_one (cells35 ▸ h2 : (cs.drop 2).take 1 = _)
  exact ⟨hl, g0, w0, g1, w1, g2, w2⟩
theorem cells39 : Tryd.prog.cellsOf 39 = 5 := by kernel_rfl
def c39 : Cod Tryd.prog 39 (Int × Int × (Int × Int × Int × Unit) × Unit) := codStruct Tryd.underlying39 (codCons _ c5 (codCons _ c22 (codCons _ c37 codNil)))
theorem k39 {w : World} {x : (Int × Int × (Int × Int × Int × Unit) × Unit)} {cs : List Value} (h : c39.K w x cs) : cs.length = 5 ∧ cs[0]? = some (.int .u8 x.1) ∧ (Lit.int .u8 x.1).wf = true ∧ cs[1]? = some (.int .u32 x.2.1) ∧ (Lit.int .u32 x.2.1).wf = true ∧ c37.K w x.2.2.1 ((cs.drop 2).take 3) := by
  obtain ⟨hl, h0, h1, h2, _⟩ := h
  rw [cells39] at hl
  obtain ⟨h0, w0⟩ := h0
  have g0 := seg_one (cells5 ▸ h0 : (cs.drop 0).take 1 = _)
  obtain ⟨h1, w1⟩ := h1
  have g1 := seg_one (cells22 ▸ h1 : (cs.drop 1).take 1 = _)
  exact ⟨hl, g0, w0, g1, w1, (cells37 ▸ h2)⟩
theorem cells30 : Tryd.prog.cellsOf 30 = 1 := by kernel_rfl
def c30 : Cod Tryd.prog 30 Int := codInt Tryd.underlying30 cells30
theorem cells32 : Tryd.prog.cellsOf 32 = 2 := by kernel_rfl
def c32 : Cod Tryd.prog 32 (Int × Int × Unit) := codStruct Tryd.underlying32 (codCons _ c22 (codCons _ c30 codNil))
theorem k32 {w : World} {x : (Int × Int × Unit)} {cs : List Value} (h : c32.K w x cs) : cs.length = 2 ∧ cs[0]? = some (.int .u32 x.1) ∧ (Lit.int .u32 x.1).wf = true ∧ cs[1]? = some (.int .u64 x.2.1) ∧ (Lit.int .u64 x.2.1).wf = true := by
  obtain ⟨hl, h0, h1, _⟩ := h
  rw [cells32] at hl
  obtain ⟨h0, w0⟩ := h0
  have g0 := seg_one (cells22 ▸ h0 : (cs.drop 0).take 1 = _)
  obtain ⟨h1, w1⟩ := h1
  have g1 := seg_one (cells30 ▸ h1 : (cs.drop 1).take 1 = _)
  exact ⟨hl, g0, w0, g1, w1⟩
theorem cells26 : Tryd.prog.cellsOf 26 = 1 := by kernel_rfl
def c26 : Cod Tryd.prog 26 (List (Int × Int × Unit)) := codSlice Tryd.underlying26 cells26 c32 (by rw [cells32]; decide)
theorem cells53 : Tryd.prog.cellsOf 53 = 7 := by kernel_rfl
def c53 : Cod Tryd.prog 53 (Int × Int × (Int × Int × (Int × Int × Int × Unit) × Unit) × Unit) := codStruct Tryd.underlying53 (codCons _ c22 (codCons _ c22 (codCons _ c39 codNil)))
theorem k53 {w : World} {x : (Int × Int × (Int × Int × (Int × Int × Int × Unit) × Unit) × Unit)} {cs : List Value} (h : c53.K w x cs) : cs.length = 7 ∧ cs[0]? = some (.int .u32 x.1) ∧ (Lit.int .u32 x.1).wf = true ∧ cs[1]? = some (.int .u32 x.2.1) ∧ (Lit.int .u32 x.2.1).wf = true ∧ c39.K w x.2.2.1 ((cs.drop 2).take 5) := by
  obtain ⟨hl, h0, h1, h2, _⟩ := h
  rw [cells53] at hl
  obtain ⟨h0, w0⟩ := h0
  have g0 := seg_one (cells22 ▸ h0 : (cs.drop 0).take 1 = _)
  obtain ⟨h1, w1⟩ := h1
  have g1 := seg_one (cells22 ▸ h1 : (cs.drop 1).take 1 = _)
  exact ⟨hl, g0, w0, g1, w1, (cells39 ▸ h2)⟩
theorem cells27 : Tryd.prog.cellsOf 27 = 1 := by kernel_rfl
def c27 : Cod Tryd.prog 27 (List (Int × Int × (Int × Int × (Int × Int × Int × Unit) × Unit) × Unit)) := codSlice Tryd.underlying27 cells27 c53 (by rw [cells53]; decide)
theorem cells29 : Tryd.prog.cellsOf 29 = 7 := by kernel_rfl
def c29 : Cod Tryd.prog 29 (Int × Int × Int × Int × (List (Int × Int × Unit)) × (List (Int × Int × (Int × Int × (Int × Int × Int × Unit) × Unit) × Unit)) × (List (Int × Int × (Int × Int × (Int × Int × Int × Unit) × Unit) × Unit)) × Unit) := codStruct Tryd.underlying29 (codCons _ c5 (codCons _ c5 (codCons _ c22 (codCons _ c22 (codCons _ c26 (codCons _ c27 (codCons _ c27 codNil)))))))
theorem k29 {w : World} {x : (Int × Int × Int × Int × (List (Int × Int × Unit)) × (List (Int × Int × (Int × Int × (Int × Int × Int × Unit) × Unit) × Unit)) × (List (Int × Int × (Int × Int × (Int × Int × Int × Unit) × Unit) × Unit)) × Unit)} {cs : List Value} (h : c29.K w x cs) : cs.length = 7 ∧ cs[0]? = some (.int .u8 x.1) ∧ (Lit.int .u8 x.1).wf = true ∧ cs[1]? = some (.int .u8 x.2.1) ∧ (Lit.int .u8 x.2.1).wf = true ∧ cs[2]? = some (.int .u32 x.2.2.1) ∧ (Lit.int .u32 x.2.2.1).wf = true ∧ cs[3]? = some (.int .u32 x.2.2.2.1) ∧ (Lit.int .u32 x.2.2.2.1).wf = true ∧ (∃ a n, cs[4]? = some (.slice a x.2.2.2.2.1.length n) ∧ SlK c32 w a n x.2.2.2.2.1) ∧ (∃ a n, cs[5]? = some (.slice a x.2.2.2.2.2.1.length n) ∧ SlK c53 w a n x.2.2.2.2.2.1) ∧ (∃ a n, cs[6]? = some (.slice a x.2.2.2.2.2.2.1.length n) ∧ SlK c53 w a n x.2.2.2.2.2.2.1) := by
  obtain ⟨hl, h0, h1, h2, h3, h4, h5, h6, _⟩ := h
  rw [cells29] at hl
  obtain ⟨h0, w0⟩ := h0
  have g0 := seg_one (cells5 ▸ h0 : (cs.drop 0).take 1 = _)
  obtain ⟨h1, w1⟩ := h1
  have g1 := seg_one (cells5 ▸ h1 : (cs.drop 1).take 1 = _)
  obtain ⟨h2, w2⟩ := h2
  have g2 := seg_one (cells22 ▸ h2 : (cs.drop 2).take 1 = _)
  obtain ⟨h3, w3⟩ := h3
  have g3 := seg_one (cells22 ▸ h3 : (cs.drop 3).take 1 = _)
  obtain ⟨a4, n4, h4, s4⟩ := h4
  have g4 := seg_one (cells26 ▸ h4 : (cs.drop 4).take 1 = _)
  obtain ⟨a5, n5, h5, s5⟩ := h5
  have g5 := seg_one (cells27 ▸ h5 : (cs.drop 5).take 1 = _)
  obtain ⟨a6, n6, h6, s6⟩ := h6
  have g6 := seg_one (cells27 ▸ h6 : (cs.drop 6).take 1 = _)
  exact ⟨hl, g0, w0, g1, w1, g2, w2, g3, w3, ⟨a4, n4, g4, s4⟩, ⟨a5, n5, g5, s5⟩, ⟨a6, n6, g6, s6⟩⟩
theorem cells23 : Tryd.prog.cellsOf 23 = 1 := by kernel_rfl
def c23 : Cod Tryd.prog 23 (List (Int × Int × Int × Int × (List (Int × Int × Unit)) × (List (Int × Int × (Int × Int × (Int × Int × Int × Unit) × Unit) × Unit)) × (List (Int × Int × (Int × Int × (Int × Int × Int × Unit) × Unit) × Unit)) × Unit)) := codSlice Tryd.underlying23 cells23 c29 (by rw [cells29]; decide)
theorem cells4 : Tryd.prog.cellsOf 4 = 1 := by kernel_rfl
def c4 : Cod Tryd.prog 4 Bool := codBool Tryd.underlying4 cells4
end Go.Proofs.YtipalebaaejfjaaDoor
