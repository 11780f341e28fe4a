/- The table of powers of ten lies as its initialiser lays it, where the row's variables do. -/
import Derived.Test.YtipalebaaejfjaaDoorRows
import Derived.Test.YtipalebaaejfjaaDoorFmtU
import Derived.MakeChecks
namespace Go.Proofs.YtipalebaaejfjaaDoor
open Go.RowKit Go.ChangeShapes
set_option linter.unusedVariables false
set_option maxRecDepth 100000
theorem tab_of_laid {W : World} (h : laidMetH Tryd.prog [("math/bits.deBruijn32tab", Rows.laid_math_bits_deBruijn32tab), ("math/bits.deBruijn64tab", Rows.laid_math_bits_deBruijn64tab), ("internal/strconv.uint64pow10", Rows.laid_internal_strconv_uint64pow10)] W) : Tab W := by
  rw [MakeChecks.laidMetH_plain _ _ _ (by kernel_rfl)] at h
  obtain ⟨ps, ⟨g1, t1, cs1, f1, p1, q1, _, _, _, _, h1, _⟩, _⟩ := h
  obtain ⟨g2, t2, cs2, f2, p2, q2, _, _, _, _, h2, _⟩ := h1
  obtain ⟨g, t, cs, f, p, q, hg, ht, hv, hd, _, _⟩ := h2
  obtain rfl := Option.some.inj ((show Tryd.prog.globalNamed "internal/strconv.uint64pow10" = some 0 by kernel_rfl).symm.trans hg)
  obtain rfl := Option.some.inj ((show (Tryd.prog.globals[0]?).map (·.type) = some 95 by kernel_rfl).symm.trans ht)
  have hd' : DataW.trod _ Tryd.prog W _ _ _ f 95 cs.toList = some (Lib.tabData .u64 Lib.pow10Tab, p) := hd
  have hc := Lib.cells_of_tab Tryd.underlying95 Tryd.underlying30 (by kernel_rfl) (by kernel_rfl) hd'
  unfold Tab Lib.TabIs
  rw [hv, ← hc]
end Go.Proofs.YtipalebaaejfjaaDoor
