/- 'known' of layer 11 returns true. -/
import Derived.Test.YtljfbaakgjmmfaaService
import Derived.Laws.Rows
namespace Go.Proofs.Ytljfbaakgjmmfaa
open Go.RowKit Go.ChangeShapes
set_option linter.unusedVariables false
set_option linter.unusedSimpArgs false
theorem HPut_calls (w : World) (c t y v : Int) : Calls Try.prog 8 #[.int .u8 c, .int .u32 t, .int .u8 y, .int .u16 v] w fun e w' =>
    e = .returned (.agg #[.int .u8 c, .int .u32 t, .int .u8 1, .int .u8 y, .int .u16 v]) ∧ Frm (fun _ => False) w w' := by
  go_enter Try.func8, Try.ntmps8
  go_wp2
  refine bodyPost_ret (results_cell_row (P := Try.prog) rfl _ _ w.heap.size TRq #[.int .u8 c, .int .u32 t, .int .u8 1, .int .u8 y, .int .u16 v] (0, 0) _ rfl (heap_alloc_new w _) Try.underlying30 rfl (by kernel_rfl)) rfl ?_
  exact ⟨rfl, (Frm.refl _ _).alloc _⟩
end Go.Proofs.Ytljfbaakgjmmfaa
