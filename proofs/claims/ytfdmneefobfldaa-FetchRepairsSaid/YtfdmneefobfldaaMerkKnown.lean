/- 'known' of layer 10 returns true. -/
import Derived.Test.YtfdmneefobfldaaMerk2
namespace Go.Proofs.Ytfdmneefobfldaa
open Go.RowKit Go.ChangeShapes
set_option linter.unusedVariables false
set_option linter.unusedSimpArgs false
theorem unl_self (x : List Int) (h : x.length = 8) : unl x x 8 = [] := by
  unfold unl
  rw [List.filter_eq_nil_iff.2 (fun i _ => by simp [h])]
  rfl
theorem unl_nil (x : List Int) : (unl x [] 8).length = 8 := by
  unfold unl
  rw [List.length_map, List.filter_eq_self.2 (fun i _ => by simp)]
  rfl
theorem sumsL_len (vs cs : List Int) : (sumsL vs cs).length = 8 := rfl
end Go.Proofs.Ytfdmneefobfldaa
