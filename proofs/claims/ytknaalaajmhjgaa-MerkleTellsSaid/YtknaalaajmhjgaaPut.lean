/- The document's Put and Get. -/
import Derived.Test.YtknaalaajmhjgaaWireNum
import Derived.Test.YtknaalaajmhjgaaPutB
namespace Go.Proofs.Ytknaalaajmhjgaa
open Go.RowKit Go.ChangeShapes
set_option linter.unusedVariables false
set_option linter.unusedSimpArgs false
theorem IsInts.drop0 {w : World} {g off c : Nat} {x : List Int} (h : IsInts .u8 w (some ⟨g, off, none⟩) c x) (k : Nat) (hc : c = k) : IsInts .u8 w (some ⟨g, off, none⟩) (c - k) (x.drop k) := by
  have hnil : x.drop k = [] := List.drop_eq_nil_of_le (by have := h.le; omega)
  rw [hnil]
  exact ⟨Nat.zero_le _, by have := h.small; omega, fun h => absurd rfl h, fun _ h => by cases h⟩
theorem fresh0 {w w' : World} {o : Obj} (f : Frm (· = w.heap.size) (w.alloc o) w') : Frm (fun _ => False) w w' :=
  ((Frm.refl (fun _ => False) w).alloc o).trans' f (fun i hi e => absurd e (Nat.ne_of_lt hi))
theorem Left_n {w : World} {b : Nat} {x : List Int} (h : IsRd w b x) (n : Int) (hn : (x.length : Int) = n) : Calls Try.prog 45 #[.pointer (some ⟨b, 0, none⟩)] w fun e w' => e = .returned (.int .i64 n) ∧ w = w' := by
  subst hn; exact Left_calls h
end Go.Proofs.Ytknaalaajmhjgaa
