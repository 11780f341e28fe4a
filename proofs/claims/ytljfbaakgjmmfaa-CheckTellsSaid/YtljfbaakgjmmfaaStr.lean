/- Bytes as strings, and their cells. -/
import Derived.Test.YtljfbaakgjmmfaaOwn
import Derived.Laws.BytesArg
namespace Go.Proofs.Ytljfbaakgjmmfaa
open Go.RowKit Go.ChangeShapes
set_option linter.unusedVariables false
set_option linter.unusedSimpArgs false
theorem IsInts.of_blk {w : World} {g : Nat} {x : List Int} {T : Nat} (h : Blk w g (byt x) T) (hl : x.length ≤ 9223372036854775807) (hw : ∀ n ∈ x, (Lit.int .u8 n).wf = true) : IsInts .u8 w (some ⟨g, 0, none⟩) x.length x := by
  refine ⟨Nat.le_refl _, hl, fun _ => ⟨g, 0, rfl, h.lt, fun i hi => ?_⟩, hw⟩
  rw [h.cell, Nat.zero_add, List.getElem?_map, List.getD_eq_getElem?_getD]
  rw [List.getElem?_eq_getElem hi]
  rfl
theorem IsInts.conv {w : World} {A : Option Addr} {c : Nat} {x : List Int} (h : IsInts .u8 w A c x) :
    (convert 58 9 (.slice A x.length c)).run Try.prog w = .ok (.string (strOfNums x)) w := by
  cases A with
  | none =>
    have h0 : x.length = 0 := by
      rcases Nat.eq_zero_or_pos x.length with e | e
      · exact e
      · obtain ⟨_, _, hh, _⟩ := h.at_ (by omega)
        cases hh
    obtain rfl : x = [] := List.eq_nil_of_length_eq_zero h0
    exact run_convert_bytes_nil w 58 5 Try.underlying58 Try.underlying5 _ _ _ Try.underlying9
  | some p =>
    rcases Nat.eq_zero_or_pos x.length with e | e
    · obtain rfl : x = [] := List.eq_nil_of_length_eq_zero e
      obtain ⟨pb, po, ps⟩ := p
      rw [run_convert_bytes_string w 58 9 5 _ _ _ Try.underlying58 Try.underlying5 Try.underlying9]
      exact run_bytesToString w _ 0 c [] (by simpa using run_loadCells_list (P := Try.prog) w ⟨pb, po, ps⟩ [] (by simp))
    · obtain ⟨g, off, hh, _, hc⟩ := h.at_ (by omega)
      cases hh
      exact run_convert_bytes_arg w 58 5 Try.underlying58 Try.underlying5 g off x.length c x rfl hc _ Try.underlying9
theorem conv_of {w : World} {A : Option Addr} {c l : Nat} {x : List Int} (h : IsInts .u8 w A c x) (hl : x.length = l) : (convert 58 9 (.slice A l c)).run Try.prog w = .ok (.string (strOfNums x)) w := by
  subst hl; exact h.conv
theorem frm0_of {w w' : World} (f : Below w.heap.size w w') : Frm (fun _ => False) w w' := Frm.of_below f (fun k hk hk' => absurd (Nat.lt_of_lt_of_le hk hk') (Nat.lt_irrefl _))
/-- An argument's block is an old one. (The address of nothing may be anything: there it is not said.) -/
theorem IsInts.cell {w : World} {g c : Nat} {x : List Int} (h : IsInts .u8 w (some ⟨g, 0, none⟩) c x) (i : Nat) (v : Int) (hv : x[i]? = some v) : w.cell? ⟨g, i, none⟩ = some (.int .u8 v) := by
  obtain ⟨hi, he⟩ := List.getElem?_eq_some_iff.1 hv
  obtain ⟨g', off, e, _, hc⟩ := h.at_ (by omega)
  cases e
  have := hc i hi
  rw [Nat.zero_add, List.getD_eq_getElem?_getD, hv] at this
  exact this

theorem IsInts.nil (w : World) (k : IntKind) : IsInts k w none 0 [] := ⟨Nat.le_refl _, by omega, fun h => absurd rfl h, fun _ h => by cases h⟩
end Go.Proofs.Ytljfbaakgjmmfaa
