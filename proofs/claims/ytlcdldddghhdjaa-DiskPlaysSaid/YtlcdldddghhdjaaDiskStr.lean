/- Bytes as strings. -/
import Derived.Test.YtlcdldddghhdjaaDiskObj
import Derived.Laws.BytesArg
namespace Go.Proofs.Ytlcdldddghhdjaa
open Go.RowKit Go.ChangeShapes
theorem IsInts.conv {w : World} {A : Option Addr} {c : Nat} {x : List Int} (h : IsInts .u8 w A c x) :
    (convert 27 9 (.slice A x.length c)).run Try.prog w = .ok (.string (strOfNums x)) w := by
  cases A with
  | none =>
    have h0 : x.length = 0 := by
      rcases Nat.eq_zero_or_pos x.length with e | e
      · exact e
      · obtain ⟨_, _, hh, _⟩ := h.at_ (by omega)
        cases hh
    obtain rfl : x = [] := List.eq_nil_of_length_eq_zero h0
    exact run_convert_bytes_nil w 27 5 Try.underlying27 Try.underlying5 _ _ _ Try.underlying9
  | some p =>
    rcases Nat.eq_zero_or_pos x.length with e | e
    · obtain rfl : x = [] := List.eq_nil_of_length_eq_zero e
      obtain ⟨pb, po, ps⟩ := p
      rw [run_convert_bytes_string w 27 9 5 _ _ _ Try.underlying27 Try.underlying5 Try.underlying9]
      exact run_bytesToString w _ 0 c [] (by simpa using run_loadCells_list (P := Try.prog) w ⟨pb, po, ps⟩ [] (by simp))
    · obtain ⟨g, off, hh, _, hc⟩ := h.at_ (by omega)
      cases hh
      exact run_convert_bytes_arg w 27 5 Try.underlying27 Try.underlying5 g off x.length c x rfl hc _ Try.underlying9
end Go.Proofs.Ytlcdldddghhdjaa
