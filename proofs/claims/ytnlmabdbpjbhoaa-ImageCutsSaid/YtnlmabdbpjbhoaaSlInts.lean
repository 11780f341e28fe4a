/- Slices of bytes among the arguments. -/
import Derived.Test.YtnlmabdbpjbhoaaTypes
namespace Go.Proofs.Ytnlmabdbpjbhoaa
open Go.RowKit Go.ChangeShapes
theorem SlK.ints {w : World} {a : Option Addr} {n : Nat} {x : List Int} (h : SlK c5 w a n x) : IsInts .u8 w a n x := by
  refine ⟨h.le, h.small, fun hn => ?_, fun y hy => ?_⟩
  · obtain ⟨b, off, rfl, hb, hc⟩ := h.at_ hn
    refine ⟨b, off, rfl, hb, fun i hi => ?_⟩
    obtain ⟨cs, ⟨rfl, _⟩, hcell⟩ := hc i x[i] (List.getElem?_eq_getElem hi)
    have := hcell 0 _ rfl
    rw [cells5, Nat.mul_one, Nat.add_zero] at this
    rw [this, List.getD_eq_getElem?_getD, List.getElem?_eq_getElem hi]
    rfl
  · obtain ⟨i, hi, rfl⟩ := List.mem_iff_getElem.1 hy
    obtain ⟨b, off, rfl, hb, hc⟩ := h.at_ (by omega)
    obtain ⟨cs, ⟨_, hw⟩, _⟩ := hc i x[i] (List.getElem?_eq_getElem hi)
    exact hw
/-- A slice of slices of bytes: where its elements' headers lie, and what they head. -/
theorem SlK.bytes {w : World} {a : Option Addr} {n : Nat} {x : List (List Int)} (h : SlK c23 w a n x) (h0 : x.length ≠ 0) :
    ∃ b off, a = some ⟨b, off, none⟩ ∧ b < w.heap.size ∧ ∀ (i : Nat) (y : List Int), x[i]? = some y → ∃ sa sc, w.cell? ⟨b, off + i, none⟩ = some (.slice sa y.length sc) ∧ IsInts .u8 w sa sc y := by
  obtain ⟨b, off, rfl, hb, hc⟩ := h.at_ h0
  refine ⟨b, off, rfl, hb, fun i y hi => ?_⟩
  obtain ⟨cs, ⟨sa, sc, rfl, hs⟩, hcell⟩ := hc i y hi
  have := hcell 0 _ rfl
  rw [cells23, Nat.mul_one, Nat.add_zero] at this
  exact ⟨sa, sc, this, hs.ints⟩
end Go.Proofs.Ytnlmabdbpjbhoaa
