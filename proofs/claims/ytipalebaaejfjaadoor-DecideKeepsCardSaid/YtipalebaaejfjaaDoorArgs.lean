/- Arguments of a law, opened: slices of whole numbers. -/
import Derived.Test.YtipalebaaejfjaaDoorLib
import Derived.ChangeSlices
import Derived.SizedLaws
namespace Go.Proofs.YtipalebaaejfjaaDoor
open Go.RowKit Go.ChangeShapes Go.WideShapes

/-- A slice of whole numbers, as it lies in memory. -/
structure IsInts (k : IntKind) (w : World) (a : Option Addr) (cap : Nat) (zs : List Int) : Prop where
  le : zs.length ≤ cap
  small : cap ≤ 9223372036854775807
  at_ : zs.length ≠ 0 → ∃ b off, a = some ⟨b, off, none⟩ ∧ b < w.heap.size ∧ ∀ i, i < zs.length → w.cell? ⟨b, off + i, none⟩ = some (.int k (zs.getD i 0))
  wf : ∀ n ∈ zs, (Lit.int k n).wf = true

theorem addr_add (b off n : Nat) : (⟨b, off, none⟩ : Addr).add n = ⟨b, off + n, none⟩ := by
  unfold Addr.add
  split
  · subst n; rfl
  · rfl
theorem spot_none {w : World} {a : Addr} {v : Value} (h : w.cell? a = some v) : a.spot = none := by
  unfold World.cell? at h
  split at h
  · split at h
    · cases h
    · rename_i h1; cases hs : a.spot with
      | none => rfl
      | some x => rw [hs] at h1; simp at h1
  · cases h
theorem ints_of_trod {H : Type} {enc : TypeId × Value → H} {P : Program} {W : World} {base : Nat} {spare : Nat → Bool} {held : Bool} {t e : TypeId} {k : IntKind} {a : Option Addr} {len cap : Nat} {d : DataW H} {ps : List MemPlace}
    (hu : P.underlying t = some (.slice e)) (he : P.underlying e = some (.int k)) (hc : P.cellsOf e = 1)
    (h : DataW.Trod enc P W base spare held t (.slice a len cap) d ps) : ∃ zs, zs.length = len ∧ IsInts k W a cap zs := by
  obtain ⟨fuel, hf⟩ := h
  rcases open_ints hu he hc hf with ⟨hcs, _⟩ | ⟨x, l, c, zs, hcs, _, hl, hm, hz, _, hcell, hwz⟩
  · simp [Value.cells] at hcs
    obtain ⟨rfl, rfl, rfl⟩ := hcs
    exact ⟨[], rfl, Nat.zero_le _, by omega, fun h => absurd rfl h, fun _ h => by cases h⟩
  · simp [Value.cells] at hcs
    obtain ⟨rfl, rfl, rfl⟩ := hcs
    have hll : len ≤ zs.length := by rw [hz]; split <;> omega
    have hle : (zs.take len).length = len := by rw [List.length_take]; omega
    refine ⟨zs.take len, hle, by omega, hm, fun hne => ?_, fun n hn => hwz n (List.mem_of_mem_take hn)⟩
    obtain ⟨b, off, spot⟩ := x
    have h0 := hcell 0 (by omega)
    have hb := World.block_lt_of_cell? _ _ h0
    have hs := spot_none h0
    have hs' : spot = none := by simpa [Addr.add] using hs
    subst hs'
    refine ⟨b, off, rfl, by simpa [Addr.add] using hb, fun i hi => ?_⟩
    rw [hle] at hi
    have := hcell i (by omega)
    rw [addr_add] at this
    rw [this]
    simp only [List.getD_eq_getElem?_getD, List.getElem?_take]
    rw [if_pos hi]
section
variable {k : IntKind} {w w' : World} {a : Option Addr} {cap : Nat} {zs : List Int}
theorem IsInts.below (h : IsInts k w a cap zs) {B : Nat} (f : Below B w w') (hB : w.heap.size ≤ B) : IsInts k w' a cap zs :=
  ⟨h.le, h.small, fun hn => by
    obtain ⟨b, off, e, hb, hc⟩ := h.at_ hn
    refine ⟨b, off, e, Nat.lt_of_lt_of_le hb f.size, fun i hi => ?_⟩
    rw [f.cell (p := ⟨b, off + i, none⟩) (by show b < B; omega)]
    exact hc i hi, h.wf⟩
end
end Go.Proofs.YtipalebaaejfjaaDoor
