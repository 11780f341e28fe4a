/- Slices of bytes: make and copy. -/
import Derived.Test.YtipalebaaejfjaaDoorLib
import Derived.Test.YtipalebaaejfjaaDoorArgs
import Derived.WalkKit
import Derived.Laws.CopyOwn
import Derived.Deep.OwnRows
import Derived.OpenShut
import Derived.Test.YtipalebaaejfjaaDoorProg
namespace Go.Proofs.YtipalebaaejfjaaDoor
open Go.RowKit Go.ChangeShapes
abbrev byt (zs : List Int) : List Value := zs.map (.int .u8)
theorem splice_all {α : Type} (L cs : List α) (h : L.length = cs.length) : splice L 0 cs = cs := by
  unfold splice
  rw [List.take_zero, Nat.zero_add, ← h, List.drop_length]
  simp
theorem made_len (v : Value) (n : Nat) : (madeCells #[v] n).toList.length = n := by
  rw [Array.length_toList, size_madeCells]
theorem IsInts.cellsrc {w : World} {a : Option Addr} {c : Nat} {zs : List Int} (h : IsInts .u8 w a c zs) (hp : 0 < zs.length) :
    ∃ ad, a = some ad ∧ ∀ (j : Nat) v, (byt zs)[j]? = some v → w.cell? (ad.add j) = some v := by
  obtain ⟨b, off, rfl, _, hc⟩ := h.at_ (by omega)
  refine ⟨_, rfl, fun j v hj => ?_⟩
  rw [List.getElem?_map] at hj
  cases hz : zs[j]? with
  | none => rw [hz] at hj; cases hj
  | some x =>
    rw [hz] at hj
    simp only [Option.map_some, Option.some.injEq] at hj
    have hl : j < zs.length := by
      rcases Nat.lt_or_ge j zs.length with hl | hl
      · exact hl
      · rw [List.getElem?_eq_none hl] at hz; cases hz
    rw [addr_add, hc j hl, ← hj, List.getD_eq_getElem?_getD, hz]
    rfl
theorem u8_info : (Tryd.prog.info? 5).map (fun i => (i.zero, i.size, i.bytes)) = some (some (.int .u8 0), 1, 1) := by kernel_rfl
theorem u8_size : (Tryd.prog.info? 5).map (·.size) = some 1 := by kernel_rfl
theorem byt_one (zs : List Int) : ∀ v ∈ byt zs, v.oneCell' = true := by
  intro v hv
  obtain ⟨z, _, rfl⟩ := List.mem_map.1 hv
  rfl
end Go.Proofs.YtipalebaaejfjaaDoor
