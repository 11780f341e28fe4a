/- The map's plain laws: what is read behind what was put. -/
import Derived.Test.YtljfbaakgjmmfaaSvcKnown
namespace Go.Proofs.Ytljfbaakgjmmfaa
open Go.RowKit Go.ChangeShapes
set_option linter.unusedVariables false
set_option linter.unusedSimpArgs false
theorem getD_set_eq {l : List Int} {i : Nat} (hi : i < l.length) (v : Int) : (l.set i v).getD i 0 = v := by
  rw [List.getD_eq_getElem?_getD, List.getElem?_set, if_pos rfl, if_pos hi]; rfl
theorem getD_set_ne {l : List Int} {i j : Nat} (h : i ≠ j) (v : Int) : (l.set i v).getD j 0 = l.getD j 0 := by
  rw [List.getD_eq_getElem?_getD, List.getElem?_set, if_neg h, ← List.getD_eq_getElem?_getD]
theorem getV_put_eq {vs : List Int} (hl : vs.length = 64) {k : Int} (h0 : 0 ≤ k) (hk : k < 64) (v : Int) : getV (putV vs k v) k = v := by
  rw [getV, if_pos hk, putV, if_pos hk, getD_set_eq (by omega)]
theorem getV_put_ne {vs : List Int} {k j : Int} (h0 : 0 ≤ k) (hj : 0 ≤ j) (hne : k ≠ j) (v : Int) : getV (putV vs k v) j = getV vs j := by
  unfold getV
  split
  · unfold putV
    split
    · rw [getD_set_ne (by omega)]
    · rfl
  · rfl
theorem getT_set_eq {cs : List Int} (hl : cs.length = 10) {i : Int} (h1 : 1 ≤ i) (h4 : i ≤ 4) (t r : Int) : getT (setC cs i t r) i = t := by
  rw [getT, if_pos ⟨h1, h4⟩, setC, if_pos ⟨h1, h4⟩, getD_set_ne (by omega), getD_set_eq (by omega)]
theorem getR_set_eq {cs : List Int} (hl : cs.length = 10) {i : Int} (h1 : 1 ≤ i) (h4 : i ≤ 4) {t : Int} (ht : t ≠ 0) (r : Int) : getR (setC cs i t r) i = r := by
  rw [getR, if_pos ⟨h1, h4⟩, setC, if_pos ⟨h1, h4⟩, getD_set_eq (by rw [List.length_set]; omega), if_neg ht]
theorem getT_set_ne {cs : List Int} {i j : Int} (h0 : 0 ≤ i) (hj : 0 ≤ j) (hne : i ≠ j) (t r : Int) : getT (setC cs i t r) j = getT cs j := by
  unfold getT
  split
  · unfold setC
    split
    · rw [getD_set_ne (by omega), getD_set_ne (by omega)]
    · rfl
  · rfl
theorem getR_set_ne {cs : List Int} {i j : Int} (h0 : 0 ≤ i) (hj : 0 ≤ j) (hne : i ≠ j) (t r : Int) : getR (setC cs i t r) j = getR cs j := by
  unfold getR
  split
  · unfold setC
    split
    · rw [getD_set_ne (by omega), getD_set_ne (by omega)]
    · rfl
  · rfl
theorem getV_zero (n : Nat) (k : Int) : getV (List.replicate n 0) k = 0 := by
  unfold getV; split
  · rw [List.getD_eq_getElem?_getD, List.getElem?_replicate]; split <;> rfl
  · rfl
theorem getT_zero (n : Nat) (i : Int) : getT (List.replicate n 0) i = 0 := by
  unfold getT; split
  · rw [List.getD_eq_getElem?_getD, List.getElem?_replicate]; split <;> rfl
  · rfl
theorem getR_zero (n : Nat) (i : Int) : getR (List.replicate n 0) i = 0 := by
  unfold getR; split
  · rw [List.getD_eq_getElem?_getD, List.getElem?_replicate]; split <;> rfl
  · rfl
theorem isNew_of {cs : List Int} {c t k y v : Int} (hr : isReal c t k y v = true) (ht : getT cs c < t) : isNew cs c t k y v = true := by
  rw [isNew, hr, decide_eq_true ht]; rfl
theorem isNew_not {cs : List Int} {c t k y v : Int} (ht : t ≤ getT cs c) : isNew cs c t k y v = false := by
  rw [isNew, decide_eq_false (Int.not_lt.2 ht), Bool.and_false]
theorem doesR_put (was v : Int) : doesR 1 was v = was := by rw [doesR, if_neg (by decide)]
theorem doesV_put (was v : Int) : doesV 1 was v = v := by rw [doesV, if_pos rfl]
theorem doesR_get (was v : Int) : doesR 2 was v = was := by rw [doesR, if_neg (by decide)]
theorem doesV_get (was v : Int) : doesV 2 was v = was := by rw [doesV, if_neg (by decide), if_neg (by decide)]
theorem doesR_add (was v : Int) : doesR 3 was v = (was + v) % 65536 := by rw [doesR, if_pos rfl]
theorem doesV_add (was v : Int) : doesV 3 was v = (was + v) % 65536 := by rw [doesV, if_neg (by decide), if_pos rfl]
end Go.Proofs.Ytljfbaakgjmmfaa
