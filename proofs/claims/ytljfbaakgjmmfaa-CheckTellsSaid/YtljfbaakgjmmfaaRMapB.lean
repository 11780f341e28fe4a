/- The document's map: its block, Put, SetClient. -/
import Derived.Test.YtljfbaakgjmmfaaPage
namespace Go.Proofs.Ytljfbaakgjmmfaa
open Go.RowKit Go.ChangeShapes
set_option linter.unusedVariables false
set_option linter.unusedSimpArgs false
set_option maxRecDepth 20000
abbrev TRM : Nat := 84
def tsL (cs : List Int) : List Int := (List.range 5).map fun i => cs.getD (i * 2) 0
def rsL (cs : List Int) : List Int := (List.range 5).map fun i => cs.getD (i * 2 + 1) 0
def rcells (vs cs : List Int) : List Value := vs.map (Value.int .u16) ++ ((tsL cs).map (Value.int .u32) ++ (rsL cs).map (Value.int .u32))
/-- The document's map at b: values by keys; times, results. -/
structure IsRM (w : World) (b : Nat) (vs cs : List Int) : Prop where
  blk : Blk w b (rcells vs cs) TRM
  lv : vs.length = 64
  lc : cs.length = 10
  bv : ∀ x ∈ vs, 0 ≤ x ∧ x ≤ 65535
  bc : ∀ x ∈ cs, 0 ≤ x ∧ x ≤ 4294967295
theorem IsRM.frm {S : Nat → Prop} {w w' : World} {b : Nat} {vs cs : List Int} (h : IsRM w b vs cs) (f : Frm S w w') (hb : ¬ S b) : IsRM w' b vs cs := ⟨h.blk.frm f hb, h.lv, h.lc, h.bv, h.bc⟩
theorem IsRM.drew {w : World} {b : Nat} {vs cs : List Int} (h : IsRM w b vs cs) : IsRM w.drew b vs cs := ⟨h.blk, h.lv, h.lc, h.bv, h.bc⟩
theorem IsRM.val {w : World} {b : Nat} {vs cs : List Int} (h : IsRM w b vs cs) (k : Nat) (hk : k < 64) : w.cell? ⟨b, k, none⟩ = some (.int .u16 (vs.getD k 0)) := by
  have hl := h.lv
  rw [h.blk.cell, rcells, List.getElem?_append_left (by rw [List.length_map]; omega), List.getElem?_map, List.getD_eq_getElem?_getD, List.getElem?_eq_getElem (by omega)]
  rfl
theorem tsL_len (cs : List Int) : (tsL cs).length = 5 := by simp [tsL]
theorem rsL_len (cs : List Int) : (rsL cs).length = 5 := by simp [rsL]
theorem IsRM.tm {w : World} {b : Nat} {vs cs : List Int} (h : IsRM w b vs cs) (k : Nat) (hk : k < 5) : w.cell? ⟨b, 64 + k, none⟩ = some (.int .u32 (cs.getD (k * 2) 0)) := by
  have hl := h.lv
  rw [h.blk.cell, rcells, List.getElem?_append_right (by rw [List.length_map]; omega), List.length_map, show 64 + k - vs.length = k by omega, List.getElem?_append_left (by rw [List.length_map, tsL_len]; exact hk)]
  simp [tsL, hk]
theorem IsRM.rs {w : World} {b : Nat} {vs cs : List Int} (h : IsRM w b vs cs) (k : Nat) (hk : k < 5) : w.cell? ⟨b, 69 + k, none⟩ = some (.int .u32 (cs.getD (k * 2 + 1) 0)) := by
  have hl := h.lv
  rw [h.blk.cell, rcells, List.getElem?_append_right (by rw [List.length_map]; omega), List.length_map, show 69 + k - vs.length = 5 + k by omega, List.getElem?_append_right (by rw [List.length_map, tsL_len]; omega), List.length_map, tsL_len, show 5 + k - 5 = k by omega]
  simp [rsL, hk]
theorem IsRM.setVal {w : World} {b : Nat} {vs cs : List Int} (h : IsRM w b vs cs) (k : Nat) (hk : k < 64) (v : Int) (hv : 0 ≤ v ∧ v ≤ 65535) : IsRM (w.setCell ⟨b, k, none⟩ (.int .u16 v)) b (vs.set k v) cs := by
  have hl := h.lv
  have hb := h.blk.setCell k (.int .u16 v)
  rw [rcells, List.set_append_left _ _ (by rw [List.length_map]; omega), ← List.map_set] at hb
  exact ⟨hb, by rw [List.length_set]; exact hl, h.lc, set_bd h.bv k hv, h.bc⟩
theorem ten' {cs : List Int} (h : cs.length = 10) : ∃ t0 r0 t1 r1 t2 r2 t3 r3 t4 r4, cs = [t0, r0, t1, r1, t2, r2, t3, r3, t4, r4] := by
  rcases cs with _ | ⟨t0, _ | ⟨r0, _ | ⟨t1, _ | ⟨r1, _ | ⟨t2, _ | ⟨r2, _ | ⟨t3, _ | ⟨r3, _ | ⟨t4, _ | ⟨r4, _ | ⟨x, l⟩⟩⟩⟩⟩⟩⟩⟩⟩⟩⟩
  all_goals first | exact ⟨_, _, _, _, _, _, _, _, _, _, rfl⟩ | (exfalso; simp at h; done) | (exfalso; simp only [List.length_cons, List.length_nil] at h; omega)
theorem tsL_set {cs : List Int} (h : cs.length = 10) (k : Nat) (hk : k < 5) (t r : Int) : tsL ((cs.set (k * 2) t).set (k * 2 + 1) r) = (tsL cs).set k t := by
  obtain ⟨t0, r0, t1, r1, t2, r2, t3, r3, t4, r4, rfl⟩ := ten' h
  rcases (show k = 0 ∨ k = 1 ∨ k = 2 ∨ k = 3 ∨ k = 4 by omega) with rfl | rfl | rfl | rfl | rfl <;> rfl
theorem rsL_set {cs : List Int} (h : cs.length = 10) (k : Nat) (hk : k < 5) (t r : Int) : rsL ((cs.set (k * 2) t).set (k * 2 + 1) r) = (rsL cs).set k r := by
  obtain ⟨t0, r0, t1, r1, t2, r2, t3, r3, t4, r4, rfl⟩ := ten' h
  rcases (show k = 0 ∨ k = 1 ∨ k = 2 ∨ k = 3 ∨ k = 4 by omega) with rfl | rfl | rfl | rfl | rfl <;> rfl
theorem set_self (l : List Int) (m : Nat) (hm : m < l.length) : l.set m (l.getD m 0) = l := by
  rw [List.getD_eq_getElem?_getD, List.getElem?_eq_getElem hm]
  simp
theorem set3 {A B C : List Value} (ha : A.length = 64) (hb : B.length = 5) (k : Nat) (hk : k < 5) (x y : Value) : ((A ++ (B ++ C)).set (64 + k) x).set (69 + k) y = A ++ (B.set k x ++ C.set k y) := by
  have e1 : (A ++ (B ++ C)).set (64 + k) x = A ++ (B.set k x ++ C) := by rw [List.set_append_right _ _ (by omega), ha, show 64 + k - 64 = k by omega, List.set_append_left _ _ (by omega)]
  rw [e1, List.set_append_right _ _ (by omega), ha, show 69 + k - 64 = 5 + k by omega, List.set_append_right _ _ (by rw [List.length_set]; omega), List.length_set, hb, show 5 + k - 5 = k by omega]
theorem rcells_set {vs cs : List Int} (hl : vs.length = 64) (hc : cs.length = 10) (k : Nat) (hk : k < 5) (t r : Int) : ((rcells vs cs).set (64 + k) (.int .u32 t)).set (69 + k) (.int .u32 r) = rcells vs ((cs.set (k * 2) t).set (k * 2 + 1) r) := by
  rw [rcells, rcells, tsL_set hc k hk, rsL_set hc k hk, set3 (by rw [List.length_map]; exact hl) (by rw [List.length_map]; exact tsL_len cs) k hk, List.map_set, List.map_set]
theorem IsRM.setCli {w : World} {b : Nat} {vs cs : List Int} (h : IsRM w b vs cs) (k : Nat) (hk : k < 5) (t r : Int) (ht : 0 ≤ t ∧ t ≤ 4294967295) (hr : 0 ≤ r ∧ r ≤ 4294967295) : IsRM ((w.setCell ⟨b, 64 + k, none⟩ (.int .u32 t)).setCell ⟨b, 69 + k, none⟩ (.int .u32 r)) b vs ((cs.set (k * 2) t).set (k * 2 + 1) r) := by
  have hb := (h.blk.setCell (64 + k) (.int .u32 t)).setCell (69 + k) (.int .u32 r)
  rw [rcells_set h.lv h.lc k hk] at hb
  exact ⟨hb, h.lv, by rw [List.length_set, List.length_set]; exact h.lc, h.bv, set_bd (set_bd h.bc _ ht) _ hr⟩
theorem IsRM.setCli' {w : World} {b : Nat} {vs cs : List Int} (h : IsRM w b vs cs) (k : Nat) (hk : k < 5) (t r : Int) (ht : 0 ≤ t ∧ t ≤ 4294967295) (hr : 0 ≤ r ∧ r ≤ 4294967295) : IsRM ((w.setCell ⟨b, 69 + k, none⟩ (.int .u32 r)).setCell ⟨b, 64 + k, none⟩ (.int .u32 t)) b vs ((cs.set (k * 2) t).set (k * 2 + 1) r) := by
  have hb := (h.blk.setCell (69 + k) (.int .u32 r)).setCell (64 + k) (.int .u32 t)
  rw [List.set_comm _ _ (by omega), rcells_set h.lv h.lc k hk] at hb
  exact ⟨hb, h.lv, by rw [List.length_set, List.length_set]; exact h.lc, h.bv, set_bd (set_bd h.bc _ ht) _ hr⟩
end Go.Proofs.Ytljfbaakgjmmfaa
