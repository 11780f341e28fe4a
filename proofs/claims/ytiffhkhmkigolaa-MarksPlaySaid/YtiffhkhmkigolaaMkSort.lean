/- Rows of marks, sorted: the greatest place first. -/
import Derived.Test.YtiffhkhmkigolaaOwnM
import Derived.Test.YtiffhkhmkigolaaHeld
import Derived.Laws.Rows
namespace Go.Proofs.Ytiffhkhmkigolaa
open Go.RowKit Go.ChangeShapes
set_option linter.unusedVariables false
set_option linter.unusedSimpArgs false
set_option maxRecDepth 100000
theorem mbox (w : World) (o : Obj) : Frm (fun _ => False) w (w.alloc o) := (Frm.refl _ _).alloc o
abbrev mkV (m : Mk) : Value := .agg #[.int .u32 m.1, .int .u64 m.2]
def cmpI (x y : Int) : Int := if x < y then -1 else if y < x then 1 else 0
theorem Cmp_calls (w : World) (x y z : Int) (hz : cmpI x y = z) : Calls Try.prog 30 #[.int .u32 x, .int .u32 y] w fun e w' => e = .returned (.int .i64 z) ∧ w = w' := by
  have nan : ∀ (w : World) (x : Int), Calls Try.prog 33 #[.int .u32 x] w fun e w' => e = .returned (.bool false) ∧ w = w' := by
    intro w x
    go_enter Try.func33, Try.ntmps33
    go_wp2
    go_ret
    exact ⟨rfl, by first | rfl | trivial⟩
  have HN := hid nan; clear nan
  unfold cmpI at hz
  by_cases h1 : x < y
  · rw [if_pos h1] at hz
    subst hz
    go_enter Try.func30, Try.ntmps30
    go_wp2_with (go_at_call 33; (with_reducible refine (HN.out _ _).mono ?_); rintro e w' ⟨rfl, rfl⟩; skip)
    go_ret
    exact ⟨rfl, by first | rfl | trivial⟩
  · rw [if_neg h1] at hz
    by_cases h2 : y < x
    · rw [if_pos h2] at hz
      subst hz
      go_enter Try.func30, Try.ntmps30
      go_wp2_with (go_at_call 33; (with_reducible refine (HN.out _ _).mono ?_); rintro e w' ⟨rfl, rfl⟩; skip)
      go_ret
      exact ⟨rfl, by first | rfl | trivial⟩
    · rw [if_neg h2] at hz
      subst hz
      go_enter Try.func30, Try.ntmps30
      go_wp2_with (go_at_call 33; (with_reducible refine (HN.out _ _).mono ?_); rintro e w' ⟨rfl, rfl⟩; skip)
      go_ret
      exact ⟨rfl, by first | rfl | trivial⟩
theorem Clo_calls (w : World) (a b : Mk) (z : Int) (hz : cmpI b.1 a.1 = z) : Calls Try.prog 29 #[.agg #[.int .u32 a.1, .int .u64 a.2], .agg #[.int .u32 b.1, .int .u64 b.2]] w fun e w' => e = .returned (.int .i64 z) ∧ Frm (fun _ => False) w w' := by
  have HZ := hid hz
  obtain ⟨a1, a2⟩ := a
  obtain ⟨b1, b2⟩ := b
  clear hz
  go_enter Try.func29, Try.ntmps29
  go_wp2_with (go_at_call 30; (with_reducible refine (Cmp_calls _ _ _ z HZ.out).mono ?_); rintro e w' ⟨rfl, rfl⟩; skip)
  go_ret
  exact ⟨rfl, (mbox _ _).trans (mbox _ _)⟩
theorem mksC_set (l : List Mk) (m : Mk) : ∀ j, j < l.length → ((mksC l).set (j * 2) (.int .u32 m.1)).set (j * 2 + 1) (.int .u64 m.2) = mksC (l.set j m) := by
  induction l with
  | nil => intro j hj; simp at hj
  | cons a l ih =>
    intro j hj
    cases j with
    | zero => rfl
    | succ j =>
      have key : ∀ (i : Nat) (u : Value) (xs : List Value), (mkC a ++ xs).set ((j + 1) * 2 + i) u = mkC a ++ xs.set (j * 2 + i) u := fun i u xs => by
        rw [List.set_append_right _ _ (by show 2 ≤ _; omega), show (j + 1) * 2 + i - (mkC a).length = j * 2 + i by show _ - 2 = _; omega]
      have key0 : ∀ (u : Value) (xs : List Value), (mkC a ++ xs).set ((j + 1) * 2) u = mkC a ++ xs.set (j * 2) u := fun u xs => key 0 u xs
      show ((mkC a ++ mksC l).set ((j + 1) * 2) _).set ((j + 1) * 2 + 1) _ = mkC a ++ mksC (l.set j m)
      rw [key0, key, ih j (by rw [List.length_cons] at hj; omega)]
theorem OwnM.set {w : World} {A : Nat → Prop} {g n c : Nat} {l : List Mk} (h : OwnM w A (.slice (some ⟨g, 0, none⟩) n c) l) (hn : n = l.length) (j : Nat) (hj : j < l.length) (m : Mk) :
    OwnM ((w.setCell ⟨g, j * 2, none⟩ (.int .u32 m.1)).setCell ⟨g, j * 2 + 1, none⟩ (.int .u64 m.2)) A (.slice (some ⟨g, 0, none⟩) n c) (l.set j m) := by
  subst hn
  have h1 := (h.own.stored (j * 2) (.int .u32 m.1)).1.stored (j * 2 + 1) (.int .u64 m.2)
  rw [mksC_set l m j hj] at h1
  refine ⟨?_, h.off⟩
  rw [List.length_set]
  exact h1.1
/-- The places. -/
def sq (l : List Mk) (p : Nat) : Int := (l.getD p (0, 0)).1
/-- Two change places. -/
def swp (l : List Mk) (j q : Nat) : List Mk := (l.set j (l.getD q (0, 0))).set q (l.getD j (0, 0))
def tr (j q p : Nat) : Nat := if p = j then q else if p = q then j else p
theorem tr_lt {j q p n : Nat} (hj : j < n) (hq : q < n) (hp : p < n) : tr j q p < n := by unfold tr; split; omega; split <;> omega
theorem tr_ne {j q p r : Nat} (h : p ≠ r) : tr j q p ≠ tr j q r := by unfold tr; split <;> split <;> (try split) <;> (try split) <;> omega
theorem tr_tr (j q p : Nat) : tr j q (tr j q p) = p := by unfold tr; split <;> (try split) <;> (try split) <;> (try split) <;> omega
theorem swp_len (l : List Mk) (j q : Nat) : (swp l j q).length = l.length := by unfold swp; rw [List.length_set, List.length_set]
theorem swp_at (l : List Mk) (j q : Nat) (hj : j < l.length) (hq : q < l.length) (p : Nat) (hp : p < l.length) : (swp l j q)[p]? = l[tr j q p]? := by
  unfold swp tr
  rw [List.getElem?_set, List.getElem?_set]
  rw [List.length_set]
  by_cases h1 : q = p
  · subst h1
    rw [if_pos rfl, if_pos hq]
    by_cases h2 : q = j
    · subst h2; rw [if_pos rfl, List.getD_eq_getElem?_getD, List.getElem?_eq_getElem hq]; rfl
    · rw [if_neg h2, if_pos rfl, List.getD_eq_getElem?_getD, List.getElem?_eq_getElem hj]; rfl
  · rw [if_neg h1]
    by_cases h2 : j = p
    · subst h2
      rw [if_pos rfl, if_pos hj, if_pos rfl, List.getD_eq_getElem?_getD, List.getElem?_eq_getElem hq]; rfl
    · rw [if_neg h2, if_neg (fun e => h2 e.symm), if_neg (fun e => h1 e.symm)]
theorem swp_sq (l : List Mk) (j q : Nat) (hj : j < l.length) (hq : q < l.length) (p : Nat) (hp : p < l.length) : sq (swp l j q) p = sq l (tr j q p) := by
  unfold sq
  rw [List.getD_eq_getElem?_getD, swp_at l j q hj hq p hp, List.getD_eq_getElem?_getD]
theorem swp_mem (l : List Mk) (j q : Nat) (hj : j < l.length) (hq : q < l.length) (m : Mk) : m ∈ swp l j q ↔ m ∈ l := by
  constructor
  · intro h
    obtain ⟨p, hp⟩ := List.mem_iff_getElem?.1 h
    have hpl : p < l.length := by have := (List.getElem?_eq_some_iff.1 hp).1; rwa [swp_len] at this
    rw [swp_at l j q hj hq p hpl] at hp
    exact List.mem_of_getElem? hp
  · intro h
    obtain ⟨p, hp⟩ := List.mem_iff_getElem?.1 h
    have hpl := (List.getElem?_eq_some_iff.1 hp).1
    have := swp_at l j q hj hq (tr j q p) (tr_lt hj hq hpl)
    rw [tr_tr, hp] at this
    exact List.mem_of_getElem? this
/-- The same marks, at unlike places each. -/
structure Alike (l l' : List Mk) : Prop where
  len : l'.length = l.length
  mem : ∀ m, m ∈ l' ↔ m ∈ l
  dist : ∀ p q, p ≠ q → p < l.length → q < l.length → sq l' p ≠ sq l' q
theorem Alike.swp {l l' : List Mk} (h : Alike l l') (j q : Nat) (hj : j < l.length) (hq : q < l.length) : Alike l (swp l' j q) :=
  ⟨by rw [swp_len, h.len], fun m => (swp_mem l' j q (by rw [h.len]; exact hj) (by rw [h.len]; exact hq) m).trans (h.mem m), fun p r hpr hp hr => by
    rw [swp_sq l' j q (by rw [h.len]; exact hj) (by rw [h.len]; exact hq) p (by rw [h.len]; exact hp), swp_sq l' j q (by rw [h.len]; exact hj) (by rw [h.len]; exact hq) r (by rw [h.len]; exact hr)]
    exact h.dist _ _ (tr_ne hpr) (tr_lt hj hq hp) (tr_lt hj hq hr)⟩
/-- In order up to i, but for what stands at j. -/
def Ord (l : List Mk) (i j : Nat) : Prop := ∀ p q, p < q → q ≤ i → q ≠ j → sq l q < sq l p
theorem Ord.swp {l : List Mk} {i j q : Nat} (h : Ord l i j) (hi : i < l.length) (hj : j ≤ i) (hq : q + 1 = j) (hc : sq l q < sq l j) : Ord (swp l j q) i q := by
  intro p r hpr hr hrq
  rw [swp_sq l j q (by omega) (by omega) p (by omega), swp_sq l j q (by omega) (by omega) r (by omega)]
  unfold tr
  by_cases h1 : r = j
  · rw [if_pos h1]
    by_cases h2 : p = q
    · rw [if_neg (by omega), if_pos h2]; exact hc
    · rw [if_neg (by omega), if_neg h2]; exact h p q (by omega) (by omega) (by omega)
  · rw [if_neg h1, if_neg hrq]
    by_cases h2 : p = j
    · rw [if_pos h2]; exact h q r (by omega) hr h1
    · rw [if_neg h2]
      by_cases h3 : p = q
      · rw [if_pos h3]; exact h j r (by omega) hr h1
      · rw [if_neg h3]; exact h p r hpr hr h1
theorem Ord.done {l : List Mk} {i j : Nat} (h : Ord l i j) (hj : j ≤ i) (hc : j = 0 ∨ ∃ q, q + 1 = j ∧ sq l j < sq l q) : Ord l (i + 1) (i + 1) := by
  intro p r hpr hr hri
  by_cases h1 : r = j
  · rcases hc with hc | ⟨q, hq, hc⟩
    · omega
    · rw [h1]
      by_cases h2 : p = q
      · rw [h2]; exact hc
      · have := h p q (by omega) (by omega) (by omega)
        omega
  · exact h p r hpr (by omega) h1
end Go.Proofs.Ytiffhkhmkigolaa
