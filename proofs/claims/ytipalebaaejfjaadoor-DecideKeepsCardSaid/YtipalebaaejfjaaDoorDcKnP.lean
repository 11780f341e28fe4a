/- What the laws on a new view's beginning need, plain. -/
import Derived.Test.YtipalebaaejfjaaDoorDcCh
namespace Go.Proofs.YtipalebaaejfjaaDoor
open Go.RowKit Go.ChangeShapes
set_option linter.unusedVariables false
set_option linter.unusedSimpArgs false
set_option maxRecDepth 100000
theorem flat_len {α : Type} {C : α → List Value} {n : Nat} (hC : ∀ x, (C x).length = n) (l : List α) : (l.flatMap C).length = l.length * n := by
  induction l with
  | nil => simp
  | cons x l ih => rw [List.flatMap_cons, List.length_append, ih, hC, List.length_cons, Nat.succ_mul]; omega
theorem flat_at {α : Type} {C : α → List Value} {n : Nat} (hC : ∀ x, (C x).length = n) : ∀ (l : List α) (j : Nat) (r : α), l[j]? = some r → ∀ i, i < n → (l.flatMap C)[j * n + i]? = (C r)[i]?
  | [], _, _, hj, _, _ => by simp at hj
  | a :: l, 0, r, hj, i, hi => by
    simp only [List.getElem?_cons_zero, Option.some.injEq] at hj
    subst hj
    rw [List.flatMap_cons, List.getElem?_append_left (by rw [hC]; omega), Nat.zero_mul, Nat.zero_add]
  | a :: l, j + 1, r, hj, i, hi => by
    rw [List.getElem?_cons_succ] at hj
    rw [List.flatMap_cons, List.getElem?_append_right (by rw [hC, Nat.succ_mul]; omega), hC, show (j + 1) * n + i - n = j * n + i by rw [Nat.succ_mul]; omega]
    exact flat_at hC l j r hj i hi
/-- A block that holds them is a row of them. -/
theorem IsRow.of_blk {α : Type} {C : α → List Value} {n : Nat} (hC : ∀ x, (C x).length = n) {w : World} {b T : Nat} {l : List α} (h : Blk w b (l.flatMap C) T) (hl : l.length ≤ 9223372036854775807) : IsRow n C w (some ⟨b, 0, none⟩) l.length l :=
  ⟨Nat.le_refl _, hl, fun _ => ⟨b, 0, rfl, h.lt, fun j r hj i hi => by rw [Nat.zero_add, h.cell, flat_at hC l j r hj i hi]⟩⟩
theorem IsRow.nil {α : Type} {C : α → List Value} {n : Nat} (w : World) (a : Option Addr) : IsRow n C w a 0 [] := ⟨Nat.le_refl _, by decide, fun h => absurd rfl h⟩
theorem vmC_len (x : Vm) : (vmC x).length = 7 := rfl
theorem mkC_len (m : Mk) : (mkC m).length = 2 := rfl
theorem enC_len (e : En) : (enC e).length = 7 := rfl
/-- Each replica once, in their order. -/
def ascB : List Vm → Bool
  | a :: b :: l => decide (a.f < b.f) && ascB (b :: l)
  | _ => true
theorem ascB_iff : ∀ l : List Vm, ascB l = true ↔ ∀ i x y, l[i]? = some x → l[i + 1]? = some y → x.f < y.f
  | [] => by simp [ascB]
  | [a] => by simp [ascB]
  | a :: b :: l => by
    rw [ascB, Bool.and_eq_true, decide_eq_true_eq, ascB_iff (b :: l)]
    constructor
    · rintro ⟨h1, h2⟩ i x y hx hy
      cases i with
      | zero => simp at hx hy; subst hx; subst hy; exact h1
      | succ i => exact h2 i x y (by simpa using hx) (by simpa using hy)
    · intro h
      exact ⟨h 0 a b rfl rfl, fun i x y hx hy => h (i + 1) x y (by simpa using hx) (by simpa using hy)⟩
def vtsB (view : Int) (l : List Vm) : Bool := decide (3 ≤ l.length ∧ l.length ≤ 4) && (l.all (fun x => voteB x && decide (x.v = view)) && ascB l)
theorem vtsB_iff (view : Int) (l : List Vm) : VotesP view l ↔ vtsB view l = true := by
  rw [vtsB, Bool.and_eq_true, Bool.and_eq_true, decide_eq_true_eq, List.all_eq_true, ascB_iff]
  constructor
  · rintro ⟨h1, h2⟩
    refine ⟨h1, fun x hx => ?_, fun i x y hx hy => h2.ord i x y ?_ hx hy⟩
    · obtain ⟨i, hi⟩ := List.getElem?_of_mem hx
      have hl : i < l.length := (List.getElem?_eq_some_iff.1 hi).1
      obtain ⟨h3, h4⟩ := h2.ok i x hl hi
      rw [h3, h4]; simp
    · exact (List.getElem?_eq_some_iff.1 hy).1
  · rintro ⟨h1, h2, h3⟩
    refine ⟨h1, ⟨fun i x hi hx => ?_, fun i x y _ hx hy => h3 i x y hx hy⟩⟩
    have := h2 x (List.mem_of_getElem? hx)
    simpa using this
theorem Votes_at {w : World} {a : Option Addr} {cap L : Nat} {l : List Vm} (h : IsVos w a cap l) (hL : l.length = L) (view : Int) (z : Bool) (hz : vtsB view l = z) (w' : World) (f : Frm (fun _ => False) w w') :
    Calls Tryd.prog 17 #[.int .u32 view, .slice a L cap] w' fun e w'' => e = .returned (.bool z) ∧ Frm (fun _ => False) w' w'' := by
  have := Votes_calls (h.quiet f) view z (by rw [vtsB_iff, hz])
  rwa [hL] at this
/-- A view that begins. -/
theorem Choose_ok {w : World} {a : Option Addr} {cap L : Nat} {l : List Vm} (h : IsVos w a cap l) (hL : l.length = L) (view : Int) (hv : vtsB view l = true) {zs zr : Int} (hZ : baseR l = ⟨true, zs, zr⟩)
    (sq : Nat → Int) (hsq : ∀ i : Nat, 1 ≤ i → i ≤ 8 → (zs + (i : Int)) % 4294967296 = sq i) (hG : chG l sq 8 = true) {O : List Rq} (hO : (chL l sq 8).take (chN l sq 8) = O) {n : Nat} (hn : O.length = n) :
    Calls Tryd.prog 15 #[.int .u32 view, .slice a L cap] w fun e w' => (∃ g c, e = .returned (.tuple #[.agg #[.int .u32 zs, .int .u64 zr], .slice (some ⟨g, 0, none⟩) n c, .int .i64 0]) ∧ IsRow 5 rqC w' (some ⟨g, 0, none⟩) c O) ∧ Frm (fun _ => False) w w' := by
  refine (Choose_calls h.row hL h.ok view true (Votes_at h hL view true hv) hZ sq hsq true (by rw [hG]; rfl)).mono ?_
  rintro e w' ⟨f, ⟨h0, _⟩ | ⟨_, g, c, he, hr⟩⟩
  · cases h0
  · subst hn; rw [hO] at he hr; exact ⟨⟨g, c, he, hr⟩, f⟩
/-- One that does not. -/
theorem Choose_bad {w : World} {a : Option Addr} {cap L : Nat} {l : List Vm} (h : IsVos w a cap l) (hL : l.length = L) (view : Int) (hv : vtsB view l = false) :
    Calls Tryd.prog 15 #[.int .u32 view, .slice a L cap] w fun e w' => e = .returned (.tuple #[.agg #[.int .u32 0, .int .u64 0], .slice none 0 0, .int .i64 150]) ∧ Frm (fun _ => False) w w' := by
  obtain ⟨⟨zf, zs, zr⟩, hZ⟩ : ∃ A, baseR l = A := ⟨_, rfl⟩
  refine (Choose_calls h.row hL h.ok view false (Votes_at h hL view false hv) hZ (fun i => (zs + (i : Int)) % 4294967296) (fun _ _ _ => rfl) false rfl).mono ?_
  rintro e w' ⟨f, ⟨_, he⟩ | ⟨h0, _⟩⟩
  · exact ⟨he, f⟩
  · cases h0
/-- The known votes: their mark lies in the block mb. -/
def kV (mb : Nat) (i : Int) : Vm := ⟨i, 1, 1, 0, some ⟨mb, 0, none⟩, 1, [(0, 9)], none, 0, [], none, 0, []⟩
def kL (mb : Nat) : List Vm := [kV mb 0, kV mb 1, kV mb 2]
theorem kL_vts (mb : Nat) : vtsB 1 (kL mb) = true := by rfl
theorem kL_vts2 (mb : Nat) : vtsB 1 ((kL mb).take 2) = false := by rfl
theorem kL_base (mb : Nat) : baseR (kL mb) = ⟨true, 0, 9⟩ := by rfl
theorem kL_pick (mb : Nat) (s : Int) : pickR (kL mb) s = ⟨false, 0, en0⟩ := by rfl
theorem kL_empty (mb : Nat) (s : Int) (h : 0 < s) : emptyR (kL mb) s = true := by
  have e : ∀ i, empB s (kV mb i) = true := fun i => by simp [empB, kV, h]
  simp [emptyR, cnt, kL, e]
end Go.Proofs.YtipalebaaejfjaaDoor
