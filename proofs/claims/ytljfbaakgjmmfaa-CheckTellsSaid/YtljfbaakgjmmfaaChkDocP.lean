/- The document's List, plain; stores into rows of one's own. -/
import Derived.Test.YtljfbaakgjmmfaaOwnT
import Derived.Test.YtljfbaakgjmmfaaChkDoc
import Derived.Laws.OwnMore
namespace Go.Proofs.Ytljfbaakgjmmfaa
open Go.RowKit Go.ChangeShapes
set_option linter.unusedVariables false
set_option linter.unusedSimpArgs false
set_option maxRecDepth 20000
def outD (D : List (Option Rq)) : List Rq := D.map fun o => o.getD rq0
def thD (D : List (Option Rq)) : List Bool := D.map Option.isSome
theorem outD_len (D : List (Option Rq)) : (outD D).length = D.length := by simp [outD]
theorem thD_len (D : List (Option Rq)) : (thD D).length = D.length := by simp [thD]
structure GD (g : Int → Option Rq) (m : Int) (n : Nat) (D : List (Option Rq)) : Prop where
  g1 : ∀ i : Nat, g ((i : Int) + 1) = (D[i]?).getD none
  m1 : m = (D.length : Int)
  n1 : n = D.countP Option.isSome
theorem GD.nil : GD (fun _ => none) 0 0 [] := ⟨fun i => by simp, rfl, rfl⟩
theorem grow_at (D : List (Option Rq)) (e i : Nat) : ((D ++ List.replicate e none)[i]?).getD none = (D[i]?).getD none := by
  rcases Nat.lt_or_ge i D.length with h | h
  · rw [List.getElem?_append_left h]
  · rw [List.getElem?_append_right h, List.getElem?_eq_none h, List.getElem?_replicate]
    split <;> rfl
theorem grow_cnt (D : List (Option Rq)) (e : Nat) : (D ++ List.replicate e none).countP Option.isSome = D.countP Option.isSome := by
  rw [List.countP_append, List.countP_replicate]; simp
theorem set_cnt (D : List (Option Rq)) (j : Nat) (o : Option Rq) (r : Rq) (hj : D[j]? = some o) : (D.set j (some r)).countP Option.isSome = D.countP Option.isSome + (if o = none then 1 else 0) := by
  induction D generalizing j with
  | nil => simp at hj
  | cons a D ih =>
    cases j with
    | zero =>
      simp only [List.getElem?_cons_zero, Option.some.injEq] at hj
      subst hj
      rw [List.set_cons_zero, List.countP_cons, List.countP_cons]
      cases a <;> simp
    | succ j =>
      rw [List.getElem?_cons_succ] at hj
      rw [List.set_cons_succ, List.countP_cons, List.countP_cons, ih j hj]
      omega
/-- One more is laid in. -/
theorem GD.step {g : Int → Option Rq} {m : Int} {n : Nat} {D : List (Option Rq)} (h : GD g m n D) (e j : Nat) (o : Option Rq) (r : Rq) (hj : (D ++ List.replicate e none)[j]? = some o) (hl : D.length + e = max D.length (j + 1)) :
    GD (updR g ((j : Int) + 1) r) (max m ((j : Int) + 1)) (if g ((j : Int) + 1) = none then n + 1 else n) ((D ++ List.replicate e none).set j (some r)) := by
  have hg : g ((j : Int) + 1) = o := by rw [h.g1 j, ← grow_at D e j, hj]; rfl
  have hjl : j < (D ++ List.replicate e none).length := (List.getElem?_eq_some_iff.1 hj).1
  refine ⟨fun i => ?_, ?_, ?_⟩
  · unfold updR
    by_cases hi : i = j
    · subst hi
      rw [if_pos rfl, List.getElem?_set_self hjl]; rfl
    · rw [if_neg (by omega), h.g1 i, List.getElem?_set_ne (fun e => hi e.symm), grow_at]
  · rw [List.length_set, List.length_append, List.length_replicate, h.m1]; omega
  · rw [set_cnt _ j o r hj, grow_cnt, hg, h.n1]
    split <;> omega
theorem GD.fin {g : Int → Option Rq} {m : Int} {n : Nat} {D : List (Option Rq)} (h : GD g m n D) : totF g m n [] = if D.all Option.isSome = true then some (outD D) else none := by
  show finF g m n = _
  unfold finF
  rw [h.m1, h.n1]
  by_cases ha : D.all Option.isSome = true
  · have hc : D.countP Option.isSome = D.length := List.countP_eq_length.2 (List.all_eq_true.1 ha)
    rw [if_pos ha, if_pos (by rw [hc]), Int.toNat_natCast]
    congr 1
    apply List.ext_getElem?
    intro i
    rw [List.getElem?_map, outD, List.getElem?_map]
    rcases Nat.lt_or_ge i D.length with hi | hi
    · rw [List.getElem?_range hi, List.getElem?_eq_getElem hi]
      simp only [Option.map_some, h.g1 i, List.getElem?_eq_getElem hi, Option.getD_some]
    · rw [List.getElem?_eq_none (by rw [List.length_range]; exact hi), List.getElem?_eq_none hi]
      rfl
  · rw [if_neg ha, if_neg (fun e => ha (List.all_eq_true.2 (List.countP_eq_length.1 (by omega))))]
theorem outD_at {D : List (Option Rq)} {j : Nat} {o : Option Rq} (h : D[j]? = some o) : (outD D)[j]? = some (o.getD rq0) := by unfold outD; rw [List.getElem?_map, h]; rfl
theorem thD_at {D : List (Option Rq)} {j : Nat} {o : Option Rq} (h : D[j]? = some o) : (thD D)[j]? = some o.isSome := by unfold thD; rw [List.getElem?_map, h]; rfl
theorem outD_grow (D : List (Option Rq)) (e : Nat) : outD (D ++ List.replicate (e + 1) none) = outD (D ++ List.replicate e none) ++ [⟨0, 0, 0, 0, 0⟩] := by
  rw [List.replicate_succ', ← List.append_assoc, outD, List.map_append]; rfl
theorem thD_grow (D : List (Option Rq)) (e : Nat) : thD (D ++ List.replicate (e + 1) none) = thD (D ++ List.replicate e none) ++ [false] := by
  rw [List.replicate_succ', ← List.append_assoc, thD, List.map_append]; rfl
theorem outD_set (D : List (Option Rq)) (j : Nat) (r : Rq) : outD (D.set j (some r)) = (outD D).set j r := by unfold outD; rw [List.map_set]; rfl
theorem thD_set (D : List (Option Rq)) (j : Nat) (r : Rq) : thD (D.set j (some r)) = (thD D).set j true := by unfold thD; rw [List.map_set]; rfl
theorem rqsC_set (l : List Rq) (r : Rq) : ∀ j, j < l.length → (((((rqsC l).set (j * 5) (.int .u8 r.c)).set (j * 5 + 1) (.int .u32 r.t)).set (j * 5 + 2) (.int .u8 r.k)).set (j * 5 + 3) (.int .u8 r.y)).set (j * 5 + 4) (.int .u16 r.v) = rqsC (l.set j r) := by
  induction l with
  | nil => intro j hj; simp at hj
  | cons a l ih =>
    intro j hj
    cases j with
    | zero => rfl
    | succ j =>
      have key : ∀ (i : Nat) (u : Value) (xs : List Value), (rqC a ++ xs).set ((j + 1) * 5 + i) u = rqC a ++ xs.set (j * 5 + i) u := fun i u xs => by
        rw [List.set_append_right _ _ (by show 5 ≤ _; omega), show (j + 1) * 5 + i - (rqC a).length = j * 5 + i by show _ - 5 = _; omega]
      have key0 : ∀ (u : Value) (xs : List Value), (rqC a ++ xs).set ((j + 1) * 5) u = rqC a ++ xs.set (j * 5) u := fun u xs => key 0 u xs
      show (((((rqC a ++ rqsC l).set ((j + 1) * 5) _).set ((j + 1) * 5 + 1) _).set ((j + 1) * 5 + 2) _).set ((j + 1) * 5 + 3) _).set ((j + 1) * 5 + 4) _ = rqC a ++ rqsC (l.set j r)
      rw [key0, key, key, key, key, ih j (by rw [List.length_cons] at hj; omega)]
theorem btsC_eq (l : List Bool) : btsC l = l.map Value.bool := by
  induction l with
  | nil => rfl
  | cons a l ih => show btC a ++ btsC l = _; rw [ih]; rfl
theorem OwnR.set {w : World} {A : Nat → Prop} {g n c : Nat} {l : List Rq} (h : OwnR w A (.slice (some ⟨g, 0, none⟩) n c) l) (hn : n = l.length) (j : Nat) (hj : j < l.length) (r : Rq) :
    OwnR (((((w.setCell ⟨g, j * 5, none⟩ (.int .u8 r.c)).setCell ⟨g, j * 5 + 1, none⟩ (.int .u32 r.t)).setCell ⟨g, j * 5 + 2, none⟩ (.int .u8 r.k)).setCell ⟨g, j * 5 + 3, none⟩ (.int .u8 r.y)).setCell ⟨g, j * 5 + 4, none⟩ (.int .u16 r.v)) A (.slice (some ⟨g, 0, none⟩) n c) (l.set j r) := by
  subst hn
  have h1 := ((((h.own.stored (j * 5) (.int .u8 r.c)).1.stored (j * 5 + 1) (.int .u32 r.t)).1.stored (j * 5 + 2) (.int .u8 r.k)).1.stored (j * 5 + 3) (.int .u8 r.y)).1.stored (j * 5 + 4) (.int .u16 r.v)
  rw [rqsC_set l r j hj] at h1
  refine ⟨?_, h.off⟩
  rw [List.length_set]
  exact h1.1
theorem OwnT.set {w : World} {A : Nat → Prop} {g n c : Nat} {l : List Bool} (h : OwnT w A (.slice (some ⟨g, 0, none⟩) n c) l) (hn : n = l.length) (j : Nat) (b : Bool) : OwnT (w.setCell ⟨g, j, none⟩ (.bool b)) A (.slice (some ⟨g, 0, none⟩) n c) (l.set j b) := by
  subst hn
  have h1 := h.own.stored j (.bool b)
  rw [btsC_eq, ← List.map_set, ← btsC_eq] at h1
  refine ⟨?_, h.off⟩
  rw [List.length_set]
  exact h1.1
theorem own_RT {w : World} {A A' : Nat → Prop} {v v' : Value} {l : List Rq} {l' : List Bool} (h : OwnR w A v l) (h' : OwnT w A' v' l') {k : Nat} (hk : v.ownBlock = some k) (hk' : v'.ownBlock = some k) : False := by
  rcases h.own.2 with ⟨rfl, _⟩ | ⟨g, cap, cur, rfl, _, hgg, _⟩
  · simp [Value.ownBlock] at hk
  · rcases h'.own.2 with ⟨rfl, _⟩ | ⟨g', cap', cur', rfl, _, hgg', _⟩
    · simp [Value.ownBlock] at hk'
    · simp [Value.ownBlock] at hk hk'
      subst hk hk'
      rw [hgg] at hgg'
      injection hgg' with e'
      injection e' with _ e2
      exact absurd e2 (by decide)
end Go.Proofs.Ytljfbaakgjmmfaa
