/- A list in which a request stands twice: what its answers are, plain. -/
import Derived.Test.YtljfbaakgjmmfaaChkPlay
namespace Go.Proofs.Ytljfbaakgjmmfaa
open Go.RowKit Go.ChangeShapes
set_option maxRecDepth 100000
set_option linter.unusedVariables false
set_option linter.unusedSimpArgs false
def qA (v : Int) : Rq := ⟨1, 1, 1, 5, v⟩
def qB (v : Int) : Rq := ⟨2, 1, 1, 5, v⟩
def agL (n m : Nat) (v u : Int) : List Rq := List.replicate n ⟨0, 0, 0, 0, 0⟩ ++ ([qA v] ++ (List.replicate m ⟨0, 0, 0, 0, 0⟩ ++ [qB u, qA v, qB u]))
theorem play_app (vs cs : List Int) (l m : List Rq) : playM vs cs (l ++ m) = playM (playM vs cs l).1 (playM vs cs l).2 m := by
  induction l generalizing vs cs with
  | nil => rfl
  | cons r l ih => rw [List.cons_append, playM, ih, playM]
theorem play_null (vs cs : List Int) (n : Nat) : playM vs cs (List.replicate n ⟨0, 0, 0, 0, 0⟩) = (vs, cs) := by
  induction n with
  | zero => rfl
  | succ n ih => rw [List.replicate_succ, playM]; exact ih
theorem right_null (q : Rq) (x : Int) (hq : q.c ≠ 0) (vs cs : List Int) (n : Nat) (m : List Rq) : rightF q x vs cs (List.replicate n ⟨0, 0, 0, 0, 0⟩ ++ m) = rightF q x vs cs m := by
  induction n with
  | zero => rfl
  | succ n ih =>
    have e : Rq.eqb ⟨0, 0, 0, 0, 0⟩ q = false := by
      cases h : Rq.eqb ⟨0, 0, 0, 0, 0⟩ q with
      | false => rfl
      | true => exact absurd (by rw [← (Rq.eqb_iff _ _).1 h]) hq
    rw [List.replicate_succ, List.cons_append, rightF, e]
    exact ih
theorem ag1 (v : Int) : applyM V0 C0 1 1 1 5 v = (0, true, putV V0 5 v, setC C0 1 1 0) := rfl
theorem ag2 (v u : Int) : applyM (putV V0 5 v) (setC C0 1 1 0) 2 1 1 5 u = (v, true, putV (putV V0 5 v) 5 u, setC (setC C0 1 1 0) 2 1 v) := rfl
theorem ag3 (v u : Int) : applyM (putV (putV V0 5 v) 5 u) (setC (setC C0 1 1 0) 2 1 v) 1 1 1 5 v = (0, true, putV (putV V0 5 v) 5 u, setC (setC C0 1 1 0) 2 1 v) := rfl
theorem ag4 (v u : Int) : applyM (putV (putV V0 5 v) 5 u) (setC (setC C0 1 1 0) 2 1 v) 2 1 1 5 u = (v, true, putV (putV V0 5 v) 5 u, setC (setC C0 1 1 0) 2 1 v) := rfl
theorem ag_play (n m : Nat) (v u : Int) : playM V0 C0 (agL n m v u) = (putV (putV V0 5 v) 5 u, setC (setC C0 1 1 0) 2 1 v) := by
  rw [agL, play_app, play_null, play_app]
  simp only [playM, qA, ag1]
  rw [play_app, play_null]
  simp only [playM, qA, qB, ag2, ag3, ag4]
theorem ag_val (v u : Int) : getV (putV (putV V0 5 v) 5 u) 5 = u := rfl
theorem ag_new1 (v : Int) : isNew C0 1 1 1 5 v = true := rfl
theorem ag_new2 (u : Int) : isNew (setC C0 1 1 0) 2 1 1 5 u = true := rfl
theorem ag_ne (v u : Int) : ¬ (qA v).eqb (qB u) = true := fun h => by
  have := congrArg Rq.c ((Rq.eqb_iff _ _).1 h)
  exact absurd this (show ¬ ((1 : Int) = 2) by decide)
theorem ag_right (n m : Nat) (v u : Int) : rightsF (agL n m v u) [(qA v, 0), (qB u, v)] = true := by
  have h1 : rightF (qA v) 0 V0 C0 (agL n m v u) = true := by
    rw [agL, right_null _ _ (by show (1 : Int) ≠ 0; decide), List.singleton_append, rightF, if_pos (Rq.eqb_self _)]
    show (isNew C0 1 1 1 5 v && (applyM V0 C0 1 1 1 5 v).1 == 0) = true
    rw [ag_new1, ag1]; rfl
  have h2 : rightF (qB u) v V0 C0 (agL n m v u) = true := by
    rw [agL, right_null _ _ (by show (2 : Int) ≠ 0; decide), List.singleton_append, rightF, if_neg (ag_ne v u)]
    show rightF (qB u) v (applyM V0 C0 1 1 1 5 v).2.2.1 (applyM V0 C0 1 1 1 5 v).2.2.2 _ = true
    rw [ag1, right_null _ _ (by show (2 : Int) ≠ 0; decide), rightF, if_pos (Rq.eqb_self _)]
    show (isNew (setC C0 1 1 0) 2 1 1 5 u && (applyM (putV V0 5 v) (setC C0 1 1 0) 2 1 1 5 u).1 == v) = true
    rw [ag_new2, ag2]; simp
  rw [rightsF, rightsF, rightsF]
  dsimp only
  rw [h1, h2]; rfl
end Go.Proofs.Ytljfbaakgjmmfaa
