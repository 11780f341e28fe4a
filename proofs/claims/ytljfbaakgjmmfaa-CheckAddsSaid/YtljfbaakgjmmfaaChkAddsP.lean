/- Requests that add to one key, plain: what is told, what stands. -/
import Derived.Test.YtljfbaakgjmmfaaChkPlay
import Derived.Test.YtljfbaakgjmmfaaSvcPure
namespace Go.Proofs.Ytljfbaakgjmmfaa
open Go.RowKit Go.ChangeShapes
set_option maxRecDepth 20000
set_option linter.unusedVariables false
set_option linter.unusedSimpArgs false
def addR (i : Nat) (v : Int) : Rq := ⟨((i % 4 : Nat) : Int) + 1, ((i / 4 : Nat) : Int) + 1, 3, 7, v⟩
def addsL : Nat → List Int → List Rq
  | _, [] => []
  | i, v :: l => addR i v :: addsL (i + 1) l
/-- The sum of these, from s on, within 16 bits. -/
def sum16 (s : Int) : List Int → Int
  | [] => s
  | v :: l => sum16 ((s + v) % 65536) l
structure AddInv (i : Nat) (s : Int) (vs cs : List Int) : Prop where
  lv : vs.length = 64
  lc : cs.length = 10
  val : getV vs 7 = s
  tm : ∀ c : Nat, 1 ≤ c → c ≤ 4 → getT cs c = (((i + 4 - c) / 4 : Nat) : Int)
theorem AddInv.zero : AddInv 0 0 V0 C0 := ⟨by decide, by decide, by decide, fun c h1 h4 => by
  rw [getT_zero, show (0 + 4 - c) / 4 = 0 by omega]; rfl⟩
theorem AddInv.isNew {i : Nat} {s : Int} {vs cs : List Int} (h : AddInv i s vs cs) (v : Int) : isNew cs (addR i v).c (addR i v).t (addR i v).k (addR i v).y (addR i v).v = true := by
  have ht := h.tm (i % 4 + 1) (by omega) (by omega)
  refine isNew_of ?_ ?_
  · show decide _ = true
    refine decide_eq_true ?_
    simp only [addR]
    omega
  · show getT cs (((i % 4 : Nat) : Int) + 1) < ((i / 4 : Nat) : Int) + 1
    rw [show ((i % 4 : Nat) : Int) + 1 = ((i % 4 + 1 : Nat) : Int) by omega, ht]
    omega
theorem AddInv.apply {i : Nat} {s : Int} {vs cs : List Int} (h : AddInv i s vs cs) (v : Int) :
    applyM vs cs (addR i v).c (addR i v).t (addR i v).k (addR i v).y (addR i v).v = ((s + v) % 65536, true, putV vs 7 ((s + v) % 65536), setC cs (addR i v).c (addR i v).t ((s + v) % 65536)) := by
  obtain ⟨hr, ht⟩ : isReal _ _ _ _ _ = true ∧ _ := by
    have hn := h.isNew v
    rw [Proofs.Ytljfbaakgjmmfaa.isNew, Bool.and_eq_true] at hn
    exact ⟨hn.1, of_decide_eq_true hn.2⟩
  rw [applyM, if_pos hr, if_pos ht]
  show (doesR 3 (getV vs 7) v, true, putV vs 7 (doesV 3 (getV vs 7) v), setC cs _ _ (doesR 3 (getV vs 7) v)) = _
  rw [doesR_add, doesV_add, h.val]
theorem AddInv.step {i : Nat} {s : Int} {vs cs : List Int} (h : AddInv i s vs cs) (v : Int) : AddInv (i + 1) ((s + v) % 65536) (putV vs 7 ((s + v) % 65536)) (setC cs (addR i v).c (addR i v).t ((s + v) % 65536)) := by
  refine ⟨?_, ?_, getV_put_eq h.lv (by decide) (by decide) _, fun c h1 h4 => ?_⟩
  · rw [putV]; split
    · rw [List.length_set]; exact h.lv
    · exact h.lv
  · rw [setC]; split
    · rw [List.length_set, List.length_set]; exact h.lc
    · exact h.lc
  · have ht := h.tm c h1 h4
    by_cases hc : c = i % 4 + 1
    · rw [show (c : Int) = (addR i v).c by simp only [addR]; omega, getT_set_eq h.lc (by simp only [addR]; omega) (by simp only [addR]; omega)]
      simp only [addR]
      omega
    · rw [getT_set_ne (by simp only [addR]; omega) (by omega) (by simp only [addR]; omega), ht]
      omega
theorem play_adds (l : List Int) : ∀ (i : Nat) (s : Int) (vs cs : List Int), AddInv i s vs cs → ∃ vs' cs', playM vs cs (addsL i l) = (vs', cs') ∧ AddInv (i + l.length) (sum16 s l) vs' cs' := by
  induction l with
  | nil => exact fun i s vs cs h => ⟨vs, cs, rfl, h⟩
  | cons v l ih =>
    intro i s vs cs h
    obtain ⟨vs', cs', h1, h2⟩ := ih (i + 1) _ _ _ (h.step v)
    refine ⟨vs', cs', ?_, ?_⟩
    · rw [addsL, playM, h.apply v]; exact h1
    · rw [List.length_cons, show i + (l.length + 1) = i + 1 + l.length by omega]; exact h2
theorem addR_ne {i k : Nat} (h : i ≠ k) (a v : Int) : ¬ (addR i a).eqb (addR k v) = true := fun he => by
  have e := (Rq.eqb_iff _ _).1 he
  have e1 := congrArg Rq.c e
  have e2 := congrArg Rq.t e
  simp only [addR] at e1 e2
  omega
theorem right_adds (l : List Int) (x : Int) : ∀ (i : Nat) (s : Int) (vs cs : List Int), AddInv i s vs cs → ∀ (j : Nat) (v : Int), l[j]? = some v → rightF (addR (i + j) v) x vs cs (addsL i l) = (sum16 s (l.take (j + 1)) == x) := by
  induction l with
  | nil => intro i s vs cs _ j v hj; simp at hj
  | cons a l ih =>
    intro i s vs cs h j v hj
    cases j with
    | zero =>
      simp only [List.getElem?_cons_zero, Option.some.injEq] at hj
      subst hj
      rw [addsL, rightF, Nat.add_zero, if_pos (Rq.eqb_self _), h.isNew a, h.apply a]
      simp [sum16]
    | succ j =>
      rw [List.getElem?_cons_succ] at hj
      rw [addsL, rightF, if_neg (addR_ne (by omega) a v), h.apply a]
      have := ih (i + 1) _ _ _ (h.step a) j v hj
      rw [show i + (j + 1) = i + 1 + j by omega, List.take_succ_cons, sum16]
      exact this
theorem right_not (q : Rq) (x : Int) (l : List Rq) : ∀ (vs cs : List Int), (∀ r ∈ l, ¬ r.eqb q = true) → rightF q x vs cs l = false := by
  induction l with
  | nil => intro vs cs _; rfl
  | cons r l ih =>
    intro vs cs h
    rw [rightF, if_neg (h r List.mem_cons_self)]
    exact ih _ _ (fun r' hr' => h r' (List.mem_cons_of_mem _ hr'))
theorem adds_app (l : List Int) (v : Int) : ∀ i, addsL i (l ++ [v]) = addsL i l ++ [addR (i + l.length) v] := by
  induction l with
  | nil => exact fun i => rfl
  | cons a l ih =>
    intro i
    rw [List.cons_append, addsL, addsL, ih, List.cons_append, List.length_cons, show i + (l.length + 1) = i + 1 + l.length by omega]
theorem sum16_app (l : List Int) (v : Int) : ∀ s, sum16 s (l ++ [v]) = (sum16 s l + v) % 65536 := by
  induction l with
  | nil => exact fun s => rfl
  | cons a l ih => exact fun s => ih _
end Go.Proofs.Ytljfbaakgjmmfaa
