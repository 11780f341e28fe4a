/- What one vote alone tells is picked by nobody, plain. -/
import Derived.Test.YtipalebaaejfjaaDoorDcVt2
import Derived.Test.YtipalebaaejfjaaDoorDcKnown
namespace Go.Proofs.YtipalebaaejfjaaDoor
open Go.RowKit Go.ChangeShapes
set_option linter.unusedVariables false
set_option linter.unusedSimpArgs false
set_option maxRecDepth 100000
theorem cnt_cons (p : Vm → Bool) (x : Vm) (l : List Vm) : cnt p (x :: l) = (if p x = true then 1 else 0) + cnt p l := by
  unfold cnt
  rw [List.filter_cons]
  split
  · rw [List.length_cons]; omega
  · omega
theorem cnt_nil (p : Vm → Bool) : cnt p [] = 0 := rfl
/-- An honest vote that saw nothing; one of four is whatever it is. -/
structure HonV (view : Int) (i : Nat) (v : Vm) : Prop where
  hf : v.f = i
  he : v.e = 1
  hv : v.v = view
  hl : v.l = 0
  hms : v.ms = [(0, 5)]
  hp : v.p = []
  hq : v.q = []
theorem pick_none {l : List Vm} (h : ∀ e, sawC l e ≤ 1) (s : Int) : pickR l s = ⟨false, 0, en0⟩ := by
  have hT : ∀ s f A e, pickT l s f A e = false := fun s f A e => by
    rw [pickT, decide_eq_false (show ¬ 2 ≤ sawC l e by have := h e; omega)]; simp
  have hM : ∀ f A e, pickM l s f A e = A := fun f A e => by rw [pickM, hT]; rfl
  have hV : ∀ x A, pickV l s A x = A := fun x A => by
    unfold pickV
    induction x.p with
    | nil => rfl
    | cons e p ih => rw [List.foldl_cons, hM]; exact ih
  unfold pickR
  generalize (⟨false, 0, en0⟩ : PA) = A
  have : ∀ m : List Vm, m.foldl (pickV l s) A = A := fun m => by
    induction m with
    | nil => rfl
    | cons x m ih => rw [List.foldl_cons, hV]; exact ih
  exact this l
abbrev bN : BA := ⟨false, 0, 0⟩
abbrev bG : BA := ⟨true, 0, 5⟩
theorem base_keep {l : List Vm} (h : ∀ m : Mk, 2 ≤ hasC l m.1 m.2 → m = (0, 5)) : (∀ m, baseM l bG m = bG) ∧ ∀ m, baseM l bN m = bN ∨ baseM l bN m = bG := by
  have H : ∀ A m, takeB l A m = true → m = (0, 5) := fun A m ht => by
    unfold takeB at ht
    simp only [Bool.and_eq_true, decide_eq_true_eq] at ht
    exact h m ht.1
  constructor
  · intro m
    unfold baseM
    split
    · rename_i ht; rw [H _ m ht]
    · rfl
  · intro m
    unfold baseM
    split
    · rename_i ht; rw [H _ m ht]; exact .inr rfl
    · exact .inl rfl
theorem base_fold {l : List Vm} (h : ∀ m : Mk, 2 ≤ hasC l m.1 m.2 → m = (0, 5)) : (∀ x, baseV l bG x = bG) ∧ ∀ x, baseV l bN x = bN ∨ baseV l bN x = bG := by
  obtain ⟨h1, h2⟩ := base_keep h
  have G : ∀ ms : List Mk, ms.foldl (baseM l) bG = bG := fun ms => by
    induction ms with
    | nil => rfl
    | cons m ms ih => rw [List.foldl_cons, h1]; exact ih
  refine ⟨fun x => G x.ms, fun x => ?_⟩
  unfold baseV
  induction x.ms with
  | nil => exact .inl rfl
  | cons m ms ih =>
    rw [List.foldl_cons]
    rcases h2 m with e | e
    · rw [e]; exact ih
    · rw [e]; exact .inr (G ms)
theorem base_lie {l : List Vm} (h : ∀ m : Mk, 2 ≤ hasC l m.1 m.2 → m = (0, 5)) (h2 : 2 ≤ hasC l 0 5) (h3 : 3 ≤ lowC l 0) {x : Vm} (hx : x ∈ l) (hms : x.ms = [(0, 5)]) : baseR l = bG := by
  obtain ⟨f1, f2⟩ := base_fold h
  have hX : baseV l bN x = bG := by
    unfold baseV
    rw [hms, List.foldl_cons, List.foldl_nil]
    unfold baseM takeB
    rw [decide_eq_true h2, decide_eq_true h3]; rfl
  have G : ∀ m : List Vm, m.foldl (baseV l) bG = bG := fun m => by
    induction m with
    | nil => rfl
    | cons y m ih => rw [List.foldl_cons, f1]; exact ih
  have K : ∀ m : List Vm, x ∈ m → m.foldl (baseV l) bN = bG := fun m hm => by
    induction m with
    | nil => simp at hm
    | cons y m ih =>
      rw [List.foldl_cons]
      rcases f2 y with e | e
      · rw [e]
        rcases List.mem_cons.1 hm with rfl | hm
        · rw [hX] at e; exact absurd (congrArg BA.fd e) (by decide)
        · exact ih hm
      · rw [e]; exact G m
  exact K l hx
/-- Three honest ones, and one that is whatever it is: nothing is picked, the view begins empty at the honest ones' mark. -/
structure LieR (l : List Vm) : Prop where
  pick : ∀ s, pickR l s = ⟨false, 0, en0⟩
  base : baseR l = ⟨true, 0, 5⟩
  emp : ∀ s, 0 < s → emptyR l s = true
theorem lie_plain {view : Int} {k : Nat} (hk : k < 4) {l : List Vm} (hl : l.length = 4) (h : ∀ i v, l[i]? = some v → i ≠ k → HonV view i v) : LieR l := by
  match l, hl with
  | [a, b, c, d], _ =>
    have S : ∀ i v, HonV view i v → ∀ e, v.q.any (sawE e) = false := fun i v hv e => by rw [hv.hq]; rfl
    have M : ∀ i v, HonV view i v → ∀ s r : Int, hasB s r v.ms = (s == 0 && r == 5) := fun i v hv s r => by rw [hv.hms]; simp [hasB]
    have O : ∀ i v, HonV view i v → decide (v.l ≤ 0) = true := fun i v hv => by rw [hv.hl]; rfl
    have E : ∀ i v, HonV view i v → ∀ s, 0 < s → empB s v = true := fun i v hv s hs => by simp [empB, hv.hl, hv.hp, hs]
    have X : ∀ m : Mk, (m.1 == 0 && m.2 == 5) = true → m = (0, 5) := fun m hm => by
      obtain ⟨m1, m2⟩ := m
      simp at hm; rw [hm.1, hm.2]
    have Z : ((0 : Int) == 0 && (5 : Int) == 5) = true := rfl
    rcases (show k = 0 ∨ k = 1 ∨ k = 2 ∨ k = 3 by omega) with rfl | rfl | rfl | rfl
    · have h1 := h 1 b rfl (by decide); have h2 := h 2 c rfl (by decide); have h3 := h 3 d rfl (by decide)
      refine ⟨pick_none fun e => ?_, base_lie (x := b) (fun m hm => ?_) ?_ ?_ (by simp) h1.hms, fun s hs => ?_⟩
      · simp only [sawC, cnt_cons, cnt_nil, S _ _ h1, S _ _ h2, S _ _ h3, Bool.false_eq_true, if_false, if_true]; split <;> omega
      · refine X m ?_
        cases hz : (m.1 == 0 && m.2 == 5)
        · exfalso
          simp only [hasC, cnt_cons, cnt_nil, M _ _ h1, M _ _ h2, M _ _ h3, hz, Bool.false_eq_true, if_false, if_true] at hm
          revert hm; split <;> omega
        · rfl
      · simp only [hasC, cnt_cons, cnt_nil, M _ _ h1, M _ _ h2, M _ _ h3, Z, Bool.false_eq_true, if_false, if_true]; split <;> omega
      · simp only [lowC, cnt_cons, cnt_nil, O _ _ h1, O _ _ h2, O _ _ h3, Bool.false_eq_true, if_false, if_true]; split <;> omega
      · unfold emptyR; refine decide_eq_true ?_; simp only [cnt_cons, cnt_nil, E _ _ h1 s hs, E _ _ h2 s hs, E _ _ h3 s hs, Bool.false_eq_true, if_false, if_true]; split <;> omega
    · have h0 := h 0 a rfl (by decide); have h2 := h 2 c rfl (by decide); have h3 := h 3 d rfl (by decide)
      refine ⟨pick_none fun e => ?_, base_lie (x := a) (fun m hm => ?_) ?_ ?_ (by simp) h0.hms, fun s hs => ?_⟩
      · simp only [sawC, cnt_cons, cnt_nil, S _ _ h0, S _ _ h2, S _ _ h3, Bool.false_eq_true, if_false, if_true]; split <;> omega
      · refine X m ?_
        cases hz : (m.1 == 0 && m.2 == 5)
        · exfalso
          simp only [hasC, cnt_cons, cnt_nil, M _ _ h0, M _ _ h2, M _ _ h3, hz, Bool.false_eq_true, if_false, if_true] at hm
          revert hm; split <;> omega
        · rfl
      · simp only [hasC, cnt_cons, cnt_nil, M _ _ h0, M _ _ h2, M _ _ h3, Z, Bool.false_eq_true, if_false, if_true]; split <;> omega
      · simp only [lowC, cnt_cons, cnt_nil, O _ _ h0, O _ _ h2, O _ _ h3, Bool.false_eq_true, if_false, if_true]; split <;> omega
      · unfold emptyR; refine decide_eq_true ?_; simp only [cnt_cons, cnt_nil, E _ _ h0 s hs, E _ _ h2 s hs, E _ _ h3 s hs, Bool.false_eq_true, if_false, if_true]; split <;> omega
    · have h0 := h 0 a rfl (by decide); have h1 := h 1 b rfl (by decide); have h3 := h 3 d rfl (by decide)
      refine ⟨pick_none fun e => ?_, base_lie (x := a) (fun m hm => ?_) ?_ ?_ (by simp) h0.hms, fun s hs => ?_⟩
      · simp only [sawC, cnt_cons, cnt_nil, S _ _ h0, S _ _ h1, S _ _ h3, Bool.false_eq_true, if_false, if_true]; split <;> omega
      · refine X m ?_
        cases hz : (m.1 == 0 && m.2 == 5)
        · exfalso
          simp only [hasC, cnt_cons, cnt_nil, M _ _ h0, M _ _ h1, M _ _ h3, hz, Bool.false_eq_true, if_false, if_true] at hm
          revert hm; split <;> omega
        · rfl
      · simp only [hasC, cnt_cons, cnt_nil, M _ _ h0, M _ _ h1, M _ _ h3, Z, Bool.false_eq_true, if_false, if_true]; split <;> omega
      · simp only [lowC, cnt_cons, cnt_nil, O _ _ h0, O _ _ h1, O _ _ h3, Bool.false_eq_true, if_false, if_true]; split <;> omega
      · unfold emptyR; refine decide_eq_true ?_; simp only [cnt_cons, cnt_nil, E _ _ h0 s hs, E _ _ h1 s hs, E _ _ h3 s hs, Bool.false_eq_true, if_false, if_true]; split <;> omega
    · have h0 := h 0 a rfl (by decide); have h1 := h 1 b rfl (by decide); have h2 := h 2 c rfl (by decide)
      refine ⟨pick_none fun e => ?_, base_lie (x := a) (fun m hm => ?_) ?_ ?_ (by simp) h0.hms, fun s hs => ?_⟩
      · simp only [sawC, cnt_cons, cnt_nil, S _ _ h0, S _ _ h1, S _ _ h2, Bool.false_eq_true, if_false, if_true]; split <;> omega
      · refine X m ?_
        cases hz : (m.1 == 0 && m.2 == 5)
        · exfalso
          simp only [hasC, cnt_cons, cnt_nil, M _ _ h0, M _ _ h1, M _ _ h2, hz, Bool.false_eq_true, if_false, if_true] at hm
          revert hm; split <;> omega
        · rfl
      · simp only [hasC, cnt_cons, cnt_nil, M _ _ h0, M _ _ h1, M _ _ h2, Z, Bool.false_eq_true, if_false, if_true]; split <;> omega
      · simp only [lowC, cnt_cons, cnt_nil, O _ _ h0, O _ _ h1, O _ _ h2, Bool.false_eq_true, if_false, if_true]; split <;> omega
      · unfold emptyR; refine decide_eq_true ?_; simp only [cnt_cons, cnt_nil, E _ _ h0 s hs, E _ _ h1 s hs, E _ _ h2 s hs, Bool.false_eq_true, if_false, if_true]; split <;> omega
theorem lie_good {view : Int} {l : List Vm} (h : LieR l) (hv : vtsB2 view l = true) : goodB view l = true ∧ chN l (fun (i : Nat) => ((baseR l).s + (i : Int)) % 4294967296) 8 = 0 := by
  constructor
  · unfold goodB
    rw [hv, h.base]
    show (true && (true && _)) = true
    rw [chG_of (fun i hi => by rw [h.emp _ (by show (0 : Int) < (0 + ((i + 1 : Nat) : Int)) % 4294967296; omega), Bool.or_true])]
    rfl
  · simp [chN, h.pick]
end Go.Proofs.YtipalebaaejfjaaDoor
