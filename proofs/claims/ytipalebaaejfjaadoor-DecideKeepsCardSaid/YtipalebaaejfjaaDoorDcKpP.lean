/- What three replicas committed stands in the new view, plain. -/
import Derived.Test.YtipalebaaejfjaaDoorDcLiP
namespace Go.Proofs.YtipalebaaejfjaaDoor
open Go.RowKit Go.ChangeShapes
set_option linter.unusedVariables false
set_option linter.unusedSimpArgs false
set_option maxRecDepth 100000
theorem cnt_mono {p q : Vm → Bool} {l : List Vm} (h : ∀ v ∈ l, p v = true → q v = true) : cnt p l ≤ cnt q l := by
  induction l with
  | nil => exact Nat.le_refl _
  | cons x l ih =>
    have ih := ih (fun v hv => h v (List.mem_cons_of_mem _ hv))
    have hx := h x (List.mem_cons_self ..)
    rw [cnt_cons, cnt_cons]
    cases hp : p x
    · simp; split <;> omega
    · rw [hx hp]; simp; omega
theorem cnt_or {p q r : Vm → Bool} {l : List Vm} (h : ∀ v ∈ l, p v = true → q v = true ∨ r v = true) : cnt p l ≤ cnt q l + cnt r l := by
  induction l with
  | nil => exact Nat.zero_le _
  | cons x l ih =>
    have ih := ih (fun v hv => h v (List.mem_cons_of_mem _ hv))
    have hx := h x (List.mem_cons_self ..)
    rw [cnt_cons, cnt_cons, cnt_cons]
    cases hp : p x
    · simp; omega
    · rcases hx hp with e | e <;> rw [e] <;> simp <;> omega
/-- An honest vote that has E prepared and seen; one of an honest replica that missed it. -/
structure HonK (E : En) (v : Vm) : Prop where
  hl : v.l = 0
  hms : v.ms = [(0, 9)]
  hp : v.p = [E]
  hq : v.q = [E]
structure MisK (v : Vm) : Prop where
  hl : v.l = 0
  hms : v.ms = [(0, 9)]
  hp : v.p = []
  hq : v.q = []
/-- Of the votes one may be a liar's (k's), one may be the one's that missed it (m's). -/
structure KeepI (E : En) (k m : Int) (l : List Vm) : Prop where
  hon : ∀ v ∈ l, v.f ≠ k → v.f ≠ m → HonK E v
  mis : ∀ v ∈ l, v.f ≠ k → v.f = m → MisK v
  one : cnt (fun v => v.f == k) l ≤ 1
  two : cnt (fun v => v.f == m) l ≤ 1
abbrev b9 : BA := ⟨true, 0, 9⟩
theorem base9 {l : List Vm} (h : ∀ m : Mk, 2 ≤ hasC l m.1 m.2 → m = (0, 9)) (hf : (baseR l).fd = true) : baseR l = b9 := by
  have H : ∀ A m, takeB l A m = true → m = (0, 9) := fun A m ht => by
    unfold takeB at ht
    simp only [Bool.and_eq_true, decide_eq_true_eq] at ht
    exact h m ht.1
  have K : ∀ A m, (A = b9 ∨ A = ⟨false, 0, 0⟩) → (baseM l A m = b9 ∨ baseM l A m = ⟨false, 0, 0⟩) := fun A m hA => by
    unfold baseM
    split
    · rename_i ht; rw [H _ m ht]; exact .inl rfl
    · exact hA
  have V : ∀ (ms : List Mk) A, (A = b9 ∨ A = ⟨false, 0, 0⟩) → (ms.foldl (baseM l) A = b9 ∨ ms.foldl (baseM l) A = ⟨false, 0, 0⟩) := fun ms => by
    induction ms with
    | nil => exact fun A hA => hA
    | cons m ms ih => exact fun A hA => ih _ (K A m hA)
  have R : ∀ (q : List Vm) A, (A = b9 ∨ A = ⟨false, 0, 0⟩) → (q.foldl (baseV l) A = b9 ∨ q.foldl (baseV l) A = ⟨false, 0, 0⟩) := fun q => by
    induction q with
    | nil => exact fun A hA => hA
    | cons x q ih => exact fun A hA => ih _ (V x.ms A hA)
  rcases R l ⟨false, 0, 0⟩ (.inr rfl) with e | e
  · exact e
  · rw [show baseR l = _ from e] at hf; cases hf
theorem pick_saw {l : List Vm} {s : Int} (hf : (pickR l s).fd = true) : 2 ≤ sawC l (pickR l s).e := by
  have M : ∀ f A e, (A.fd = true → 2 ≤ sawC l A.e) → ((pickM l s f A e).fd = true → 2 ≤ sawC l (pickM l s f A e).e) := fun f A e hA => by
    unfold pickM
    split
    · rename_i ht
      intro _
      unfold pickT at ht
      simp only [Bool.and_eq_true, decide_eq_true_eq] at ht
      exact ht.2.2.1
    · exact hA
  have V : ∀ f (p : List En) A, (A.fd = true → 2 ≤ sawC l A.e) → ((p.foldl (pickM l s f) A).fd = true → 2 ≤ sawC l (p.foldl (pickM l s f) A).e) := fun f p => by
    induction p with
    | nil => exact fun A hA => hA
    | cons e p ih => exact fun A hA => ih _ (M f A e hA)
  have R : ∀ (q : List Vm) A, (A.fd = true → 2 ≤ sawC l A.e) → ((q.foldl (pickV l s) A).fd = true → 2 ≤ sawC l (q.foldl (pickV l s) A).e) := fun q => by
    induction q with
    | nil => exact fun A hA => hA
    | cons x q ih => exact fun A hA => ih _ (V x.f x.p A hA)
  exact R l ⟨false, 0, en0⟩ (fun h => by cases h) hf
theorem chG_at {l : List Vm} {sq : Nat → Int} {n j : Nat} (h : chG l sq n = true) (hj : j < n) : ((pickR l (sq (j + 1))).fd || emptyR l (sq (j + 1))) = true := by
  induction n with
  | zero => omega
  | succ n ih =>
    rw [chG, Bool.and_eq_true] at h
    by_cases e : j = n
    · subst e; exact h.1
    · exact ih h.2 (by omega)
theorem chN_ge {l : List Vm} {sq : Nat → Int} {n j : Nat} (h : (pickR l (sq (j + 1))).fd = true) (hj : j < n) : j + 1 ≤ chN l sq n := by
  induction n with
  | zero => omega
  | succ n ih =>
    rw [chN]
    by_cases e : j = n
    · subst e; rw [if_pos h]; exact Nat.le_refl _
    · split
      · omega
      · exact ih (by omega)
theorem chL_at {l : List Vm} {sq : Nat → Int} {n j : Nat} (hj : j < n) : (chL l sq n)[j]? = some (rqE (pickR l (sq (j + 1))).e) := by
  induction n with
  | zero => omega
  | succ n ih =>
    rw [chL]
    by_cases e : j = n
    · subst e; rw [List.getElem?_append_right (by rw [chL_len]; omega), chL_len, Nat.sub_self]; rfl
    · rw [List.getElem?_append_left (by rw [chL_len]; omega)]; exact ih (by omega)
theorem keep_plain {E : En} {k m view : Int} {l : List Vm} (h : KeepI E k m l) {j : Nat} (hj : j < 8) (hs : E.s = (j : Int) + 1) (hg : goodB view l = true) :
    baseR l = b9 ∧ j + 1 ≤ chN l (fun (i : Nat) => ((baseR l).s + (i : Int)) % 4294967296) 8 ∧ ((chL l (fun (i : Nat) => ((baseR l).s + (i : Int)) % 4294967296) 8).take (chN l (fun (i : Nat) => ((baseR l).s + (i : Int)) % 4294967296) 8))[j]? = some (rqE E) := by
  have hv := goodB_vts hg
  unfold goodB at hg
  rw [hv, Bool.true_and, Bool.and_eq_true] at hg
  have hb : baseR l = b9 := base9 (fun q hq => by
    cases hz : (q.1 == 0 && q.2 == 9)
    · exfalso
      have : hasC l q.1 q.2 ≤ cnt (fun v => v.f == k) l := cnt_mono fun v hv hp => by
        rw [beq_iff_eq]
        refine Decidable.byContradiction fun hk => ?_
        have hms : v.ms = [(0, 9)] := by
          by_cases hm : v.f = m
          · exact (h.mis v hv hk hm).hms
          · exact (h.hon v hv hk hm).hms
        rw [hms] at hp
        simp only [hasB, List.any_cons, List.any_nil, Bool.or_false] at hp
        rw [hp] at hz; cases hz
      have := h.one; omega
    · obtain ⟨q1, q2⟩ := q
      simp at hz; rw [hz.1, hz.2]) hg.1
  have hsq : ((baseR l).s + ((j + 1 : Nat) : Int)) % 4294967296 = E.s := by
    rw [hb, hs]; show (0 + ((j + 1 : Nat) : Int)) % 4294967296 = _; omega
  have hE : emptyR l E.s = false := by
    unfold emptyR
    refine decide_eq_false ?_
    have : cnt (empB E.s) l ≤ cnt (fun v => v.f == k) l + cnt (fun v => v.f == m) l := cnt_or fun v hv hp => by
      simp only [beq_iff_eq]
      refine Decidable.byContradiction fun hn => ?_
      have h1 : v.f ≠ k := fun e => hn (.inl e)
      have h2 : v.f ≠ m := fun e => hn (.inr e)
      have hh := h.hon v hv h1 h2
      simp [empB, hh.hp] at hp
    have := h.one; have := h.two; omega
  have h1 := chG_at hg.2 hj
  rw [hsq, hE, Bool.or_false] at h1
  have h2 := pick_saw h1
  have hre : rqE (pickR l E.s).e = rqE E := by
    generalize (pickR l E.s).e = e at h2 ⊢
    cases hz : reE E e
    · exfalso
      have : sawC l e ≤ cnt (fun v => v.f == k) l := cnt_mono fun v hv hp => by
        rw [beq_iff_eq]
        refine Decidable.byContradiction fun hk => ?_
        by_cases hm : v.f = m
        · rw [(h.mis v hv hk hm).hq] at hp; simp at hp
        · rw [(h.hon v hv hk hm).hq] at hp; simp [sawE, hz] at hp
      have := h.one; omega
    · simp only [reE, Bool.and_eq_true, beq_iff_eq] at hz
      obtain ⟨e1, e2, e3, e4, e5⟩ := hz
      unfold rqE; rw [e1, e2, e3, e4, e5]
  have hN := chN_ge (l := l) (sq := fun (i : Nat) => ((baseR l).s + (i : Int)) % 4294967296) (n := 8) (j := j) (by rw [hsq]; exact h1) hj
  refine ⟨hb, hN, ?_⟩
  rw [List.getElem?_take, if_pos (by omega), chL_at hj, hsq, hre]
end Go.Proofs.YtipalebaaejfjaaDoor
