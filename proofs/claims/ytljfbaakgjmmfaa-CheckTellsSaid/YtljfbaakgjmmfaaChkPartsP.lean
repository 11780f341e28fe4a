/- Parts of one list, plain: what they make. -/
import Derived.Test.YtljfbaakgjmmfaaChkKnown
namespace Go.Proofs.Ytljfbaakgjmmfaa
open Go.RowKit Go.ChangeShapes
set_option maxRecDepth 20000
set_option linter.unusedVariables false
set_option linter.unusedSimpArgs false
def allR (i : Nat) : Rq := ⟨((i % 4 : Nat) : Int) + 1, (i : Int) + 1, 1, 2, 3⟩
def dnP (i : Nat) : Dn := ⟨(i : Int) + 1, allR i, 0⟩
def badR : Rq := ⟨1, 99, 1, 9, 9⟩
def mostF (F : List Nat) : Nat := F.foldl (fun m i => max m (i + 1)) 0
theorem mostF_snoc (F : List Nat) (i : Nat) : mostF (F ++ [i]) = max (mostF F) (i + 1) := by unfold mostF; rw [List.foldl_append]; rfl
theorem mostF_lt (F : List Nat) : ∀ i ∈ F, i < mostF F := by
  suffices h : ∀ (F : List Nat) (m : Nat), m ≤ F.foldl (fun m i => max m (i + 1)) m ∧ ∀ i ∈ F, i < F.foldl (fun m i => max m (i + 1)) m from fun i hi => (h F 0).2 i hi
  intro F
  induction F with
  | nil => exact fun m => ⟨Nat.le_refl _, fun i hi => by cases hi⟩
  | cons a F ih =>
    intro m
    rw [List.foldl_cons]
    obtain ⟨h1, h2⟩ := ih (max m (a + 1))
    refine ⟨by omega, fun i hi => ?_⟩
    rcases List.mem_cons.1 hi with rfl | hi
    · omega
    · exact h2 i hi
theorem mostF_le (F : List Nat) (k : Nat) (h : ∀ i ∈ F, i < k) : mostF F ≤ k := by
  suffices h : ∀ (F : List Nat) (m : Nat), m ≤ k → (∀ i ∈ F, i < k) → F.foldl (fun m i => max m (i + 1)) m ≤ k from h F 0 (Nat.zero_le _) ‹_›
  intro F
  induction F with
  | nil => exact fun m hm _ => hm
  | cons a F ih =>
    intro m hm hF
    rw [List.foldl_cons]
    have := hF a List.mem_cons_self
    exact ih _ (by omega) (fun i hi => hF i (List.mem_cons_of_mem _ hi))
def cntF (F : List Nat) (N : Nat) : Nat := (List.range N).countP fun i => F.contains i
theorem cntF_snoc (F : List Nat) (i N : Nat) : cntF (F ++ [i]) N = cntF F N + (if i < N ∧ ¬ i ∈ F then 1 else 0) := by
  induction N with
  | zero => simp [cntF]
  | succ N ih =>
    unfold cntF at ih ⊢
    rw [List.range_succ, List.countP_append, List.countP_append, ih]
    simp only [List.countP_singleton, List.contains_eq_mem, List.mem_append, List.mem_singleton, decide_eq_true_eq]
    by_cases h1 : N = i
    · subst h1
      by_cases h2 : N ∈ F
      · simp [h2]
      · simp [h2]
    · by_cases h2 : N ∈ F
      · have e : (i < N + 1 ∧ ¬ i ∈ F) ↔ (i < N ∧ ¬ i ∈ F) := by
          constructor
          · rintro ⟨a, b⟩; exact ⟨by omega, b⟩
          · rintro ⟨a, b⟩; exact ⟨by omega, b⟩
        simp only [h2, true_or, if_true, e]
        split <;> omega
      · have e : (i < N + 1 ∧ ¬ i ∈ F) ↔ (i < N ∧ ¬ i ∈ F) := by
          constructor
          · rintro ⟨a, b⟩; exact ⟨by omega, b⟩
          · rintro ⟨a, b⟩; exact ⟨by omega, b⟩
        simp only [h2, h1, or_self, if_false, e]
        split <;> omega
theorem cntF_over (F : List Nat) (M : Nat) (h : ∀ i ∈ F, i < M) (d : Nat) : cntF F (M + d) = cntF F M := by
  induction d with
  | zero => rfl
  | succ d ih =>
    rw [← ih, ← Nat.add_assoc]
    unfold cntF
    rw [List.range_succ, List.countP_append]
    have : ¬ (M + d) ∈ F := fun hm => by have := h _ hm; omega
    simp [this]
def gapTo (F : List Nat) (j : Nat) : Bool := (List.range j).any fun i => !F.contains i
theorem gapTo_succ (F : List Nat) (j : Nat) : gapTo F (j + 1) = (gapTo F j || !F.contains j) := by
  unfold gapTo; rw [List.range_succ, List.any_append]; simp
theorem cnt_gap (F : List Nat) (M : Nat) : cntF F M = M ↔ gapTo F M = false := by
  have h1 : cntF F M = M ↔ cntF F M = (List.range M).length := by rw [List.length_range]
  rw [h1]
  unfold cntF gapTo
  rw [List.countP_eq_length, List.any_eq_false]
  constructor
  · intro h i hi; simp [h i hi]; have := h i hi; simpa using this
  · intro h i hi; have := h i hi; simpa using this
structure GInv (g : Int → Option Rq) (m : Int) (n : Nat) (F : List Nat) : Prop where
  g1 : ∀ i : Nat, i ∈ F → g ((i : Int) + 1) = some (allR i)
  g0 : ∀ i : Nat, ¬ i ∈ F → g ((i : Int) + 1) = none
  m1 : m = (mostF F : Int)
  n1 : n = cntF F 12
  l : ∀ i ∈ F, i < 12
theorem GInv.nil : GInv (fun _ => none) 0 0 [] := ⟨fun i hi => (by cases hi), fun i _ => rfl, rfl, by decide, fun i hi => (by cases hi)⟩
theorem GInv.step {g : Int → Option Rq} {m : Int} {n : Nat} {F : List Nat} (h : GInv g m n F) (i : Nat) (hi : i < 12) : GInv (updR g ((i : Int) + 1) (allR i)) (max m ((i : Int) + 1)) (if g ((i : Int) + 1) = none then n + 1 else n) (F ++ [i]) := by
  refine ⟨fun j hj => ?_, fun j hj => ?_, ?_, ?_, fun j hj => ?_⟩
  · unfold updR
    by_cases e : j = i
    · subst e; rw [if_pos rfl]
    · rw [if_neg (by omega)]
      exact h.g1 j (by simpa [e] using hj)
  · unfold updR
    have e : ¬ j = i := fun e => hj (by simp [e])
    rw [if_neg (by omega)]
    exact h.g0 j (fun hm => hj (by simp [hm]))
  · rw [mostF_snoc, h.m1]; omega
  · rw [cntF_snoc]
    by_cases hm : i ∈ F
    · rw [h.g1 i hm, if_neg (by simp), if_neg (by simp [hm])]; exact h.n1
    · rw [h.g0 i hm, if_pos rfl, if_pos ⟨hi, hm⟩, h.n1]
  · rcases List.mem_append.1 hj with hj | hj
    · exact h.l j hj
    · rw [List.mem_singleton.1 hj]; exact hi
theorem run_part (q : List Nat) : ∀ (F : List Nat) (g : Int → Option Rq) (m : Int) (n : Nat) (last : Int), GInv g m n F → (∀ i ∈ q, i < 12 ∧ last < (i : Int) + 1) → q.Pairwise (· < ·) → ∃ g' m' n', runF g m n last (q.map dnP) = some (g', m', n') ∧ GInv g' m' n' (F ++ q) := by
  induction q with
  | nil => exact fun F g m n last h _ _ => ⟨g, m, n, rfl, by rw [List.append_nil]; exact h⟩
  | cons i q ih =>
    intro F g m n last h hq hp
    obtain ⟨hi, hl⟩ := hq i List.mem_cons_self
    have hp2 := List.pairwise_cons.1 hp
    have hb : badD g last (dnP i) = false := by
      unfold badD dnP
      by_cases hm : i ∈ F
      · simp only [h.g1 i hm, Rq.eqb_self]
        simp; omega
      · simp only [h.g0 i hm]
        simp; omega
    obtain ⟨g', m', n', h1, h2⟩ := ih (F ++ [i]) _ _ _ ((i : Int) + 1) (h.step i hi) (fun j hj => ⟨(hq j (List.mem_cons_of_mem _ hj)).1, by have := hp2.1 j hj; omega⟩) hp2.2
    refine ⟨g', m', n', ?_, by rw [List.append_assoc] at h2; exact h2⟩
    rw [List.map_cons, runF, if_neg (by rw [hb]; decide)]
    exact h1
/-- Each part goes up. -/
def GoodP (k : Nat) (ps : List (List Nat)) : Prop := ∀ q ∈ ps, (∀ i ∈ q, i < k) ∧ q.Pairwise (· < ·)
def dnsP (ps : List (List Nat)) : List (List Dn) := ps.map fun q => q.map dnP
theorem tot_parts (ps : List (List Nat)) : ∀ (F : List Nat) (g : Int → Option Rq) (m : Int) (n : Nat), GInv g m n F → GoodP 12 ps → ∃ g' m' n', GInv g' m' n' (F ++ ps.flatten) ∧ ∀ rest, totF g m n (dnsP ps ++ rest) = totF g' m' n' rest := by
  induction ps with
  | nil => exact fun F g m n h _ => ⟨g, m, n, by simpa using h, fun rest => rfl⟩
  | cons q ps ih =>
    intro F g m n h hg
    obtain ⟨g1, m1, n1, h1, h2⟩ := run_part q F g m n 0 h (fun i hi => ⟨(hg q List.mem_cons_self).1 i hi, by omega⟩) (hg q List.mem_cons_self).2
    obtain ⟨g2, m2, n2, h3, h4⟩ := ih (F ++ q) g1 m1 n1 h2 (fun q' hq' => hg q' (List.mem_cons_of_mem _ hq'))
    refine ⟨g2, m2, n2, by rw [List.flatten_cons, ← List.append_assoc]; exact h3, fun rest => ?_⟩
    show totF g m n (q.map dnP :: (dnsP ps ++ rest)) = _
    rw [totF, h1]
    exact h4 rest
theorem fin_parts {g : Int → Option Rq} {m : Int} {n : Nat} {F : List Nat} (h : GInv g m n F) : totF g m n [] = if gapTo F (mostF F) = true then none else some ((List.range (mostF F)).map allR) := by
  show finF g m n = _
  have hc : n = cntF F (mostF F) := by
    rw [h.n1, ← cntF_over F (mostF F) (mostF_lt F) (12 - mostF F)]
    have := mostF_le F 12 h.l
    rw [show mostF F + (12 - mostF F) = 12 by omega]
  have hcg := cnt_gap F (mostF F)
  unfold finF
  rw [h.m1]
  by_cases hg : gapTo F (mostF F) = true
  · rw [if_pos hg, if_neg (by
      rw [hc]
      intro e
      have := hcg.1 (by omega)
      rw [hg] at this; cases this)]
  · have hg2 : gapTo F (mostF F) = false := by simpa using hg
    rw [if_neg hg, if_pos (by rw [hc, hcg.2 hg2])]
    congr 1
    rw [Int.toNat_natCast]
    apply List.map_congr_left
    intro i hi
    have hi2 : i ∈ F := by
      unfold gapTo at hg2
      rw [List.any_eq_false] at hg2
      have := hg2 i hi
      simpa using this
    rw [h.g1 i hi2]; rfl
theorem tot_good {ps : List (List Nat)} (hg : GoodP 12 ps) : totF (fun _ => none) 0 0 (dnsP ps) = if gapTo ps.flatten (mostF ps.flatten) = true then none else some ((List.range (mostF ps.flatten)).map allR) := by
  obtain ⟨g, m, n, h1, h2⟩ := tot_parts ps [] _ _ _ GInv.nil hg
  have := h2 []
  rw [List.append_nil] at this
  rw [this, fin_parts h1]
  rfl
theorem tot_spoilt {ps : List (List Nat)} (hg : GoodP 12 ps) (s : Nat) (hs : s < mostF ps.flatten) (hgap : gapTo ps.flatten (mostF ps.flatten) = false) (x : Int) : totF (fun _ => none) 0 0 (dnsP ps ++ [[⟨(s : Int) + 1, badR, x⟩]]) = none := by
  obtain ⟨g, m, n, h1, h2⟩ := tot_parts ps [] _ _ _ GInv.nil hg
  rw [h2]
  have hi2 : s ∈ [] ++ ps.flatten := by
    unfold gapTo at hgap
    rw [List.any_eq_false] at hgap
    have := hgap s (List.mem_range.2 hs)
    simpa using this
  have hl := h1.l s hi2
  have hb : badD g 0 ⟨(s : Int) + 1, badR, x⟩ = true := by
    unfold badD
    dsimp only
    rw [h1.g1 s hi2]
    have : (allR s).eqb badR = false := by
      cases e : (allR s).eqb badR with
      | false => rfl
      | true =>
        have := congrArg Rq.t ((Rq.eqb_iff _ _).1 e)
        simp only [allR, badR] at this
        omega
    simp [this]
  rw [totF, runF, if_pos hb]
theorem GoodP.snoc {k : Nat} {ps : List (List Nat)} {q : List Nat} {i : Nat} (h : GoodP k (ps ++ [q])) (hi : i < k) (hq : ∀ j ∈ q, j < i) : GoodP k (ps ++ [q ++ [i]]) := fun r hr => by
  rcases List.mem_append.1 hr with hr | hr
  · exact h r (List.mem_append_left _ hr)
  · rw [List.mem_singleton.1 hr]
    obtain ⟨h1, h2⟩ := h q (List.mem_append_right _ (List.mem_singleton.2 rfl))
    refine ⟨fun j hj => ?_, ?_⟩
    · rcases List.mem_append.1 hj with hj | hj
      · exact h1 j hj
      · rw [List.mem_singleton.1 hj]; exact hi
    · rw [List.pairwise_append]
      exact ⟨h2, List.pairwise_singleton _ _, fun a ha b hb => by rw [List.mem_singleton.1 hb]; exact hq a ha⟩
theorem GoodP.begin {k : Nat} {ps : List (List Nat)} (h : GoodP k ps) : GoodP k (ps ++ [[]]) := fun r hr => by
  rcases List.mem_append.1 hr with hr | hr
  · exact h r hr
  · rw [List.mem_singleton.1 hr]; exact ⟨fun i hi => (by cases hi), List.Pairwise.nil⟩
theorem GoodP.up {k m : Nat} {ps : List (List Nat)} (h : GoodP k ps) (hk : k ≤ m) : GoodP m ps := fun q hq => ⟨fun i hi => Nat.lt_of_lt_of_le ((h q hq).1 i hi) hk, (h q hq).2⟩
theorem GoodP.lt {k : Nat} {ps : List (List Nat)} (h : GoodP k ps) : ∀ i ∈ ps.flatten, i < k := fun i hi => by
  obtain ⟨q, hq, hi⟩ := List.mem_flatten.1 hi
  exact (h q hq).1 i hi
theorem flat_snoc (ps : List (List Nat)) (q : List Nat) (i : Nat) : (ps ++ [q ++ [i]]).flatten = (ps ++ [q]).flatten ++ [i] := by simp
theorem flat_begin (ps : List (List Nat)) : (ps ++ [[]]).flatten = ps.flatten := by simp
def covC (F : List Nat) : List Value := (List.range 12).map fun i => .bool (F.contains i)
theorem covC_at (F : List Nat) (i : Nat) (hi : i < 12) : (covC F)[i]? = some (.bool (F.contains i)) := by
  unfold covC; rw [List.getElem?_map, List.getElem?_range hi]; rfl
theorem covC_set (F : List Nat) (i : Nat) (hi : i < 12) : (covC F).set i (.bool true) = covC (F ++ [i]) := by
  apply List.ext_getElem?
  intro j
  rw [List.getElem?_set]
  by_cases hj : j < 12
  · rw [covC_at _ j hj, covC_at _ j hj]
    by_cases e : i = j
    · subst e; rw [if_pos rfl, if_pos (by simp [covC]; exact hi)]; simp
    · rw [if_neg e]
      have : (F ++ [i]).contains j = F.contains j := by
        simp only [List.contains_eq_mem, List.mem_append, List.mem_singleton]
        have : ¬ j = i := fun h => e h.symm
        simp [this]
      rw [this]
  · rw [List.getElem?_eq_none (by simp [covC]; omega), List.getElem?_eq_none (by simp [covC]; omega)]
    rw [if_neg (by omega)]
end Go.Proofs.Ytljfbaakgjmmfaa
