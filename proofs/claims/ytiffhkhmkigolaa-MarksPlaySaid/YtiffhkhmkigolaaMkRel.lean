/- Marks, plainly: the document's list and each replica's marks. -/
import Derived.Test.YtiffhkhmkigolaaRmk2
import Derived.Test.YtiffhkhmkigolaaRmk3
namespace Go.Proofs.Ytiffhkhmkigolaa
open Go.RowKit Go.ChangeShapes
set_option linter.unusedVariables false
set_option linter.unusedSimpArgs false
set_option maxRecDepth 100000
structure Rel (H : Nat → List Mk) (Ls : List Sa) : Prop where
  fr : ∀ s ∈ Ls, ∃ i : Nat, i < 4 ∧ s.1 = i
  mem : ∀ i : Nat, i < 4 → ∀ m, m ∈ H i ↔ ((i : Int), m) ∈ Ls
  nd : Ls.Nodup
theorem Rel.zero : Rel H0 [] := ⟨fun s h => absurd h (by simp), fun i _ m => by simp [H0], List.nodup_nil⟩
def cI (Ls : List Sa) (m : Mk) (i : Nat) : Nat := Ls.countP fun s => decide (s = ((i : Int), m))
theorem cI_mem (m : Mk) (i : Nat) : ∀ Ls : List Sa, Ls.Nodup → cI Ls m i = if ((i : Int), m) ∈ Ls then 1 else 0
  | [], _ => by simp [cI]
  | s :: l, h => by
    obtain ⟨h1, h2⟩ := List.nodup_cons.1 h
    have ih := cI_mem m i l h2
    unfold cI at *
    rw [List.countP_cons, ih]
    by_cases e : s = ((i : Int), m)
    · rw [if_neg (by rw [← e]; exact h1), if_pos (decide_eq_true e), if_pos (by rw [e]; exact List.mem_cons_self ..)]
    · have e3 : (if decide (s = ((i : Int), m)) = true then 1 else 0) = (0 : Nat) := if_neg (by rw [decide_eq_false e]; decide)
      rw [e3, Nat.add_zero]
      by_cases e2 : ((i : Int), m) ∈ l
      · rw [if_pos e2, if_pos (List.mem_cons_of_mem _ e2)]
      · rw [if_neg e2, if_neg (fun h => (List.mem_cons.1 h).elim (fun h => e h.symm) e2)]
def zI (but : Int) (i c : Nat) : Nat := if (i : Int) = but then 0 else c
theorem cntA_sum (m : Mk) (but : Int) : ∀ Ls : List Sa, (∀ s ∈ Ls, ∃ i : Nat, i < 4 ∧ s.1 = i) → cntA Ls m but = zI but 0 (cI Ls m 0) + zI but 1 (cI Ls m 1) + zI but 2 (cI Ls m 2) + zI but 3 (cI Ls m 3)
  | [], _ => by simp [cntA, cI, zI]
  | s :: l, h => by
    have ih := cntA_sum m but l fun s hs => h s (List.mem_cons_of_mem _ hs)
    obtain ⟨i, hi, hs⟩ := h s (List.mem_cons_self ..)
    obtain ⟨sf, sm⟩ := s
    dsimp only at hs
    subst hs
    have key : ∀ j : Nat, cI (((i : Int), sm) :: l) m j = cI l m j + if j = i ∧ sm = m then 1 else 0 := fun j => by
      unfold cI
      rw [List.countP_cons]
      congr 1
      by_cases e : j = i ∧ sm = m
      · rw [if_pos e, if_pos (decide_eq_true (by rw [e.1, e.2]))]
      · rw [if_neg e, if_neg (by rw [decide_eq_true_iff]; intro e2; injection e2 with e3 e4; exact e ⟨by omega, e4⟩)]
    have key2 : cntA (((i : Int), sm) :: l) m but = cntA l m but + if sm = m ∧ ¬ (i : Int) = but then 1 else 0 := by
      unfold cntA
      rw [List.countP_cons]
      congr 1
      have hh : hitA m but ((i : Int), sm) ↔ (sm = m ∧ ¬ (i : Int) = but) := ⟨fun h => ⟨Prod.ext h.1.1 h.1.2, h.2⟩, fun h => ⟨⟨by rw [h.1], by rw [h.1]⟩, h.2⟩⟩
      by_cases e : sm = m ∧ ¬ (i : Int) = but
      · rw [if_pos e, if_pos (decide_eq_true (hh.2 e))]
      · rw [if_neg e, if_neg (by rw [decide_eq_true_iff]; exact fun h => e (hh.1 h))]
    rw [key2, ih, key, key, key, key]
    unfold zI
    rcases (show i = 0 ∨ i = 1 ∨ i = 2 ∨ i = 3 by omega) with rfl | rfl | rfl | rfl <;> by_cases e1 : sm = m <;> simp [e1] <;> (repeat' split) <;> omega
theorem Rel.count {H : Nat → List Mk} {Ls : List Sa} (h : Rel H Ls) (m : Mk) (but : Int) : (cntA Ls m but : Int) = cntB (St H m) but := by
  rw [cntA_sum m but Ls h.fr, cI_mem m 0 Ls h.nd, cI_mem m 1 Ls h.nd, cI_mem m 2 Ls h.nd, cI_mem m 3 Ls h.nd]
  have hb : ∀ i : Nat, i < 4 → St H m i = decide (((i : Int), m) ∈ Ls) := fun i hi => decide_eq_decide.2 (h.mem i hi m)
  have hz : ∀ i : Nat, i < 4 → ((zI but i (if ((i : Int), m) ∈ Ls then 1 else 0) : Nat) : Int) = if St H m i = true ∧ ¬ (i : Int) = but then 1 else 0 := fun i hi => by
    rw [hb i hi]
    unfold zI
    by_cases e1 : (i : Int) = but <;> by_cases e2 : ((i : Int), m) ∈ Ls <;> simp [e1, e2]
  have h0 := hz 0 (by decide); have h1 := hz 1 (by decide); have h2 := hz 2 (by decide); have h3 := hz 3 (by decide)
  show _ = pc (St H m) but 4
  unfold pc pc pc pc pc
  rw [← h0, ← h1, ← h2, ← h3]
  omega
theorem top_spec (F : Int) : ∀ (Ls : List Sa) (a : Int), a ≤ Ls.foldl (topF F) a ∧ (∀ s ∈ Ls, s.1 = F → s.2.1 ≤ Ls.foldl (topF F) a) ∧ (Ls.foldl (topF F) a = a ∨ ∃ s ∈ Ls, s.1 = F ∧ s.2.1 = Ls.foldl (topF F) a)
  | [], a => ⟨Int.le_refl _, fun s h => absurd h (by simp), .inl rfl⟩
  | s :: l, a => by
    obtain ⟨h1, h2, h3⟩ := top_spec F l (topF F a s)
    rw [List.foldl_cons]
    have ha : a ≤ topF F a s := by unfold topF; split <;> omega
    refine ⟨by omega, fun x hx hxF => ?_, ?_⟩
    · rcases List.mem_cons.1 hx with e | e
      · subst e
        have : x.2.1 ≤ topF F a x := by unfold topF; rw [if_pos hxF]; omega
        omega
      · exact h2 x e hxF
    · rcases h3 with h3 | ⟨x, hx, hxF, he⟩
      · by_cases e : topF F a s = a
        · exact .inl (h3.trans e)
        · refine .inr ⟨s, List.mem_cons_self .., ?_⟩
          unfold topF at e ⊢
          by_cases e2 : s.1 = F
          · refine ⟨e2, ?_⟩
            have h3' := h3
            unfold topF at h3'
            rw [if_pos e2] at e h3'
            unfold topF at *
            simp only [if_pos e2] at *
            omega
          · rw [if_neg e2] at e; exact absurd rfl e
      · exact .inr ⟨x, List.mem_cons_of_mem _ hx, hxF, he⟩
theorem Rel.top {H : Nat → List Mk} {Ls : List Sa} (h : Rel H Ls) (hH : OkH H) (n : Nat) (hn : n < 4) : topA Ls n = sq (H n) 0 := by
  obtain ⟨h1, h2, h3⟩ := top_spec (n : Int) Ls 0
  change topA Ls n = 0 ∨ _ at h3
  change 0 ≤ topA Ls n at h1
  have hm : ∀ s ∈ Ls, s.1 = (n : Int) → s.2 ∈ H n := fun s hs e => (h.mem n hn s.2).2 (by rw [← e]; exact hs)
  cases hH2 : H n with
  | nil =>
    show _ = (0 : Int)
    rcases h3 with h3 | ⟨s, hs, hsF, _⟩
    · exact h3
    · have := hm s hs hsF; rw [hH2] at this; exact absurd this (by simp)
  | cons x l =>
    show _ = x.1
    have hx : x ∈ H n := by rw [hH2]; exact List.mem_cons_self ..
    have hle := h2 _ ((h.mem n hn x).1 hx) rfl
    change x.1 ≤ topA Ls n at hle
    have hx0 := (hH.ok n hn x hx).1.1
    rcases h3 with h3 | ⟨s, hs, hsF, he⟩
    · omega
    · have h4 := hm s hs hsF
      rw [hH2] at h4
      change s.2.1 = topA Ls n at he
      rcases List.mem_cons.1 h4 with e | e
      · rw [← he, e]
      · have hd := hH.down n hn
        rw [hH2] at hd
        have := (List.pairwise_cons.1 hd).1 _ e
        omega
theorem Rel.top_big {H : Nat → List Mk} {Ls : List Sa} (h : Rel H Ls) (F : Int) (hF : 4 ≤ F) : topA Ls F = 0 := by
  obtain ⟨_, _, h3⟩ := top_spec F Ls 0
  rcases h3 with h3 | ⟨s, hs, hsF, _⟩
  · exact h3
  · obtain ⟨i, hi, he⟩ := h.fr s hs; omega
theorem nodup_leS : ∀ (l h : List Sa), l.Nodup → (∀ m, m ∈ l → m ∈ h) → l.length ≤ h.length := by
  intro l
  induction l with
  | nil => intro h _ _; exact Nat.zero_le _
  | cons a l ih =>
    intro h hn hs
    obtain ⟨h1, h2⟩ := List.nodup_cons.1 hn
    have ha := hs a (List.mem_cons_self ..)
    have := ih (h.erase a) h2 fun m hm => (List.mem_erase_of_ne (fun e => h1 (by rw [← e]; exact hm))).2 (hs m (List.mem_cons_of_mem _ hm))
    rw [List.length_erase_of_mem ha] at this
    have hp : 0 < h.length := List.length_pos_of_mem ha
    rw [List.length_cons]; omega
theorem Rel.cF {H : Nat → List Mk} {Ls : List Sa} (h : Rel H Ls) (hH : OkH H) (n : Nat) (hn : n < 4) : cF Ls n = (H n).length := by
  have hnd : (H n).Nodup := (hH.down n hn).imp (fun hab e => by rw [e] at hab; omega)
  unfold Go.Proofs.Ytiffhkhmkigolaa.cF
  rw [List.countP_eq_length_filter]
  have hm2 : ((H n).map fun m => ((n : Int), m)).length = (H n).length := List.length_map ..
  rw [← hm2]
  refine Nat.le_antisymm (nodup_leS _ _ (h.nd.sublist List.filter_sublist) fun s hs => ?_) (nodup_leS _ _ ?_ fun s hs => ?_)
  · obtain ⟨h1, h2⟩ := List.mem_filter.1 hs
    have e := of_decide_eq_true h2
    exact List.mem_map.2 ⟨s.2, (h.mem n hn s.2).2 (by rw [← e]; exact h1), by rw [← e]⟩
  · exact hnd.map _ (fun a b hab e => hab (by injection e))
  · obtain ⟨m, hm, rfl⟩ := List.mem_map.1 hs
    exact List.mem_filter.2 ⟨(h.mem n hn m).1 hm, decide_eq_true rfl⟩
theorem len_sum : ∀ Ls : List Sa, (∀ s ∈ Ls, ∃ i : Nat, i < 4 ∧ s.1 = i) → Ls.length = cF Ls (0 : Nat) + cF Ls (1 : Nat) + cF Ls (2 : Nat) + cF Ls (3 : Nat)
  | [], _ => rfl
  | s :: l, h => by
    have ih := len_sum l fun s hs => h s (List.mem_cons_of_mem _ hs)
    obtain ⟨i, hi, hs⟩ := h s (List.mem_cons_self ..)
    have key : ∀ j : Nat, cF (s :: l) j = cF l j + if j = i then 1 else 0 := fun j => by
      unfold cF
      rw [List.countP_cons]
      congr 1
      by_cases e : j = i
      · rw [if_pos e, if_pos (decide_eq_true (by rw [hs, e]))]
      · rw [if_neg e, if_neg (by rw [decide_eq_true_iff]; omega)]
    rw [List.length_cons, ih, key, key, key, key]
    rcases (show i = 0 ∨ i = 1 ∨ i = 2 ∨ i = 3 by omega) with rfl | rfl | rfl | rfl <;> simp <;> omega
theorem Rel.len {H : Nat → List Mk} {Ls : List Sa} (h : Rel H Ls) (hH : OkH H) : Ls.length = sum4 fun i => (H i).length := by
  rw [len_sum Ls h.fr, h.cF hH 0 (by decide), h.cF hH 1 (by decide), h.cF hH 2 (by decide), h.cF hH 3 (by decide)]; rfl
theorem Rel.few {H : Nat → List Mk} {Ls : List Sa} (h : Rel H Ls) (hH : OkH H) : Ls.length ≤ 900 := by
  rw [h.len hH]
  have h0 := hH.two 0 (by decide); have h1 := hH.two 1 (by decide); have h2 := hH.two 2 (by decide); have h3 := hH.two 3 (by decide)
  simp only [sum4]; omega
theorem Rel.drop {H : Nat → List Mk} {Ls : List Sa} (h : Rel H Ls) (low : Int) : Rel (dropH low H) (Ls.filter fun s : Sa => decide (low ≤ s.2.1)) :=
  ⟨fun s hs => h.fr s (List.mem_filter.1 hs).1, fun i hi m => by unfold dropH; rw [List.mem_filter, List.mem_filter, h.mem i hi m], h.nd.sublist List.filter_sublist⟩
theorem Rel.forget {H : Nat → List Mk} {Ls : List Sa} (h : Rel H Ls) (n : Nat) : Rel (forgH H n) (Ls.filter fun s : Sa => !decide (s.1 = (n : Int))) :=
  ⟨fun s hs => h.fr s (List.mem_filter.1 hs).1, fun i hi m => by
    rw [List.mem_filter]
    unfold forgH updH
    by_cases e : i = n
    · rw [if_pos e]
      constructor
      · intro hx; simp at hx
      · rintro ⟨_, h2⟩; rw [show (((i : Int), m) : Sa).1 = (n : Int) from congrArg Int.ofNat e, decide_eq_true rfl] at h2; exact absurd h2 (by decide)
    · rw [if_neg e, h.mem i hi m]
      exact ⟨fun h1 => ⟨h1, by rw [decide_eq_false (show ¬ (i : Int) = n by omega)]; rfl⟩, fun h1 => h1.1⟩, h.nd.sublist List.filter_sublist⟩
theorem Rel.forget_big {H : Nat → List Mk} {Ls : List Sa} (h : Rel H Ls) (F : Int) (hF : 4 ≤ F) : (Ls.filter fun s : Sa => !decide (s.1 = F)) = Ls := by
  refine List.filter_eq_self.2 fun s hs => ?_
  obtain ⟨i, hi, he⟩ := h.fr s hs
  rw [decide_eq_false (by omega)]; rfl
theorem mem_set_nd {l : List Sa} (hn : l.Nodup) {j : Nat} {x v y : Sa} (hj : l[j]? = some x) : y ∈ l.set j v ↔ y = v ∨ (y ∈ l ∧ y ≠ x) := by
  have hjl := (List.getElem?_eq_some_iff.1 hj).1
  constructor
  · intro h
    obtain ⟨p, hp⟩ := List.mem_iff_getElem?.1 h
    rw [List.getElem?_set] at hp
    by_cases e : j = p
    · rw [if_pos e, if_pos (by omega)] at hp; exact .inl (Option.some.inj hp).symm
    · rw [if_neg e] at hp
      refine .inr ⟨List.mem_of_getElem? hp, fun e2 => e ?_⟩
      obtain ⟨h1, h2⟩ := List.getElem?_eq_some_iff.1 hj
      obtain ⟨h3, h4⟩ := List.getElem?_eq_some_iff.1 hp
      exact (List.getElem_inj hn).1 (by rw [h2, h4, e2])
  · rintro (h | ⟨h1, h2⟩)
    · rw [h]; exact List.mem_of_getElem? (i := j) (by rw [List.getElem?_set, if_pos rfl, if_pos hjl])
    · obtain ⟨p, hp⟩ := List.mem_iff_getElem?.1 h1
      refine List.mem_of_getElem? (i := p) ?_
      rw [List.getElem?_set, if_neg (fun e => h2 (by rw [← e, hj] at hp; exact (Option.some.inj hp).symm))]
      exact hp
theorem Rel.add {H : Nat → List Mk} {Ls Ls' : List Sa} (h : Rel H Ls) (hH : OkH H) (n : Nat) (hn : n < 4) (m : Mk) {z : Bool} (hq : AddQ Ls n m z Ls') : z = !hasS m.1 (H n) ∧ Rel (addH H n m) Ls' := by
  have hmem : ∀ s ∈ Ls, s.1 = (n : Int) → s.2 ∈ H n := fun s hs e => (h.mem n hn s.2).2 (by rw [← e]; exact hs)
  cases z
  · obtain ⟨rfl, x, hx, hxF, hxs⟩ := hq.dup rfl
    have hS : hasS m.1 (H n) = true := List.any_eq_true.2 ⟨x.2, hmem x hx hxF, beq_iff_eq.2 hxs⟩
    refine ⟨by rw [hS]; rfl, ?_⟩
    unfold addH
    rw [if_pos hS]; exact h
  · obtain ⟨hno, hcase⟩ := hq.new rfl
    have hS : hasS m.1 (H n) = false := hasS_no fun j x hj hx => beq_eq_false_iff_ne.2 (hno _ ((h.mem n hn x).1 (List.mem_of_getElem? hx)) rfl)
    have hnew : ((n : Int), m) ∉ Ls := fun e => hno _ e rfl rfl
    refine ⟨by rw [hS]; rfl, ?_⟩
    unfold addH
    rw [if_neg (by rw [hS]; decide)]
    rcases hcase with ⟨hc, rfl⟩ | ⟨hc, j, x, hj, hxF, hmin, hcase⟩
    · rw [h.cF hH n hn] at hc
      have hadd : addL m (H n) = insS m (H n) := List.take_of_length_le (by rw [insS_len]; omega)
      refine ⟨fun s hs => ?_, fun i hi y => ?_, ?_⟩
      · rcases List.mem_append.1 hs with e | e
        · exact h.fr s e
        · rw [List.mem_singleton.1 e]; exact ⟨n, hn, rfl⟩
      · rw [List.mem_append, List.mem_singleton, ← h.mem i hi y]
        unfold updH
        by_cases e : i = n
        · subst e
          rw [if_pos rfl, hadd, insS_mem]
          constructor
          · rintro (e | e)
            · exact .inr (by rw [e])
            · exact .inl e
          · rintro (e | e)
            · exact .inr e
            · injection e with _ e2; exact .inl e2
        · rw [if_neg e]
          exact ⟨.inl, fun h1 => h1.resolve_right fun e2 => by injection e2 with e3 _; exact e (by omega)⟩
      · exact List.nodup_append.2 ⟨h.nd, by simp, fun a ha b hb => by rw [List.mem_singleton] at hb; rintro rfl; exact hnew (hb ▸ ha)⟩
    · rw [h.cF hH n hn] at hc
      have h2 := hH.two n hn
      obtain ⟨a, b, hab⟩ : ∃ a b, H n = [a, b] := by
        match hHn : H n, (show (H n).length = 2 by omega) with
        | [a, b], _ => exact ⟨a, b, rfl⟩
        | [], e => simp at e
        | [_], e => simp at e
        | _ :: _ :: _ :: _, e => simp at e
      have hd := hH.down n hn
      rw [hab] at hd
      have hba : b.1 < a.1 := (List.pairwise_cons.1 hd).1 b (by simp)
      have hxb : x = ((n : Int), b) := by
        have h3 := hmem x (List.mem_of_getElem? hj) hxF
        have h4 := hmin _ ((h.mem n hn b).1 (by rw [hab]; simp)) rfl
        rw [hab] at h3
        simp at h3
        rcases h3 with e | e
        · rw [e] at h4; change a.1 ≤ b.1 at h4; omega
        · exact Prod.ext hxF e
      subst hxb
      have hne : ∀ y ∈ [a, b], y.1 ≠ m.1 := fun y hy => hasS_not hS (hab ▸ hy)
      have ha1 := hne a (by simp); have hb1 := hne b (by simp)
      rcases hcase with ⟨hlt, rfl⟩ | ⟨hge, rfl⟩
      · have hadd : ∀ y, y ∈ addL m (H n) ↔ y = m ∨ y = a := fun y => by
          rw [hab]
          change b.1 < m.1 at hlt
          by_cases e : a.1 < m.1
          · simp [addL, insS, e]
          · simp [addL, insS, e, hlt, or_comm]
        have hnb : ∀ y, y ∈ H n ∧ y ≠ b ↔ y = a := fun y => by
          rw [hab]
          have hab2 : a ≠ b := fun e => by rw [e] at hba; omega
          constructor
          · rintro ⟨h1, h2⟩; simp at h1; exact h1.resolve_right h2
          · rintro rfl; exact ⟨by simp, hab2⟩
        refine ⟨fun s hs => ?_, fun i hi y => ?_, ?_⟩
        · rcases (mem_set_nd h.nd hj).1 hs with e | e
          · rw [e]; exact ⟨n, hn, rfl⟩
          · exact h.fr s e.1
        · rw [mem_set_nd h.nd hj, ← h.mem i hi y]
          unfold updH
          by_cases e : i = n
          · subst e
            rw [if_pos rfl, hadd, ← hnb]
            constructor
            · rintro (e | e)
              · exact .inl (by rw [e])
              · exact .inr ⟨e.1, fun e2 => e.2 (by injection e2)⟩
            · rintro (e | e)
              · injection e with _ e2; exact .inl e2
              · exact .inr ⟨e.1, fun e2 => e.2 (by rw [e2])⟩
          · rw [if_neg e]
            constructor
            · exact fun h1 => .inr ⟨h1, fun e2 => by injection e2 with e3 _; exact e (by omega)⟩
            · rintro (e2 | e2)
              · injection e2 with e3 _; exact absurd (by omega) e
              · exact e2.1
        · refine List.nodup_iff_pairwise_ne.2 (List.pairwise_iff_getElem.2 fun p q hp hq hpq => ?_)
          rw [List.length_set] at hp hq
          rw [List.getElem_set, List.getElem_set]
          have key := List.pairwise_iff_getElem.1 (List.nodup_iff_pairwise_ne.1 h.nd)
          by_cases e1 : j = p
          · rw [if_pos e1, if_neg (by omega)]
            exact fun e => hnew (e ▸ List.getElem_mem _)
          · rw [if_neg e1]
            by_cases e2 : j = q
            · rw [if_pos e2]; exact fun e => hnew (e ▸ List.getElem_mem _)
            · rw [if_neg e2]; exact key p q hp hq hpq
      · have hsame : addL m (H n) = H n := by
          rw [hab]
          change ¬ b.1 < m.1 at hge
          have e1 : ¬ a.1 < m.1 := by omega
          simp [addL, insS, e1, hge]
        have : updH H n (addL m (H n)) = H := by
          funext i; unfold updH; split
          · rename_i e; rw [e, hsame]
          · rfl
        rw [this]; exact h
/-- Both tell the same one. -/
theorem Rel.best {H : Nat → List Mk} {Ls : List Sa} (h : Rel H Ls) {least k but : Int} {fd fd' : Bool} {b b' : Mk} (hb : BestR (St H) least k but fd b) (hb' : BestL (okA Ls least k but) Ls fd' b') : fd = fd' ∧ b = b' := by
  have to : ∀ s ∈ Ls, okA Ls least k but s.2 → okB (St H) least k but s.2 := fun s hs ho => by
    obtain ⟨i, hi, he⟩ := h.fr s hs
    refine ⟨any_of hi (decide_eq_true ((h.mem i hi s.2).2 (by rw [← he]; exact hs))), ho.1, by rw [← h.count]; exact ho.2⟩
  have of_ : ∀ m, okB (St H) least k but m → ∃ s ∈ Ls, s.2 = m ∧ okA Ls least k but m := fun m hm => by
    have ha := hm.1
    simp only [anyB, St, Bool.or_eq_true, decide_eq_true_eq] at ha
    have hk : okA Ls least k but m := ⟨hm.2.1, by rw [h.count]; exact hm.2.2⟩
    rcases ha with ha | ha | ha | ha
    · exact ⟨_, (h.mem 0 (by decide) m).1 ha, rfl, hk⟩
    · exact ⟨_, (h.mem 1 (by decide) m).1 ha, rfl, hk⟩
    · exact ⟨_, (h.mem 2 (by decide) m).1 ha, rfl, hk⟩
    · exact ⟨_, (h.mem 3 (by decide) m).1 ha, rfl, hk⟩
  cases fd
  · cases fd'
    · exact ⟨rfl, (hb.no rfl).1.trans (hb'.no rfl).1.symm⟩
    · obtain ⟨⟨⟨s, hs, rfl⟩, ho⟩, _⟩ := hb'.yes rfl
      exact absurd (to s hs ho) ((hb.no rfl).2 _)
  · obtain ⟨h1, h2⟩ := hb.yes rfl
    obtain ⟨s, hs, rfl, ho⟩ := of_ b h1
    cases fd'
    · exact absurd ho ((hb'.no rfl).2 s hs)
    · obtain ⟨⟨⟨s', hs', rfl⟩, ho'⟩, h3⟩ := hb'.yes rfl
      have h4 := h2 _ (to s' hs' ho')
      have h5 := h3 s hs ho
      unfold better at h4 h5
      refine ⟨rfl, Prod.ext ?_ ?_⟩ <;> omega
end Go.Proofs.Ytiffhkhmkigolaa
