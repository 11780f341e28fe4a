/- Marks: Add. -/
import Derived.Test.YtiffhkhmkigolaaMkCnt
namespace Go.Proofs.Ytiffhkhmkigolaa
open Go.RowKit Go.ChangeShapes
set_option linter.unusedVariables false
set_option linter.unusedSimpArgs false
set_option maxRecDepth 100000
/-- Each replica's marks, the greatest first. -/
def St (H : Nat → List Mk) : Has := fun m i => decide (m ∈ H i)
structure OkH (H : Nat → List Mk) : Prop where
  down : ∀ i, i < 4 → Down (H i)
  two : ∀ i, i < 4 → (H i).length ≤ 2
  ok : ∀ i, i < 4 → ∀ m, m ∈ H i → okK m
def updH (H : Nat → List Mk) (n : Nat) (L : List Mk) : Nat → List Mk := fun i => if i = n then L else H i
def insS (m : Mk) : List Mk → List Mk
  | [] => [m]
  | a :: l => if a.1 < m.1 then m :: a :: l else a :: insS m l
theorem insS_mem (m x : Mk) : ∀ l, x ∈ insS m l ↔ x = m ∨ x ∈ l
  | [] => by simp [insS]
  | a :: l => by
    unfold insS
    split
    · simp [List.mem_cons]
    · rw [List.mem_cons, insS_mem m x l, List.mem_cons]
      constructor
      · rintro (h | h | h)
        · exact .inr (.inl h)
        · exact .inl h
        · exact .inr (.inr h)
      · rintro (h | h | h)
        · exact .inr (.inl h)
        · exact .inl h
        · exact .inr (.inr h)
theorem insS_len (m : Mk) : ∀ l, (insS m l).length = l.length + 1
  | [] => rfl
  | a :: l => by unfold insS; split; rfl; rw [List.length_cons, insS_len m l]; rfl
theorem insS_down {m : Mk} : ∀ {l : List Mk}, Down l → hasS m.1 l = false → Down (insS m l)
  | [], _, _ => by unfold insS Down; simp
  | a :: l, h, hs => by
    obtain ⟨h1, h2⟩ := List.pairwise_cons.1 h
    have hs' : (a.1 == m.1) = false ∧ hasS m.1 l = false := by
      unfold hasS at hs; rw [List.any_cons, Bool.or_eq_false_iff] at hs; exact hs
    have hne : a.1 ≠ m.1 := fun e => by rw [e, beq_self_eq_true] at hs'; exact absurd hs'.1 (by decide)
    unfold insS
    split
    · rename_i hlt
      exact List.pairwise_cons.2 ⟨fun x hx => by
        rcases List.mem_cons.1 hx with e | e
        · rw [e]; exact hlt
        · have := h1 x e; omega, h⟩
    · rename_i hlt
      refine List.pairwise_cons.2 ⟨fun x hx => ?_, insS_down h2 hs'.2⟩
      rcases (insS_mem m x l).1 hx with e | e
      · rw [e]; omega
      · exact h1 x e
theorem hasS_not {s : Int} {l : List Mk} (h : hasS s l = false) {m : Mk} (hm : m ∈ l) : m.1 ≠ s := fun e => by
  have : hasS s l = true := List.any_eq_true.2 ⟨m, hm, by rw [e]; exact beq_self_eq_true _⟩
  rw [h] at this; exact absurd this (by decide)
/-- What Add leaves of a replica's marks. -/
def addL (m : Mk) (l : List Mk) : List Mk := (insS m l).take 2
theorem St_of {H : Nat → List Mk} (h : OkH H) (n : Nat) (hn : n < 4) : OfH (St H) n (H n) :=
  ⟨fun m => (decide_eq_true_iff).symm, h.down n hn, by have := h.two n hn; omega⟩
theorem St_ins {H : Nat → List Mk} (h : OkH H) (n : Nat) (hn : n < 4) (m : Mk) (hs : hasS m.1 (H n) = false) : OfH (updM (St H) m n true) n (insS m (H n)) := by
  refine ⟨fun x => ?_, insS_down (h.down n hn) hs, by rw [insS_len]; have := h.two n hn; omega⟩
  rw [insS_mem]
  unfold updM
  by_cases e : x = m
  · rw [if_pos ⟨e, rfl⟩]; exact ⟨fun _ => rfl, fun _ => .inl e⟩
  · rw [if_neg (fun h => e h.1)]
    exact ⟨fun h => decide_eq_true (h.resolve_left e), fun h => .inr (of_decide_eq_true h)⟩
theorem St_add2 {H : Nat → List Mk} (h : OkH H) (n : Nat) (hn : n < 4) (m : Mk) (hl : (insS m (H n)).length ≤ 2) : updM (St H) m n true = St (updH H n (addL m (H n))) := by
  funext x j
  unfold updM St updH addL
  rw [List.take_of_length_le hl]
  by_cases hj : j = n
  · subst hj
    rw [if_pos rfl]
    by_cases e : x = m
    · rw [if_pos ⟨e, rfl⟩]; exact (decide_eq_true ((insS_mem m x _).2 (.inl e))).symm
    · rw [if_neg (fun h => e h.1)]; exact decide_eq_decide.2 ⟨fun h => (insS_mem m x _).2 (.inr h), fun h => ((insS_mem m x _).1 h).resolve_left e⟩
  · rw [if_neg (fun h => hj h.2), if_neg hj]
theorem St_add3 {H : Nat → List Mk} (h : OkH H) (n : Nat) (hn : n < 4) (m : Mk) (hs : hasS m.1 (H n) = false) {a b c : Mk} (hl : insS m (H n) = [a, b, c]) : updM (updM (St H) m n true) c n false = St (updH H n (addL m (H n))) := by
  have hd := insS_down (h.down n hn) hs
  rw [hl] at hd
  have hd1 := List.pairwise_cons.1 hd
  have hca : c ≠ a := fun e => by have := hd1.1 c (by simp); rw [e] at this; omega
  have hcb : c ≠ b := fun e => by have := (List.pairwise_cons.1 hd1.2).1 c (by simp); rw [e] at this; omega
  funext x j
  unfold St updH addL
  rw [hl]
  by_cases hj : j = n
  · subst hj
    rw [if_pos rfl]
    have hmem : ∀ y, y ∈ [a, b, c] ↔ y = m ∨ y ∈ H j := fun y => hl ▸ insS_mem m y (H j)
    show updM (updM (St H) m j true) c j false x j = decide (x ∈ [a, b])
    by_cases e : x = c
    · rw [updM, if_pos ⟨e, rfl⟩]
      exact (decide_eq_false (fun h2 => by rw [e] at h2; simp at h2; exact h2.elim hca hcb)).symm
    · rw [updM, if_neg (fun h => e h.1)]
      have key : x ∈ [a, b] ↔ (x = m ∨ x ∈ H j) := by
        rw [← hmem x]; simp [e]
      unfold updM
      by_cases e2 : x = m
      · rw [if_pos ⟨e2, rfl⟩]; exact (decide_eq_true (key.2 (.inl e2))).symm
      · rw [if_neg (fun h => e2 h.1)]; exact decide_eq_decide.2 ⟨fun h => key.2 (.inr h), fun h => (key.1 h).resolve_left e2⟩
  · rw [if_neg hj, updM, if_neg (fun h => hj h.2), updM, if_neg (fun h => hj h.2)]
theorem OkH.add {H : Nat → List Mk} (h : OkH H) (n : Nat) (m : Mk) (hm : okK m) (hs : hasS m.1 (H n) = false) : OkH (updH H n (addL m (H n))) := by
  refine ⟨fun i hi => ?_, fun i hi => ?_, fun i hi x hx => ?_⟩
  · unfold updH
    split
    · rename_i e; subst e; exact (insS_down (h.down i hi) hs).sublist (List.take_sublist ..)
    · exact h.down i hi
  · unfold updH
    split
    · exact List.length_take_le ..
    · exact h.two i hi
  · unfold updH at hx
    split at hx
    · rename_i e
      subst e
      rcases (insS_mem m x _).1 (List.mem_of_mem_take hx) with e2 | e2
      · rw [e2]; exact hm
      · exact h.ok i hi x e2
    · exact h.ok i hi x hx
/-- The marks at lb, by replicas. -/
structure IsMs (w : World) (lb mb N : Nat) (H : Nat → List Mk) : Prop where
  im : IsMk w lb mb N (St H)
  ok : OkH H
theorem IsMs.frm {S : Nat → Prop} {w w' : World} {lb mb N : Nat} {H : Nat → List Mk} (h : IsMs w lb mb N H) (f : Frm S w w') (hs : ∀ k, Two lb mb k → ¬ S k) : IsMs w' lb mb N H := ⟨h.im.frm f hs, h.ok⟩
theorem IsMs.quiet {w w' : World} {lb mb N : Nat} {H : Nat → List Mk} (h : IsMs w lb mb N H) (f : Frm (fun _ => False) w w') : IsMs w' lb mb N H := ⟨h.im.quiet f, h.ok⟩
theorem IsMs.more {w : World} {lb mb N N' : Nat} {H : Nat → List Mk} (h : IsMs w lb mb N H) (hN : N ≤ N') : IsMs w lb mb N' H := ⟨h.im.more hN, h.ok⟩
set_option maxHeartbeats 8000000 in
theorem MAdd_dup {w : World} {lb mb N : Nat} {H : Nat → List Mk} (h : IsMs w lb mb N H) (n : Nat) (hn : n < 4) (F : Int) (hF : F = n) (m : Mk) (hm : okK m) (hq : m.1 % 4 = 0) (hx : m.1 ≤ 1073741824) (hs : hasS m.1 (H n) = true) :
    Calls Try.prog 9 #[.pointer (some ⟨lb, 0, none⟩), .int .u8 F, .int .u32 m.1, .int .u64 m.2] w fun e w' => e = .returned (.bool false) ∧ IsMs w' lb mb N H ∧ Frm (fun _ => False) w w' := by
  subst hF
  have HE := hid h; have HN := hid hn; have HM := hid hm; have HS := hid hs
  have hni : (n : Int) < 4 := by omega
  have htm : m.1.tmod 4 = 0 := by rw [Int.tmod_eq_emod_of_nonneg hm.1.1]; exact hq
  obtain ⟨ms, mr⟩ := m
  dsimp only at hx htm
  clear h hn hm hs hq
  go_enter Try.func9, Try.ntmps9
  go_wp2_with (first
    | (go_at_call 24; (with_reducible refine (of_calls (HE.out.im.quiet (mbox _ _)) n HN.out n rfl (St_of HE.out.ok n HN.out)).mono ?_); rintro e w1 ⟨ov, rfl, ho, f'⟩; have c0 := (f'.cell (p := ⟨w.heap.size, 0, none⟩) (by simp) (fun h => h)).trans ((Blk.new w [.int .u32 ms] 26).cell 0); (simp only [List.getElem?_cons_zero] at c0); have HO := hid ho; have HE1 := hid ((HE.out.quiet (mbox _ _)).quiet f'); have HF1 := hid ((mbox w _).trans f'); have HK0 := hid c0; clear ho f' HE)
    | (go_at_call 23; (with_reducible refine (Con_calls HO.out (by have := HE1.out.ok.two n HN.out; omega) w.heap.size ms HK0.out true HS.out).mono ?_); rintro e w2 ⟨rfl, f'⟩; clear c0; have c0 := (f'.cell (p := ⟨w.heap.size, 0, none⟩) (World.block_lt_of_cell? _ _ HK0.out) (fun h => h)).trans HK0.out; have HE2 := hid (HE1.out.quiet f'); have HF2 := hid (HF1.out.trans f'); clear f' HE1 HF1 HK0))
  go_ret
  exact ⟨rfl, HE2.out, HF2.out⟩
set_option maxHeartbeats 16000000 in
theorem MAdd_new {w : World} {lb mb N : Nat} {H : Nat → List Mk} (h : IsMs w lb mb N H) (hNN : N ≤ 90000) (n : Nat) (hn : n < 4) (F : Int) (hF : F = n) (m : Mk) (hm : okK m) (hq : m.1 % 4 = 0) (hx : m.1 ≤ 1073741824) (hs : hasS m.1 (H n) = false) :
    Calls Try.prog 9 #[.pointer (some ⟨lb, 0, none⟩), .int .u8 F, .int .u32 m.1, .int .u64 m.2] w fun e w' => e = .returned (.bool true) ∧ IsMs w' lb mb (N + 2) (updH H n (addL m (H n))) ∧ Frm (· = mb) w w' := by
  subst hF
  have HE := hid h; have HN := hid hn; have HM := hid hm; have HS := hid hs; have HNN := hid hNN
  have hni : (n : Int) < 4 := by omega
  have htm : m.1.tmod 4 = 0 := by rw [Int.tmod_eq_emod_of_nonneg hm.1.1]; exact hq
  obtain ⟨L, hL⟩ : ∃ L, insS m (H n) = L := ⟨_, rfl⟩
  have HI := hid (hL ▸ St_ins h.ok n hn m hs)
  have HLM := hid h.im.lm
  by_cases hl : L.length ≤ 2
  · have HSE := hid (St_add2 h.ok n hn m (by rw [hL]; exact hl))
    have hl2 : (L.length : Int) ≤ 2 := by omega
    obtain ⟨ms, mr⟩ := m
    dsimp only at hx htm
    clear h hn hm hs hq hNN hL hl
    go_enter Try.func9, Try.ntmps9
    go_wp2_with (first
      | (go_at_call 24; (with_reducible refine (of_calls (HE.out.im.quiet (mbox _ _)) n HN.out n rfl (St_of HE.out.ok n HN.out)).mono ?_); rintro e w1 ⟨ov, rfl, ho, f'⟩; have c0 := (f'.cell (p := ⟨w.heap.size, 0, none⟩) (by simp) (fun h => h)).trans ((Blk.new w [.int .u32 ms] 26).cell 0); (simp only [List.getElem?_cons_zero] at c0); have HO := hid ho; have HE1 := hid ((HE.out.quiet (mbox _ _)).quiet f'); have HF1 := hid ((mbox w _).trans f'); have HK0 := hid c0; clear ho f' HE)
      | (go_at_call 23; (with_reducible refine (Con_calls HO.out (by have := HE1.out.ok.two n HN.out; omega) w.heap.size ms HK0.out false HS.out).mono ?_); rintro e w2 ⟨rfl, f'⟩; clear c0; have c0 := (f'.cell (p := ⟨w.heap.size, 0, none⟩) (World.block_lt_of_cell? _ _ HK0.out) (fun h => h)).trans HK0.out; have HE2 := hid (HE1.out.quiet f'); have HF2 := hid (HF1.out.trans f'); clear f' HE1 HF1 HK0)
      | (go_at_call 26; (with_reducible refine (sets_calls HE2.out.im (by have := HNN.out; omega) (ms, mr) HM.out n n rfl HN.out true).mono ?_); rintro e w3 ⟨rfl, he, f'⟩; clear c0; have HE3 := hid he; have HF3 := hid ((HF2.out.mono (S' := (· = mb)) (fun _ _ h => h.elim)).trans' f' (fun _ _ h => h)); clear he f' HF2)
      | (go_at_call 24; (with_reducible refine (of_calls HE3.out n HN.out n rfl HI.out).mono ?_); rintro e w4 ⟨ov, rfl, ho, f'⟩; obtain ⟨oa, oc, hov⟩ := ho.slice; subst hov; have HE4 := hid (HE3.out.quiet f'); have HF4 := hid (HF3.out.trans' f' (fun _ _ h => h.elim)); clear ho f' HE3 HF3))
    go_ret
    exact ⟨rfl, ⟨HSE.out ▸ HE4.out.more (by omega), HE2.out.ok.add n (ms, mr) HM.out HS.out⟩, HF4.out⟩
  · obtain ⟨a, b, c, hab⟩ : ∃ a b c, L = [a, b, c] := by
      have h1 := insS_len m (H n); rw [hL] at h1
      have h2 := h.ok.two n hn
      match L, hl, h1 with
      | [a, b, c], _, _ => exact ⟨a, b, c, rfl⟩
      | [], hl, _ => exact absurd (Nat.zero_le _) hl
      | [_], hl, _ => exact absurd (show 1 ≤ 2 by decide) hl
      | [_, _], hl, _ => exact absurd (show 2 ≤ 2 by decide) hl
      | _ :: _ :: _ :: _ :: _, _, h1 => simp only [List.length_cons] at h1; omega
    subst hab
    have HSE := hid (St_add3 h.ok n hn m hs hL)
    have HC := hid (show okK c by
      have hc : c ∈ insS m (H n) := by rw [hL]; simp
      rcases (insS_mem m c _).1 hc with e | e
      · rw [e]; exact hm
      · exact h.ok.ok n hn c e)
    obtain ⟨ms, mr⟩ := m
    obtain ⟨cs, cr⟩ := c
    dsimp only at hx htm
    clear h hn hm hs hq hNN hL hl
    go_enter Try.func9, Try.ntmps9
    go_wp2_with (first
      | (go_at_call 24; (with_reducible refine (of_calls (HE.out.im.quiet (mbox _ _)) n HN.out n rfl (St_of HE.out.ok n HN.out)).mono ?_); rintro e w1 ⟨ov, rfl, ho, f'⟩; have c0 := (f'.cell (p := ⟨w.heap.size, 0, none⟩) (by simp) (fun h => h)).trans ((Blk.new w [.int .u32 ms] 26).cell 0); (simp only [List.getElem?_cons_zero] at c0); have HO := hid ho; have HE1 := hid ((HE.out.quiet (mbox _ _)).quiet f'); have HF1 := hid ((mbox w _).trans f'); have HK0 := hid c0; clear ho f' HE)
      | (go_at_call 23; (with_reducible refine (Con_calls HO.out (by have := HE1.out.ok.two n HN.out; omega) w.heap.size ms HK0.out false HS.out).mono ?_); rintro e w2 ⟨rfl, f'⟩; clear c0; have c0 := (f'.cell (p := ⟨w.heap.size, 0, none⟩) (World.block_lt_of_cell? _ _ HK0.out) (fun h => h)).trans HK0.out; have HE2 := hid (HE1.out.quiet f'); have HF2 := hid (HF1.out.trans f'); clear f' HE1 HF1 HK0)
      | (go_at_call 26; (with_reducible refine (sets_calls HE2.out.im (by have := HNN.out; omega) (ms, mr) HM.out n n rfl HN.out true).mono ?_); rintro e w3 ⟨rfl, he, f'⟩; clear c0; have HE3 := hid he; have HF3 := hid ((HF2.out.mono (S' := (· = mb)) (fun _ _ h => h.elim)).trans' f' (fun _ _ h => h)); clear he f' HF2)
      | (go_at_call 24; (with_reducible refine (of_calls HE3.out n HN.out n rfl HI.out).mono ?_); rintro e w4 ⟨ov, rfl, ho, f'⟩; obtain ⟨g, gc, hov, hc1, hc2, hc3⟩ := ho.at_ (by simp); subst hov; have c0 := hc3 2 (cs, cr) rfl 0 (by decide); have c1 := hc3 2 (cs, cr) rfl 1 (by decide); (simp only [mkC, List.getElem?_cons_succ, List.getElem?_cons_zero, Nat.reduceMul, Nat.reduceAdd, Nat.add_zero] at c0 c1); (simp only [List.length_cons, List.length_nil] at hc1); have HE4 := hid (HE3.out.quiet f'); have HF4 := hid (HF3.out.trans' f' (fun _ _ h => h.elim)); clear ho hc3 f' HE3 HF3)
      | (go_at_call 26; (with_reducible refine (sets_calls HE4.out (by have := HNN.out; omega) (cs, cr) HC.out n n rfl HN.out false).mono ?_); rintro e w5 ⟨rfl, he, f'⟩; clear c0 c1; have HE5 := hid he; have HF5 := hid (HF4.out.trans' f' (fun _ _ h => h)); clear he f' HF4))
    go_ret
    exact ⟨rfl, ⟨HSE.out ▸ HE5.out, HE2.out.ok.add n (ms, mr) HM.out HS.out⟩, HF5.out⟩
set_option maxHeartbeats 8000000 in
theorem MAdd_bad {w : World} {lb mb N : Nat} {H : Nat → List Mk} (h : IsMs w lb mb N H) (F : Int) (m : Mk) (hm : okK m) (hb : ¬ F < 4 ∨ F < 4 ∧ (¬ m.1 % 4 = 0 ∨ m.1 % 4 = 0 ∧ 1073741824 < m.1)) :
    Calls Try.prog 9 #[.pointer (some ⟨lb, 0, none⟩), .int .u8 F, .int .u32 m.1, .int .u64 m.2] w fun e w' => e = .returned (.bool false) ∧ IsMs w' lb mb N H ∧ Frm (fun _ => False) w w' := by
  have HE := hid (fun o => h.quiet (mbox w o))
  obtain ⟨k, hk⟩ : ∃ k, m.1 % 4 = k := ⟨_, rfl⟩
  have htm : m.1.tmod 4 = k := by rw [Int.tmod_eq_emod_of_nonneg hm.1.1]; exact hk
  obtain ⟨ms, mr⟩ := m
  dsimp only at hb hk htm
  rw [hk] at hb
  clear h hm hk
  rcases hb with hb | ⟨hb, hb2 | ⟨rfl, hb2⟩⟩
  · go_enter Try.func9, Try.ntmps9
    go_wp2
    go_ret
    exact ⟨rfl, HE.out _, mbox _ _⟩
  · have e1 : (k == 0) = false := beq_eq_false_iff_ne.2 hb2
    have e2 : (k != 0) = true := by rw [bne, e1]; rfl
    go_enter Try.func9, Try.ntmps9
    go_wp2
    go_ret
    exact ⟨rfl, HE.out _, mbox _ _⟩
  · go_enter Try.func9, Try.ntmps9
    go_wp2
    go_ret
    exact ⟨rfl, HE.out _, mbox _ _⟩
end Go.Proofs.Ytiffhkhmkigolaa
