/- QueueDone, walked: what is done is gone, with all that is elder; what is younger stays. -/
import Derived.Test.YtabmbppolmikcaaQuKnown
namespace Go.Proofs.Ytabmbppolmikcaa
open Go.RowKit Go.ChangeShapes
set_option linter.unusedVariables false
set_option linter.unusedSimpArgs false
set_option maxRecDepth 100000
theorem bnd8 {x : Int} (h : (Lit.int .u8 x).wf = true) : 0 ≤ x ∧ x ≤ 255 := by simp [Lit.wf, IntKind.min, IntKind.max, IntKind.bits, IntKind.signed] at h; omega
theorem bnd32 {x : Int} (h : (Lit.int .u32 x).wf = true) : 0 ≤ x ∧ x ≤ 4294967295 := by simp [Lit.wf, IntKind.min, IntKind.max, IntKind.bits, IntKind.signed] at h; omega
theorem real1 {c ts y v : Int} (hc : 1 ≤ c ∧ c ≤ 4) (ht : ts ≠ 0) (hy : y < 64) : isReal c ts 1 y v = true := decide_eq_true ⟨hc.1, hc.2, ht, by decide, by decide, hy, .inl (by decide)⟩
set_option maxHeartbeats 16000000 in
theorem QueueDone_walk (a0 a1 a2 a3 : Int) (w : World) (h0 : (Lit.int .u32 a0).wf = true) (h1 : (Lit.int .u32 a1).wf = true) (h2 : (Lit.int .u8 a2).wf = true) (h3 : (Lit.int .u8 a3).wf = true) :
    Calls Try.prog 5 #[.int .u32 a0, .int .u32 a1, .int .u8 a2, .int .u8 a3] w fun e w' => e = .returned (.bool true) ∧ Below w.heap.size w w' := by
  have hb0 := bnd32 h0; have hb1 := bnd32 h1; have hb2 := bnd8 h2; have hb3 := bnd8 h3
  obtain ⟨k2, hk2⟩ : ∃ k : Nat, a2 % 4 = (k : Int) := ⟨(a2 % 4).toNat, by omega⟩
  have t2 : a2.tmod 4 = (k2 : Int) := by rw [Int.tmod_eq_emod_of_nonneg hb2.1]; exact hk2
  obtain ⟨k3, hk3⟩ : ∃ k : Nat, a3 % 4 = (k : Int) := ⟨(a3 % 4).toNat, by omega⟩
  have t3 : a3.tmod 4 = (k3 : Int) := by rw [Int.tmod_eq_emod_of_nonneg hb3.1]; exact hk3
  obtain ⟨c, hc⟩ : ∃ c : Int, (k2 : Int) + 1 = c := ⟨_, rfl⟩
  obtain ⟨o, ho⟩ : ∃ o : Int, (k3 : Int) + 1 = o := ⟨_, rfl⟩
  have hc4 : 1 ≤ c ∧ c ≤ 4 := by omega
  have ho4 : 1 ≤ o ∧ o ≤ 4 := by omega
  have wc : IntKind.u8.wrap c = c := by simp [IntKind.wrap, IntKind.bits, IntKind.signed]; omega
  have wo : IntKind.u8.wrap o = o := by simp [IntKind.wrap, IntKind.bits, IntKind.signed]; omega
  have HC4 := hid hc4; have HO4 := hid ho4
  have HB0 := hid hb0
  have KO1 := hid (show RqOk ⟨c, a0, 1, 1, 2⟩ from ⟨by show 0 ≤ c ∧ c ≤ 255; omega, hb0, (by decide : (0 : Int) ≤ 1 ∧ (1 : Int) ≤ 255), (by decide : (0 : Int) ≤ 1 ∧ (1 : Int) ≤ 255), (by decide : (0 : Int) ≤ 2 ∧ (2 : Int) ≤ 65535)⟩)
  have KO2 := hid (show RqOk ⟨o, 1, 1, 1, 2⟩ from ⟨by show 0 ≤ o ∧ o ≤ 255; omega, (by decide : (0 : Int) ≤ 1 ∧ (1 : Int) ≤ 4294967295), (by decide : (0 : Int) ≤ 1 ∧ (1 : Int) ≤ 255), (by decide : (0 : Int) ≤ 1 ∧ (1 : Int) ≤ 255), (by decide : (0 : Int) ≤ 2 ∧ (2 : Int) ≤ 65535)⟩)
  have KO9 := hid (show RqOk ⟨9, 1, 2, 0, 0⟩ from ⟨by decide, by decide, by decide, by decide, by decide⟩)
  clear h0 h1 h2 h3 hk2 hk3 hb0 hb1 hb2 hb3 hc4 ho4
  by_cases e0 : a0 = 0
  · subst e0
    clear KO1 HB0
    go_enter Try.func5, Try.ntmps5
    go_wp2_with (first
      | (go_at_call 6; (with_reducible refine (known_calls w).mono ?_); rintro e w0 ⟨rfl, f'⟩; have HF0 := hid f'; clear f'))
    go_ret
    exact ⟨rfl, HF0.out.below (Nat.le_refl _) (fun _ _ h => h)⟩
  · by_cases eq : c = o
    · have hcb : (c == o) = true := by rw [eq]; exact beq_self_eq_true _
      have e0b : (a0 == 0) = false := beq_eq_false_iff_ne.2 e0
      clear eq
      go_enter Try.func5, Try.ntmps5
      go_wp2_with (first
        | (go_at_call 6; (with_reducible refine (known_calls w).mono ?_); rintro e w0 ⟨rfl, f'⟩; have HF0 := hid f'; clear f'))
      go_ret
      exact ⟨rfl, HF0.out.below (Nat.le_refl _) (fun _ _ h => h)⟩
    · have hcb : (c == o) = false := beq_eq_false_iff_ne.2 eq
      have hob : (o == c) = false := beq_eq_false_iff_ne.2 (fun e => eq e.symm)
      have e0b : (a0 == 0) = false := beq_eq_false_iff_ne.2 e0
      have hc9 : (c == 9) = false := beq_eq_false_iff_ne.2 (by have := HC4.out; omega)
      have ho9 : (o == 9) = false := beq_eq_false_iff_ne.2 (by have := HO4.out; omega)
      have r1 := real1 (y := 1) (v := 2) HC4.out e0 (by decide)
      have r2 := real1 (c := o) (ts := 1) (y := 1) (v := 2) HO4.out (by decide) (by decide)
      have KP1 := hid (show putB ([] : List Qe) ⟨c, a0, 1, 1, 2⟩ = true by unfold putB; rw [r1]; rfl)
      have KP2 := hid (show putB ([(⟨c, a0, 1, 1, 2⟩, 0)] : List Qe) ⟨o, 1, 1, 1, 2⟩ = true by unfold putB ofB ofE; rw [r2]; simp [hcb])
      have KP9 := hid (fun (L : List Qe) => show putB L ⟨9, 1, 2, 0, 0⟩ = false by unfold putB; rw [show isReal 9 1 2 0 0 = false by decide]; rfl)
      have dr : dropC ([(⟨c, a0, 1, 1, 2⟩, 0)] : List Qe) o = ([(⟨c, a0, 1, 1, 2⟩, 0)] : List Qe) := by unfold dropC; simp [hcb]
      have HPL := hid (show dropC ([(⟨c, a0, 1, 1, 2⟩, 0)] : List Qe) o ++ [(⟨o, 1, 1, 1, 2⟩, 1)] = ([(⟨c, a0, 1, 1, 2⟩, 0), (⟨o, 1, 1, 1, 2⟩, 1)] : List Qe) by rw [dr]; rfl)
      by_cases hg : a0 ≤ a1
      · have KD1 := hid (show doneL ([(⟨c, a0, 1, 1, 2⟩, 0), (⟨o, 1, 1, 1, 2⟩, 1)] : List Qe) c a1 = ([(⟨o, 1, 1, 1, 2⟩, 1)] : List Qe) by unfold doneL ofB ofR ofE dropC; simp [hg, hob])
        have KH := hid (show hasB ([(⟨o, 1, 1, 1, 2⟩, 1)] : List Qe) ⟨c, a0, 1, 1, 2⟩ = false by unfold hasB; rw [fQ_none (by intro e he h; rw [List.mem_singleton.1 he] at h; injection h with h; exact eq h.symm)]; rfl)
        have KD2 := hid (show doneL ([(⟨o, 1, 1, 1, 2⟩, 1)] : List Qe) o 1 = ([] : List Qe) by unfold doneL ofB ofR ofE dropC; simp)
        have KD3 := hid (show doneL ([] : List Qe) 9 9 = ([] : List Qe) by decide)
        have KP9 := hid (KP9.out ([] : List Qe))
        clear eq r1 r2 dr
        go_enter Try.func5, Try.ntmps5
        go_wp2_with (first
          | (go_at_call 6; (with_reducible refine (known_calls w).mono ?_); rintro e w0 ⟨rfl, f'⟩; have HF0 := hid f'; clear f')
          | (go_at_call 7; (with_reducible refine (QNew_calls w0).mono ?_); rintro e w1 ⟨rfl, hq, f'⟩; have HSZ := hid (show w.heap.size ≤ w0.heap.size ∧ w.heap.size ≤ w0.heap.size + 1 by have := HF0.out.size; omega); obtain ⟨qb, hqb⟩ : ∃ qb, w0.heap.size + 1 = qb := ⟨_, rfl⟩; obtain ⟨mb, hmb⟩ : ∃ mb, w0.heap.size = mb := ⟨_, rfl⟩; rw [hqb, hmb] at hq; rw [hqb]; (rw [hqb, hmb] at HSZ); have HQ0 := hid hq; have HF := hid (HF0.out.trans f'); clear HF0 hq f' hqb hmb)
          | (go_at_call 9; (with_reducible refine (HPut_calls _ c a0 1 2).mono ?_); rintro e w' ⟨rfl, f'⟩; have HQ1 := hid (HQ0.out.quiet f'); have m_ := hid (HF.out.trans f'); clear HQ0 HF f'; have HF := m_; clear m_)
          | (go_at_call 8; (with_reducible refine (Put_yes HQ1.out (by decide) ⟨c, a0, 1, 1, 2⟩ KO1.out KP1.out).mono ?_); rintro e w' ⟨rfl, hq, f'⟩; have HQ2 := hid (show IsQ w' qb mb ([(⟨c, a0, 1, 1, 2⟩, 0)] : List Qe) 1 from hq); have m_ := hid (HF.out.trans' f' (fun i hi e => by have := HSZ.out; rcases e with e | e <;> omega)); clear HQ1 HF f' hq; have HF := m_; clear m_)
          | (go_at_call 9; (with_reducible refine (HPut_calls _ o 1 1 2).mono ?_); rintro e w' ⟨rfl, f'⟩; have HQ3 := hid (HQ2.out.quiet f'); have m_ := hid (HF.out.trans f'); clear HQ2 HF f'; have HF := m_; clear m_)
          | (go_at_call 8; (with_reducible refine (Put_yes HQ3.out (by decide) ⟨o, 1, 1, 1, 2⟩ KO2.out KP2.out).mono ?_); rintro e w' ⟨rfl, hq, f'⟩; (rw [HPL.out] at hq); have HQ4 := hid hq; have m_ := hid (HF.out.trans' f' (fun i hi e => by have := HSZ.out; rcases e with e | e <;> omega)); clear HQ3 HF f' hq; have HF := m_; clear m_)
          | (go_at_call 14; (with_reducible refine (QDone_calls HQ4.out c a1 ([(⟨o, 1, 1, 1, 2⟩, 1)] : List Qe) KD1.out).mono ?_); rintro e w' ⟨rfl, hq, f'⟩; have HQ5 := hid hq; have m_ := hid (HF.out.trans' f' (fun i hi e => by have := HSZ.out; omega)); clear HQ4 HF f' hq; have HF := m_; clear m_)
          | (go_at_call 16; (with_reducible refine (First_some HQ5.out).mono ?_); rintro e w6 ⟨rfl, f'⟩; have HQ6 := hid (fun ob => (HQ5.out.quiet f').quiet (qbox _ ob)); have m_ := hid (fun ob => (HF.out.trans f').trans (qbox _ ob)); clear HQ5 HF f'; have HFo := m_; clear m_)
          | (go_at_call 9; (with_reducible refine (HPut_calls _ c a0 1 2).mono ?_); rintro e w7 ⟨rfl, f'⟩; have HQ7 := hid ((HQ6.out _).quiet f'); have HF := hid ((HFo.out _).trans f'); clear HQ6 HFo f')
          | (go_at_call 12; (with_reducible refine (QHas_calls HQ7.out ⟨c, a0, 1, 1, 2⟩ KO1.out false KH.out).mono ?_); rintro e w8 ⟨rfl, f'⟩; have HQ8 := hid (HQ7.out.quiet f'); have m_ := hid (HF.out.trans f'); clear HQ7 HF f'; have HF := m_; clear m_)
          | (go_at_call 14; (with_reducible refine (QDone_calls HQ8.out o 1 ([] : List Qe) KD2.out).mono ?_); rintro e w' ⟨rfl, hq, f'⟩; have HQ9 := hid hq; have m_ := hid (HF.out.trans' f' (fun i hi e => by have := HSZ.out; omega)); clear HQ8 HF f' hq; have HF := m_; clear m_)
          | (go_at_call 14; (with_reducible refine (QDone_calls HQ9.out 9 9 ([] : List Qe) KD3.out).mono ?_); rintro e w' ⟨rfl, hq, f'⟩; have HQ10 := hid hq; have m_ := hid (HF.out.trans' f' (fun i hi e => by have := HSZ.out; omega)); clear HQ9 HF f' hq; have HF := m_; clear m_)
          | (go_at_call 16; (with_reducible refine (First_none HQ10.out).mono ?_); rintro e w11 ⟨rfl, f'⟩; have HQ11 := hid (HQ10.out.quiet f'); have m_ := hid (HF.out.trans f'); clear HQ10 HF f'; have HF := m_; clear m_)
          | (go_at_call 8; (with_reducible refine (Put_no HQ11.out (by decide) ⟨9, 1, 2, 0, 0⟩ KO9.out KP9.out).mono ?_); rintro e w' ⟨rfl, hq, f'⟩; have m_ := hid (HF.out.trans f'); clear HQ11 HF f' hq; have HF := m_; clear m_))
        go_ret
        exact ⟨ret_bool (by first | rfl | (simp; omega)), HF.out.below (Nat.le_refl _) (fun _ _ h => h)⟩
      · have KD1 := hid (show doneL ([(⟨c, a0, 1, 1, 2⟩, 0), (⟨o, 1, 1, 1, 2⟩, 1)] : List Qe) c a1 = ([(⟨c, a0, 1, 1, 2⟩, 0), (⟨o, 1, 1, 1, 2⟩, 1)] : List Qe) by unfold doneL ofB ofR ofE dropC; simp [hg])
        have KH := hid (show hasB ([(⟨c, a0, 1, 1, 2⟩, 0), (⟨o, 1, 1, 1, 2⟩, 1)] : List Qe) ⟨c, a0, 1, 1, 2⟩ = true by unfold hasB; rw [fQ_at]; simp [Rq.eqb])
        have KD2 := hid (show doneL ([(⟨c, a0, 1, 1, 2⟩, 0), (⟨o, 1, 1, 1, 2⟩, 1)] : List Qe) o 1 = ([(⟨c, a0, 1, 1, 2⟩, 0)] : List Qe) by unfold doneL ofB ofR ofE dropC; simp [hcb])
        have KD3 := hid (show doneL ([(⟨c, a0, 1, 1, 2⟩, 0)] : List Qe) 9 9 = ([(⟨c, a0, 1, 1, 2⟩, 0)] : List Qe) by unfold doneL ofB ofR ofE dropC; simp [hc9])
        have KP9 := hid (KP9.out ([(⟨c, a0, 1, 1, 2⟩, 0)] : List Qe))
        clear eq r1 r2 dr
        go_enter Try.func5, Try.ntmps5
        go_wp2_with (first
          | (go_at_call 6; (with_reducible refine (known_calls w).mono ?_); rintro e w0 ⟨rfl, f'⟩; have HF0 := hid f'; clear f')
          | (go_at_call 7; (with_reducible refine (QNew_calls w0).mono ?_); rintro e w1 ⟨rfl, hq, f'⟩; have HSZ := hid (show w.heap.size ≤ w0.heap.size ∧ w.heap.size ≤ w0.heap.size + 1 by have := HF0.out.size; omega); obtain ⟨qb, hqb⟩ : ∃ qb, w0.heap.size + 1 = qb := ⟨_, rfl⟩; obtain ⟨mb, hmb⟩ : ∃ mb, w0.heap.size = mb := ⟨_, rfl⟩; rw [hqb, hmb] at hq; rw [hqb]; (rw [hqb, hmb] at HSZ); have HQ0 := hid hq; have HF := hid (HF0.out.trans f'); clear HF0 hq f' hqb hmb)
          | (go_at_call 9; (with_reducible refine (HPut_calls _ c a0 1 2).mono ?_); rintro e w' ⟨rfl, f'⟩; have HQ1 := hid (HQ0.out.quiet f'); have m_ := hid (HF.out.trans f'); clear HQ0 HF f'; have HF := m_; clear m_)
          | (go_at_call 8; (with_reducible refine (Put_yes HQ1.out (by decide) ⟨c, a0, 1, 1, 2⟩ KO1.out KP1.out).mono ?_); rintro e w' ⟨rfl, hq, f'⟩; have HQ2 := hid (show IsQ w' qb mb ([(⟨c, a0, 1, 1, 2⟩, 0)] : List Qe) 1 from hq); have m_ := hid (HF.out.trans' f' (fun i hi e => by have := HSZ.out; rcases e with e | e <;> omega)); clear HQ1 HF f' hq; have HF := m_; clear m_)
          | (go_at_call 9; (with_reducible refine (HPut_calls _ o 1 1 2).mono ?_); rintro e w' ⟨rfl, f'⟩; have HQ3 := hid (HQ2.out.quiet f'); have m_ := hid (HF.out.trans f'); clear HQ2 HF f'; have HF := m_; clear m_)
          | (go_at_call 8; (with_reducible refine (Put_yes HQ3.out (by decide) ⟨o, 1, 1, 1, 2⟩ KO2.out KP2.out).mono ?_); rintro e w' ⟨rfl, hq, f'⟩; (rw [HPL.out] at hq); have HQ4 := hid hq; have m_ := hid (HF.out.trans' f' (fun i hi e => by have := HSZ.out; rcases e with e | e <;> omega)); clear HQ3 HF f' hq; have HF := m_; clear m_)
          | (go_at_call 14; (with_reducible refine (QDone_calls HQ4.out c a1 ([(⟨c, a0, 1, 1, 2⟩, 0), (⟨o, 1, 1, 1, 2⟩, 1)] : List Qe) KD1.out).mono ?_); rintro e w' ⟨rfl, hq, f'⟩; have HQ5 := hid hq; have m_ := hid (HF.out.trans' f' (fun i hi e => by have := HSZ.out; omega)); clear HQ4 HF f' hq; have HF := m_; clear m_)
          | (go_at_call 16; (with_reducible refine (First_some HQ5.out).mono ?_); rintro e w6 ⟨rfl, f'⟩; have HQ6 := hid (fun ob => (HQ5.out.quiet f').quiet (qbox _ ob)); have m_ := hid (fun ob => (HF.out.trans f').trans (qbox _ ob)); clear HQ5 HF f'; have HFo := m_; clear m_)
          | (go_at_call 9; (with_reducible refine (HPut_calls _ c a0 1 2).mono ?_); rintro e w7 ⟨rfl, f'⟩; have HQ7 := hid ((HQ6.out _).quiet f'); have HF := hid ((HFo.out _).trans f'); clear HQ6 HFo f')
          | (go_at_call 12; (with_reducible refine (QHas_calls HQ7.out ⟨c, a0, 1, 1, 2⟩ KO1.out true KH.out).mono ?_); rintro e w8 ⟨rfl, f'⟩; have HQ8 := hid (HQ7.out.quiet f'); have m_ := hid (HF.out.trans f'); clear HQ7 HF f'; have HF := m_; clear m_)
          | (go_at_call 14; (with_reducible refine (QDone_calls HQ8.out o 1 ([(⟨c, a0, 1, 1, 2⟩, 0)] : List Qe) KD2.out).mono ?_); rintro e w' ⟨rfl, hq, f'⟩; have HQ9 := hid hq; have m_ := hid (HF.out.trans' f' (fun i hi e => by have := HSZ.out; omega)); clear HQ8 HF f' hq; have HF := m_; clear m_)
          | (go_at_call 14; (with_reducible refine (QDone_calls HQ9.out 9 9 ([(⟨c, a0, 1, 1, 2⟩, 0)] : List Qe) KD3.out).mono ?_); rintro e w' ⟨rfl, hq, f'⟩; have HQ10 := hid hq; have m_ := hid (HF.out.trans' f' (fun i hi e => by have := HSZ.out; omega)); clear HQ9 HF f' hq; have HF := m_; clear m_)
          | (go_at_call 16; (with_reducible refine (First_some HQ10.out).mono ?_); rintro e w11 ⟨rfl, f'⟩; have HQ11 := hid (HQ10.out.quiet f'); have m_ := hid (HF.out.trans f'); clear HQ10 HF f'; have HF := m_; clear m_)
          | (go_at_call 8; (with_reducible refine (Put_no HQ11.out (by decide) ⟨9, 1, 2, 0, 0⟩ KO9.out KP9.out).mono ?_); rintro e w' ⟨rfl, hq, f'⟩; have m_ := hid (HF.out.trans f'); clear HQ11 HF f' hq; have HF := m_; clear m_))
        go_ret
        exact ⟨ret_bool (by first | rfl | (simp; omega)), HF.out.below (Nat.le_refl _) (fun _ _ h => h)⟩
end Go.Proofs.Ytabmbppolmikcaa
