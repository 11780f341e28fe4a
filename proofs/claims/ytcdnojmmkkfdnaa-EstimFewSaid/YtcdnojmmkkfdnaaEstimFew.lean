/- EstimFew, walked: what is no checkpoint's place, of oneself, of nobody, of another question counts for nothing. -/
import Derived.Test.YtcdnojmmkkfdnaaEstimKnown
import Derived.Test.YtcdnojmmkkfdnaaArgs
import Derived.OpenShut
namespace Go.Proofs.Ytcdnojmmkkfdnaa
open Go.RowKit Go.ChangeShapes
theorem at_new (a c i : Int) : (esNew a c).at_ i = false := by
  unfold Es.at_ esNew
  (repeat' split) <;> rfl
theorem few_no (st : Es) (c q : Int) (_hc : 0 ≤ c ∧ c ≤ 255) (hs : st.count = c) : (∀ x, st.takes x ((c + 1) % 256) q = false) ∧ ∀ x, st.add x ((c + 1) % 256) q = st := by
  have h : ∀ x, st.takes x ((c + 1) % 256) q = false := fun x => by
    unfold Es.takes
    rw [decide_eq_true (show (c + 1) % 256 ≠ st.count by omega)]; simp
  exact ⟨h, fun x => by unfold Es.add; rw [if_neg (by rw [h]; decide)]⟩
set_option maxHeartbeats 2000000 in
theorem EstimFew_walk (self c f q : Int) (w : World) (w0 : (Lit.int .u8 self).wf = true) (w1 : (Lit.int .u8 c).wf = true) (w2 : (Lit.int .u8 f).wf = true) (w3 : (Lit.int .u32 q).wf = true) :
    Calls Try.prog 4 #[.int .u8 self, .int .u8 c, .int .u8 f, .int .u32 q] w fun e w' => e = .returned (.bool true) ∧ Below w.heap.size w w' := by
  have b0 := bounds_u8 w0
  have b1 := bounds_u8 w1
  have b2 := bounds_u8 w2
  have b3 := bounds_u32 w3
  clear w0 w1 w2 w3
  have key : ∃ (v : Bool) (st : Es), (esNew (self % 4) c).takes f c q = v ∧ (esNew (self % 4) c).add f c q = st ∧ st.at_ f = v ∧ st.count = c ∧ 0 ≤ st.cnt 4 ∧ st.cnt 4 ≤ 1 ∧ st.Ok ∧
      ((v = false ∧ (f ≥ 4 ∨ (f < 4 ∧ f = self % 4) ∨ (f < 4 ∧ (f != self % 4) = true ∧ (q % 4 == 0) = false) ∨ (f < 4 ∧ (f != self % 4) = true ∧ (q % 4 == 0) = true ∧ decide (q ≤ 1073741824) = false))) ∨
       (v = true ∧ f < 4 ∧ (f != self % 4) = true ∧ (q % 4 == 0) = true ∧ q ≤ 1073741824)) := by
    have hok : (esNew (self % 4) c).Ok := ⟨by simp [esNew], by simp [esNew], by simp [esNew], by simp [esNew]⟩
    by_cases g : f < 4 ∧ f ≠ self % 4 ∧ q % 4 = 0 ∧ q ≤ 1073741824
    · obtain ⟨g1, g2, g3, g4⟩ := g
      have ht : (esNew (self % 4) c).takes f c q = true := by
        unfold Es.takes
        rw [at_new]
        show (!(decide (f = self % 4) || decide (f ≥ 4) || decide (c ≠ c) || decide (q % 4 ≠ 0) || decide (q > 1073741824) || false)) = true
        rw [decide_eq_false g2, decide_eq_false (show ¬ f ≥ 4 by omega), decide_eq_false (show ¬ c ≠ c by omega), decide_eq_false (show ¬ q % 4 ≠ 0 by omega), decide_eq_false (show ¬ q > 1073741824 by omega)]; rfl
      refine ⟨true, _, ht, rfl, ?_⟩
      have ha : (esNew (self % 4) c).add f c q = (esNew (self % 4) c).set f q := by unfold Es.add; rw [if_pos ht]
      rw [ha]
      have c5 : f = 0 ∨ f = 1 ∨ f = 2 ∨ f = 3 := by omega
      have hokk := hok.add f c q b3.1
      rw [ha] at hokk
      refine ⟨?_, ?_, ?_, ?_, hokk, .inr ⟨rfl, g1, bne_iff_ne.2 g2, beq_iff_eq.2 g3, g4⟩⟩
      all_goals rcases c5 with rfl | rfl | rfl | rfl <;> simp [Es.set, Es.at_, esNew, Es.cnt]
    · have ht : (esNew (self % 4) c).takes f c q = false := by
        unfold Es.takes
        rw [at_new]
        show (!(decide (f = self % 4) || decide (f ≥ 4) || decide (c ≠ c) || decide (q % 4 ≠ 0) || decide (q > 1073741824) || false)) = false
        have : f = self % 4 ∨ f ≥ 4 ∨ q % 4 ≠ 0 ∨ q > 1073741824 := by omega
        rcases this with h | h | h | h <;> simp [h]
      refine ⟨false, _, ht, rfl, ?_⟩
      have ha : (esNew (self % 4) c).add f c q = esNew (self % 4) c := by unfold Es.add; rw [if_neg (by rw [ht]; decide)]
      rw [ha]
      refine ⟨at_new _ _ _, rfl, by simp [esNew, Es.cnt], by simp [esNew, Es.cnt], hok, .inl ⟨rfl, ?_⟩⟩
      simp only [beq_iff_eq, beq_eq_false_iff_ne, bne_iff_ne, decide_eq_false_iff_not]
      omega
  obtain ⟨v, st, T1, S1, H1, C0, C1, C2, OK, cs⟩ := key
  obtain ⟨T2, S2⟩ := few_no st c 4 b1 C0
  generalize hn : st.cnt 4 = n at *
  have HN := hid hn; clear hn
  have T1' := hid T1; clear T1
  have S1' := hid S1; clear S1
  have H1' := hid H1; clear H1
  have T2' := hid T2; clear T2
  have S2' := hid S2; clear S2
  have OK' := hid OK; clear OK C0
  have hc3 : n < 3 := by omega
  rcases cs with ⟨rfl, h | ⟨h, rfl⟩ | ⟨h, h', h''⟩ | ⟨h, h', h'', h3⟩⟩ | ⟨rfl, h, h', h'', h3⟩
  all_goals
    go_enter Try.func4, Try.ntmps4
    go_wp2_with (first
      | (go_at_call 6; (with_reducible refine (known_calls _).mono ?_); rintro e w1 ⟨rfl, f1⟩)
      | (go_at_call 7; (with_reducible refine (ENew_calls (self % 4) c _).mono ?_); rintro e w1 ⟨b, hb1, rfl, h1, f0⟩; have hb0 := Nat.le_trans f1.size hb1; have f2 := below_frm0 f1 f0; clear f0 f1 hb1; have f1 := f2; clear f2)
      | (go_at_call 12; (with_reducible refine (Has_calls b _ _ h1 _ b2.1).mono ?_); rintro e w' ⟨rfl, rfl⟩; rw [H1'.out])
      | (go_at_call 13; (with_reducible refine (Len_calls b _ _ h1).mono ?_); rintro e w' ⟨rfl, f'⟩; rw [HN.out]; have h' := h1.frm f' (fun h => h); have f2 := below_frm0 f1 f'; clear f1 f' h1; have f1 := f2; clear f2; have h1 := h'; clear h')
      | (go_at_call 10; (with_reducible refine (Bound_calls b _ _ h1 OK'.out).mono ?_); rintro e w' ⟨rfl, f'⟩; rw [HN.out, if_pos hc3, decide_eq_false (show ¬ ¬ n < 3 from fun h => h hc3)]; have h' := h1.frm f' (fun h => h); have f2 := below_frm0 f1 f'; clear f1 f' h1; have f1 := f2; clear f2; have h1 := h'; clear h')
      | (go_at_call 8; (with_reducible refine (Add_calls b _ _ h1 _ c q b2.1 b3.1).mono ?_); rintro e w' ⟨rfl, h', f'⟩; rw [T1'.out]; rw [S1'.out] at h'; have f2 := below_frm1 f1 f' hb0; clear f1 f' h1; have f1 := f2; clear f2; have h1 := h'; clear h')
      | (go_at_call 8; (with_reducible refine (Add_calls b _ _ h1 _ _ _ (by omega) (by omega)).mono ?_); rintro e w' ⟨rfl, h', f'⟩; rw [T2'.out]; rw [S2'.out] at h'; have f2 := below_frm1 f1 f' hb0; clear f1 f' h1; have f1 := f2; clear f2; have h1 := h'; clear h'))
    go_ret
    exact ⟨rfl, f1⟩
end Go.Proofs.Ytcdnojmmkkfdnaa
