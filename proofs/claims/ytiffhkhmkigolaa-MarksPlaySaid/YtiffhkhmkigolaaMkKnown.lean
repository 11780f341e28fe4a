/- Marks: what every statement asks first. -/
import Derived.Test.YtiffhkhmkigolaaMkBest
namespace Go.Proofs.Ytiffhkhmkigolaa
open Go.RowKit Go.ChangeShapes
set_option linter.unusedVariables false
set_option linter.unusedSimpArgs false
set_option maxRecDepth 100000
def H0 : Nat → List Mk := fun _ => []
theorem St_zero : St H0 = has0 := by funext m i; simp [St, H0, has0]
theorem okH0 : OkH H0 := ⟨fun _ _ => List.Pairwise.nil, fun _ _ => Nat.zero_le _, fun _ _ _ h => absurd h (by simp [H0])⟩
theorem MsNew_calls (w : World) : Calls Try.prog 8 #[] w fun e w' => e = .returned (.pointer (some ⟨w.heap.size + 1, 0, none⟩)) ∧ IsMs w' (w.heap.size + 1) w.heap.size 0 H0 ∧ Frm (fun _ => False) w w' := by
  refine (MNew_calls w).mono ?_
  rintro e w' ⟨rfl, h, f⟩
  exact ⟨rfl, ⟨by rw [St_zero]; exact h, okH0⟩, f⟩
theorem IsMs.okK {w : World} {lb mb N : Nat} {H : Nat → List Mk} (h : IsMs w lb mb N H) : ∀ m, anyB (St H m) = true → okK m := by
  intro m hm
  simp only [anyB, St, Bool.or_eq_true, decide_eq_true_eq] at hm
  rcases hm with hm | hm | hm | hm
  · exact h.ok.ok 0 (by decide) m hm
  · exact h.ok.ok 1 (by decide) m hm
  · exact h.ok.ok 2 (by decide) m hm
  · exact h.ok.ok 3 (by decide) m hm
def K1 : Nat → List Mk := updH H0 0 [(4, 7)]
def K2 : Nat → List Mk := updH K1 1 [(4, 7)]
def K3 : Nat → List Mk := updH K2 2 [(4, 7)]
theorem K3_any (m : Mk) (h : anyB (St K3 m) = true) : m = (4, 7) := by
  simp only [anyB, St, Bool.or_eq_true, decide_eq_true_eq] at h
  rcases h with h | h | h | h <;> simp [K3, K2, K1, H0, updH] at h <;> exact h
theorem best1 {fd : Bool} {b : Mk} (h : BestR (St K3) 1 3 (-1) fd b) : b = (4, 7) ∧ fd = true := by
  cases fd
  · exact absurd (show okB (St K3) 1 3 (-1) (4, 7) from ⟨by decide, by decide, by decide⟩) ((h.no rfl).2 _)
  · exact ⟨K3_any b (h.yes rfl).1.1, rfl⟩
theorem best2 {fd : Bool} {b : Mk} (h : BestR (St K3) 1 3 2 fd b) : b = (0, 0) ∧ fd = false := by
  cases fd
  · exact ⟨(h.no rfl).1, rfl⟩
  · have h1 := (h.yes rfl).1
    rw [K3_any b h1.1] at h1
    exact absurd h1.2.2 (by decide)
theorem ok47 : okK (4, 7) := by unfold okK; decide
theorem ok48 : okK (4, 8) := by unfold okK; decide
theorem ok57 : okK (5, 7) := by unfold okK; decide
set_option maxHeartbeats 8000000 in
theorem known_calls (w : World) : Calls Try.prog 7 #[] w fun e w' => e = .returned (.bool true) ∧ Frm (fun _ => False) w w' := by
  have heq := fun w => eqMk w 4 7 4 7 true rfl
  go_enter Try.func7, Try.ntmps7
  go_wp2_with (first
    | (go_at_call 8; (with_reducible refine (MsNew_calls _).mono ?_); rintro e w1 ⟨rfl, hv, hf⟩; have HE := hid hv; have HF := hid hf; clear hv hf)
    | (go_at_call 9; (with_reducible refine (MAdd_new (H := H0) HE.out (by decide) 0 (by decide) 0 rfl (4, 7) ok47 (by decide) (by decide) rfl).mono ?_); rintro e w2 ⟨rfl, he, f'⟩; have HE2 := hid (show IsMs w2 (w.heap.size + 1) w.heap.size _ K1 from he); have HF2 := hid (HF.out.trans' f' (fun k hk e => Nat.lt_irrefl _ (e ▸ hk))); clear HE HF he f'; have HE := HE2; have HF := HF2; clear HE2 HF2)
    | (go_at_call 9; (with_reducible refine (MAdd_new (H := K1) HE.out (by decide) 1 (by decide) 1 rfl (4, 7) ok47 (by decide) (by decide) rfl).mono ?_); rintro e w2 ⟨rfl, he, f'⟩; have HE2 := hid (show IsMs w2 (w.heap.size + 1) w.heap.size _ K2 from he); have HF2 := hid (HF.out.trans' f' (fun k hk e => Nat.lt_irrefl _ (e ▸ hk))); clear HE HF he f'; have HE := HE2; have HF := HF2; clear HE2 HF2)
    | (go_at_call 9; (with_reducible refine (MAdd_new (H := K2) HE.out (by decide) 2 (by decide) 2 rfl (4, 7) ok47 (by decide) (by decide) rfl).mono ?_); rintro e w2 ⟨rfl, he, f'⟩; have HE2 := hid (show IsMs w2 (w.heap.size + 1) w.heap.size _ K3 from he); have HF2 := hid (HF.out.trans' f' (fun k hk e => Nat.lt_irrefl _ (e ▸ hk))); clear HE HF he f'; have HE := HE2; have HF := HF2; clear HE2 HF2)
    | (go_at_call 9; (with_reducible refine (MAdd_dup (H := K3) (HE.out.quiet (mbox _ _)) 2 (by decide) 2 rfl (4, 8) ok48 (by decide) (by decide) rfl).mono ?_); rintro e w2 ⟨rfl, he, f'⟩; have HE2 := hid (show IsMs w2 (w.heap.size + 1) w.heap.size _ K3 from he); have HF2 := hid ((HF.out.trans (mbox _ _)).trans f'); have HX2 := hid (HX.out.frm ((mbox _ _).trans f') (fun h => h)); clear HX; have HX := HX2; clear HX2; clear HE HF he f'; have HE := HE2; have HF := HF2; clear HE2 HF2)
    | (go_at_call 9; (with_reducible refine (MAdd_bad (H := K3) HE.out 3 (5, 7) ok57 (.inr ⟨by decide, .inl (by decide)⟩)).mono ?_); rintro e w2 ⟨rfl, he, f'⟩; have HE2 := hid (show IsMs w2 (w.heap.size + 1) w.heap.size _ K3 from he); have HF2 := hid (HF.out.trans f'); have HX2 := hid (HX.out.frm f' (fun h => h)); clear HX; have HX := HX2; clear HX2; clear HE HF he f'; have HE := HE2; have HF := HF2; clear HE2 HF2; have x0 := HX.out.cell 0; have x1 := HX.out.cell 1; (simp only [mkC, List.getElem?_cons_succ, List.getElem?_cons_zero] at x0 x1))
    | (go_at_call 10; (with_reducible refine (MBest_calls HE.out.im HE.out.okK 1 3 (-1) (by decide)).mono ?_); rintro e w2 ⟨b, fd, rfl, hb, f'⟩; obtain ⟨rfl, rfl⟩ := best1 hb; have HE2 := hid (HE.out.quiet f'); have HF2 := hid (HF.out.trans f'); clear HE HF hb f'; have HE := HE2; have HF := HF2; clear HE2 HF2)
    | (go_at_call 10; (with_reducible refine (MBest_calls (HE.out.quiet (mbox _ _)).im HE.out.okK 1 3 2 (by decide)).mono ?_); rintro e w2 ⟨b, fd, rfl, hb, f'⟩; obtain ⟨rfl, rfl⟩ := best2 hb; have HE2 := hid ((HE.out.quiet (mbox _ _)).quiet f'); have HF2 := hid ((HF.out.trans (mbox _ _)).trans f'); have HX := hid ((Blk.new _ (mkC (4, 7)) TMk).frm f' (fun h => h)); clear HE HF hb f'; have HE := HE2; have HF := HF2; clear HE2 HF2)
    | (go_at_call 19; (with_reducible refine (MTop_calls HE.out.im 1 (by decide) 1 rfl (St_of HE.out.ok 1 (by decide)) 4 rfl).mono ?_); rintro e w2 ⟨rfl, f'⟩; have HE2 := hid (HE.out.quiet f'); have HF2 := hid (HF.out.trans f'); clear HE HF f'; have HE := HE2; have HF := HF2; clear HE2 HF2))
  go_ret
  exact ⟨rfl, HF.out⟩
end Go.Proofs.Ytiffhkhmkigolaa
