/- 'known' of layer 9 returns true. -/
import Derived.Test.YtbjkdikiomhmgaaPgLoad
namespace Go.Proofs.Ytbjkdikiomhmgaa
open Go.RowKit Go.ChangeShapes
set_option linter.unusedVariables false
set_option linter.unusedSimpArgs false
theorem one_ints9 (w : World) : IsInts .u8 (w.alloc (.cells #[.int .u8 9] 5)) (some ⟨w.heap.size, 0, none⟩) 1 [9] := one_ints w 9 _ (by decide)
set_option maxRecDepth 100000 in
set_option maxHeartbeats 8000000 in
theorem known_calls (w : World) : Calls Try.prog 6 #[] w fun e w' => e = .returned (.bool true) ∧ Below w.heap.size w w' := by
  obtain ⟨V, hV⟩ : ∃ V, putV (List.replicate 64 0) 8 5 = V := ⟨_, rfl⟩
  have HPG := hid (show pageB V (List.replicate 10 0) 1 = [8, 0, 5] by rw [← hV]; decide)
  have HBD := hid (show (pageB (putV (clrV V 1 (pcount 1)) 9 0) (List.replicate 10 0) 1 == [9]) = false by rw [← hV]; decide)
  have HG := hid (show getV V 8 = 5 by rw [← hV]; decide)
  have HSM := hid (show ((V == List.replicate 64 0) && ((List.replicate 10 0 : List Int) == List.replicate 10 0)) = false by rw [← hV]; decide)
  have HV := hid hV; clear hV
  have hst : (strOfNums [8, 0, 5] == (⟨#[8, 0, 5]⟩ : ByteArray)) = true := by decide
  have hst2 : decide (strOfNums [8, 0, 5] = (⟨#[8, 0, 5]⟩ : ByteArray)) = true := by decide
  have hst3 : (strOfNums [8, 0, 5]).toList = [8, 0, 5] := by kernel_rfl
  go_enter Try.func6, Try.ntmps6
  go_wp2_with (first
    | (go_at_call 7; (with_reducible refine (PNew_calls w).mono ?_); rintro e w2 ⟨rfl, h', f'⟩; have HB := hid (Nat.le_refl w.heap.size); have HM := hid h'; have HF := hid f'; clear f' h')
    | (go_at_call 7; (with_reducible refine (PNew_calls _).mono ?_); rintro e w2 ⟨rfl, h', f'⟩; have HM2 := hid h'; have n0_ := hid (HM.out.frm (frm0_of f') (fun h => h)); have n1_ := hid (below_next HF.out f'); clear HM HF; have HM := n0_; clear n0_; have HF := n1_; clear n1_; clear f' h')
    | (go_at_call 8; (with_reducible refine (PPut_calls HM.out 8 (by decide) 5 (by decide) V HV.out).mono ?_); rintro e w' ⟨rfl, h', f'⟩; have n0_ := hid (h'); have n1_ := hid (below_frm1 HF.out f' HB.out); clear HM HF; have HM := n0_; clear n0_; have HF := n1_; clear n1_; clear f' h')
    | (go_at_call 11; (with_reducible refine (Page_of HM.out 1 1 rfl (by decide)).mono ?_); rintro e w' ⟨g1, rfl, _, h1, f'⟩; (rw [HPG.out] at h1); (rw [HPG.out]); have hcv := conv_of (show IsInts .u8 _ (some ⟨g1, 0, none⟩) 3 [8, 0, 5] from h1) (show ([8, 0, 5] : List Int).length = 3 from rfl); have n0_ := hid (HM.out.frm f' (fun h => h)); have n1_ := hid (below_frm0 HF.out f'); clear HM HF; have HM := n0_; clear n0_; have HF := n1_; clear n1_; clear f' h1)
    | (go_at_call 10; (with_reducible refine (Load_bad (HM.out.frm (frm_box _ _) (fun h => h)) (one_ints9 _) (show ([9] : List Int).length = 1 from rfl) rfl HBD.out).mono ?_); rintro e w' ⟨rfl, f'⟩; have n0_ := hid ((HM.out.frm (frm_box _ _) (fun h => h)).frm f' (fun h => h)); have n1_ := hid (below_frm0 HF.out ((frm_box _ _).trans f')); clear HM HF; have HM := n0_; clear n0_; have HF := n1_; clear n1_; clear f')
    | (go_at_call 12; (with_reducible refine (PGet_calls HM.out 8 (by decide) 5 HG.out).mono ?_); rintro e w' ⟨rfl, rfl⟩; skip)
    | (go_at_call 13; (with_reducible refine (PSame_calls HM.out HM2.out false HSM.out).mono ?_); rintro e w' ⟨rfl, f'⟩; have n0_ := hid (below_frm0 HF.out f'); clear HF; have HF := n0_; clear n0_; clear f'))
  go_ret
  exact ⟨rfl, HF.out⟩
end Go.Proofs.Ytbjkdikiomhmgaa
