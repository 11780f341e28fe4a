/- 'known' of layer 10 returns true. -/
import Derived.Test.YtknaalaajmhjgaaMerk2
namespace Go.Proofs.Ytknaalaajmhjgaa
open Go.RowKit Go.ChangeShapes
set_option linter.unusedVariables false
set_option linter.unusedSimpArgs false
theorem unl_self (x : List Int) (h : x.length = 8) : unl x x 8 = [] := by
  unfold unl
  rw [List.filter_eq_nil_iff.2 (fun i _ => by simp [h])]
  rfl
theorem unl_nil (x : List Int) : (unl x [] 8).length = 8 := by
  unfold unl
  rw [List.length_map, List.filter_eq_self.2 (fun i _ => by simp)]
  rfl
theorem sumsL_len (vs cs : List Int) : (sumsL vs cs).length = 8 := rfl
set_option maxHeartbeats 8000000 in
theorem known_calls (w : World) : Calls Try.prog 8 #[] w fun e w' => e = .returned (.bool true) ∧ Below w.heap.size w w' := by
  obtain ⟨S, hS⟩ : ∃ S, sumsL (List.replicate 64 0) (List.replicate 10 0) = S := ⟨_, rfl⟩
  have hS8 : S.length = 8 := by rw [← hS]; rfl
  obtain ⟨R, hR⟩ : ∃ R, rootS S = R := ⟨_, rfl⟩
  obtain ⟨F, hF⟩ : ∃ F, leafS 0 [] = F := ⟨_, rfl⟩
  have HS := hid hS; have HS8 := hid hS8; have HR := hid hR; have HFF := hid hF
  have HO := hid (show rootS (sumsL (List.replicate 64 0) (List.replicate 10 0)) = R by rw [hS, hR])
  have HN := hid (show rootS [] = 0 by rfl)
  have HU0 := hid (show (unl S S 8).length = 0 by rw [unl_self S hS8]; rfl)
  have HU8 := hid (unl_nil S)
  have HG := hid (show sFrom 14695981039346656037 [0] = F from hF)
  clear hS hS8 hR hF
  go_enter Try.func8, Try.ntmps8
  go_wp2_with (first
    | (go_at_call 15; (with_reducible refine (PNew_calls _).mono ?_); rintro e w1 ⟨rfl, h', f'⟩; have HM := hid h'; have HF := hid f'; clear h' f')
    | (go_at_call 17; (with_reducible refine (Sums_calls HM.out S HS.out).mono ?_); rintro e w' ⟨g, rfl, hg, hI, f'⟩; have HI := hid hI; have n0_ := hid (HM.out.frm f' (fun h => h)); have n1_ := hid (below_frm0 HF.out f'); clear HM HF; have HM := n0_; clear n0_; have HF := n1_; clear n1_; clear f' hI hg)
    | (go_at_call 18; (with_reducible refine (Of_calls HM.out R HO.out).mono ?_); rintro e w' ⟨rfl, f'⟩; have n0_ := hid (HM.out.frm f' (fun h => h)); have n1_ := hid (below_frm0 HF.out f'); have n2_ := hid (HI.out.frm f' (fun _ _ h => h)); clear HM HF HI; have HM := n0_; clear n0_; have HF := n1_; clear n1_; have HI := n2_; clear n2_; clear f')
    | (go_at_call 11; (with_reducible refine (Root_calls 0 (IsInts.nil _ .u64) rfl 0 HN.out).mono ?_); rintro e w' ⟨rfl, f'⟩; have n0_ := hid (HM.out.frm f' (fun h => h)); have n1_ := hid (below_frm0 HF.out f'); have n2_ := hid (HI.out.frm f' (fun _ _ h => h)); clear HM HF HI; have HM := n0_; clear n0_; have HF := n1_; clear n1_; have HI := n2_; clear n2_; clear f')
    | (go_at_call 11; (with_reducible refine (Root_calls 8 HI.out HS8.out R HR.out).mono ?_); rintro e w' ⟨rfl, f'⟩; have n0_ := hid (HM.out.frm f' (fun h => h)); have n1_ := hid (below_frm0 HF.out f'); have n2_ := hid (HI.out.frm f' (fun _ _ h => h)); clear HM HF HI; have HM := n0_; clear n0_; have HF := n1_; clear n1_; have HI := n2_; clear n2_; clear f')
    | (go_at_call 12; (with_reducible refine (Unlike_calls 8 0 HI.out (IsInts.nil _ .u64) HS8.out rfl).mono ?_); rintro e w' ⟨a, c', rfl, hu, f'⟩; (rw [HU8.out]); have n0_ := hid (HM.out.frm f' (fun h => h)); have n1_ := hid (below_frm0 HF.out f'); have n2_ := hid (HI.out.frm f' (fun _ _ h => h)); clear HM HF HI; have HM := n0_; clear n0_; have HF := n1_; clear n1_; have HI := n2_; clear n2_; clear f' hu)
    | (go_at_call 12; (with_reducible refine (Unlike_calls 8 8 HI.out HI.out HS8.out HS8.out).mono ?_); rintro e w' ⟨a, c', rfl, hu, f'⟩; (rw [HU0.out]); have n0_ := hid (HM.out.frm f' (fun h => h)); have n1_ := hid (below_frm0 HF.out f'); have n2_ := hid (HI.out.frm f' (fun _ _ h => h)); clear HM HF HI; have HM := n0_; clear n0_; have HF := n1_; clear n1_; have HI := n2_; clear n2_; clear f' hu)
    | (go_at_call 13; (with_reducible refine (Leaf_calls 0 0 (IsInts.nil _ .u8) rfl (by decide) F HFF.out).mono ?_); rintro e w' ⟨rfl, f'⟩; have n0_ := hid (HM.out.frm f' (fun h => h)); have n1_ := hid (below_frm0 HF.out f'); have n2_ := hid (HI.out.frm f' (fun _ _ h => h)); clear HM HF HI; have HM := n0_; clear n0_; have HF := n1_; clear n1_; have HI := n2_; clear n2_; clear f')
    | (go_at_call 14; (with_reducible refine (RSum_calls (one_ints _ 0 _ (by decide)) 1 rfl F HG.out).mono ?_); rintro e w' ⟨rfl, rfl⟩; skip))
  go_ret
  exact ⟨rfl, HF.out.alloc HF.out.size _⟩
end Go.Proofs.Ytknaalaajmhjgaa
