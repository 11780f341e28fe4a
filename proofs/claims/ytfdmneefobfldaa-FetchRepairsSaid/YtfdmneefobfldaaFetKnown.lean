/- 'known' of layer 18 returns true. -/
import Derived.Test.YtfdmneefobfldaaFetch2
import Derived.Test.YtfdmneefobfldaaMerkHelp
namespace Go.Proofs.Ytfdmneefobfldaa
open Go.RowKit Go.ChangeShapes
set_option linter.unusedVariables false
set_option linter.unusedSimpArgs false
set_option maxRecDepth 20000
def kV : List Int := putV (List.replicate 64 0) 3 5
def kZ : List Int := List.replicate 64 0
def kC : List Int := List.replicate 10 0
theorem one_ints3 (w : World) (d : Int) (T : Nat) (hd : (Lit.int .i64 d).wf = true) : IsInts .i64 (w.alloc (.cells #[.int .i64 d] T)) (some ⟨w.heap.size, 0, none⟩) 1 [d] := one_intsI w d T hd
theorem k_roots : rootS (sumsL kZ kC) ≠ rootS (sumsL kV kC) := by decide +kernel
theorem k_unl : unl (sumsL kZ kC) (sumsL kV kC) 8 = [3] := by decide +kernel
theorem k_leaf : leafS 3 [] ≠ (sumsL kV kC).getD 3 0 := by decide +kernel
theorem k_set : (setT (unl (sumsL kZ kC) (sumsL kV kC) 8)).getD 2 false = false ∧ (setT (unl (sumsL kZ kC) (sumsL kV kC) 8)).getD 3 false = true := by rw [k_unl]; decide
theorem k_wants : wants ((setT (unl (sumsL kZ kC) (sumsL kV kC) 8)).set 3 false) = [] := by rw [k_unl]; decide
theorem k_load : loadV kZ kV 3 = kV := by decide +kernel
theorem k_page : pageB kV kC 3 = pvals kV 3 (pcount 3) := by decide +kernel
theorem k_sum' (vs cs : List Int) : leafS 3 (pageB vs cs 3) = (sumsL vs cs).getD 3 0 := rfl
theorem k_sum : leafS 3 (pageB kV kC 3) = (sumsL kV kC).getD 3 0 := k_sum' _ _
theorem k_bd : ∀ x ∈ kV, 0 ≤ x ∧ x ≤ 65535 := by decide +kernel
set_option maxHeartbeats 8000000 in
theorem known_calls (w : World) : Calls Try.prog 6 #[] w fun e w' => e = .returned (.bool true) ∧ Below w.heap.size w w' := by
  have L0 := hid k_roots; have L1 := hid k_unl; have L2 := hid k_leaf; have L3 := hid k_set; have L4 := hid k_wants; have L5 := hid k_load; have L6 := hid k_page; have L7 := hid k_sum; have L8 := hid k_bd
  have PV := hid (show putV (List.replicate 64 0) 3 5 = kV from rfl)
  have PZ := hid (show List.replicate 64 (0 : Int) = kZ from rfl)
  have PC := hid (show List.replicate 10 (0 : Int) = kC from rfl)
  generalize kV = V at *
  generalize kZ = Z at *
  generalize kC = C at *
  obtain ⟨SA, hSA⟩ : ∃ S, sumsL Z C = S := ⟨_, rfl⟩
  obtain ⟨SB, hSB⟩ : ∃ S, sumsL V C = S := ⟨_, rfl⟩
  have HA8 := hid (show SA.length = 8 by rw [← hSA]; rfl)
  have HB8 := hid (show SB.length = 8 by rw [← hSB]; rfl)
  have HSA := hid hSA; have HSB := hid hSB
  obtain ⟨RA, hRA⟩ : ∃ S, rootS SA = S := ⟨_, rfl⟩
  obtain ⟨RB, hRB⟩ : ∃ S, rootS SB = S := ⟨_, rfl⟩
  have HRA := hid hRA; have HRB := hid hRB
  have HRV := hid (show rootS (sumsL V C) = RB by rw [hSB, hRB])
  have HNE := hid (show (8 : Nat) ≠ 8 ∨ RA ≠ RB from .inr (by rw [← hRA, ← hRB, ← hSA, ← hSB]; exact L0.out))
  obtain ⟨W, hW⟩ : ∃ W, setT (unl SA SB 8) = W := ⟨_, rfl⟩
  have HW := hid hW
  have HW2 := hid (show W.getD 2 false = false by rw [← hW, ← hSA, ← hSB]; exact L3.out.1)
  have HW3 := hid (show W.getD 3 false = true by rw [← hW, ← hSA, ← hSB]; exact L3.out.2)
  have HWW := hid (show wants W = [3] by rw [← hW, wants_setT, ← hSA, ← hSB]; exact L1.out)
  have HWE := hid (show wants (W.set 3 false) = [] by rw [← hW, ← hSA, ← hSB]; exact L4.out)
  obtain ⟨F0, hF0⟩ : ∃ F, leafS 3 [] = F := ⟨_, rfl⟩
  have HF0 := hid (show leafS ((3 : Nat) : Int) [] = F0 from hF0)
  have HFN := hid (show F0 ≠ SB.getD 3 0 by rw [← hF0, ← hSB]; exact L2.out)
  have HLS := hid (show leafS ((3 : Nat) : Int) (pageB V C 3) = SB.getD 3 0 by rw [← hSB]; exact L7.out)
  clear hSA hSB hRA hRB hW hF0
  go_enter Try.func6, Try.ntmps6
  go_wp2_with (first
    | (go_at_call 7; (with_reducible refine (PNew_calls w).mono ?_); rintro e w2 ⟨rfl, h', f'⟩; (rw [PZ.out, PC.out] at h'); have HB := hid (Nat.le_refl w.heap.size); have HA := hid h'; have HF := hid f'; clear f' h')
    | (go_at_call 7; (with_reducible refine (PNew_calls _).mono ?_); rintro e w3 ⟨rfl, h', f'⟩; have HAL := hid HA.out.blk.lt; have HCB := hid HF.out.size; have HM := hid h'; have n0_ := hid (HA.out.frm (frm0_of f') (fun h => h)); have n1_ := hid (below_next HF.out f'); clear HA HF; have HA := n0_; clear n0_; have HF := n1_; clear n1_; clear f' h')
    | (go_at_call 8; (with_reducible refine (PPut_calls HM.out 3 (by decide) 5 (by decide) V PV.out).mono ?_); rintro e w' ⟨rfl, h', f'⟩; (rw [PC.out] at h'); have n0_ := hid (h'); have n1_ := hid (HA.out.frm f' (fun e => Nat.ne_of_lt HAL.out e)); have n2_ := hid (below_frm1 HF.out f' HCB.out); clear HM HA HF; have HM := n0_; clear n0_; have HA := n1_; clear n1_; have HF := n2_; clear n2_; clear f' h')
    | (go_at_call 10; (with_reducible refine (Of_calls HM.out RB HRV.out).mono ?_); rintro e w' ⟨rfl, f'⟩; have n0_ := hid (HA.out.frm f' (fun h => h)); have n1_ := hid (HM.out.frm f' (fun h => h)); have n2_ := hid (below_frm0 HF.out f'); clear HA HM HF; have HA := n0_; clear n0_; have HM := n1_; clear n1_; have HF := n2_; clear n2_; clear f')
    | (go_at_call 9; (with_reducible refine (FNew_calls HA.out 4 RB).mono ?_); rintro e w' ⟨fb, mb, rfl, hfb, hmb, he, f'⟩; have HFB := hid (Nat.le_trans HF.out.size hfb); have HMB := hid (Nat.le_trans HF.out.size hmb); have HE := hid he; have HFA := hid (show w.heap.size ≠ fb from fun e => by have := HA.out.blk.lt; omega); have HFM := hid (show fb ≠ w2.heap.size from fun e => by have := HM.out.blk.lt; omega); have HMM := hid (show mb ≠ w2.heap.size from fun e => by have := HM.out.blk.lt; omega); have n0_ := hid (HA.out.frm (frm0_of f') (fun h => h)); have n1_ := hid (HM.out.frm (frm0_of f') (fun h => h)); have n2_ := hid (below_next HF.out f'); clear HA HM HF; have HA := n0_; clear n0_; have HM := n1_; clear n1_; have HF := n2_; clear n2_; clear f' he hfb hmb)
    | (go_at_call 14; (with_reducible refine (Sums_calls HA.out SA HSA.out).mono ?_); rintro e w' ⟨ga, rfl, hg, hI, f'⟩; have HIA := hid hI; have n0_ := hid (HA.out.frm f' (fun h => h)); have n1_ := hid (HM.out.frm f' (fun h => h)); have n2_ := hid (HE.out.quiet f'); have n3_ := hid (below_frm0 HF.out f'); clear HA HM HE HF; have HA := n0_; clear n0_; have HM := n1_; clear n1_; have HE := n2_; clear n2_; have HF := n3_; clear n3_; clear f'; clear hg hI)
    | (go_at_call 13; (with_reducible refine (FSums_bad HE.out HIA.out HA8.out RA HRA.out HNE.out).mono ?_); rintro e w' ⟨rfl, f'⟩; have n0_ := hid (HA.out.frm f' (fun h => h)); have n1_ := hid (HM.out.frm f' (fun h => h)); have n2_ := hid (HE.out.quiet f'); have n3_ := hid (below_frm0 HF.out f'); clear HA HM HE HF; have HA := n0_; clear n0_; have HM := n1_; clear n1_; have HE := n2_; clear n2_; have HF := n3_; clear n3_; clear f')
    | (go_at_call 14; (with_reducible refine (Sums_calls HM.out SB HSB.out).mono ?_); rintro e w' ⟨gs, rfl, hg, hI, f'⟩; have HIB := hid hI; have n0_ := hid (HA.out.frm f' (fun h => h)); have n1_ := hid (HM.out.frm f' (fun h => h)); have n2_ := hid (HE.out.quiet f'); have n3_ := hid (below_frm0 HF.out f'); clear HA HM HE HF; have HA := n0_; clear n0_; have HM := n1_; clear n1_; have HE := n2_; clear n2_; have HF := n3_; clear n3_; clear f'; clear hg hI)
    | (go_at_call 13; (with_reducible refine (FSums_ok HE.out HIB.out HB8.out rfl HRB.out SA HSA.out).mono ?_); rintro e w' ⟨g, c, rfl, he, f', hg⟩; (rw [HW.out] at he); have HE1 := hid he; have n0_ := hid (HA.out.frm f' (fun e => HFA.out e)); have n1_ := hid (HM.out.frm f' (fun e => HFM.out e.symm)); have n2_ := hid (below_frm1 HF.out f' HFB.out); clear HA HM HF; have HA := n0_; clear n0_; have HM := n1_; clear n1_; have HF := n2_; clear n2_; clear f' he hg HE)
    | (go_at_call 16; (with_reducible refine (Wants1_calls HE1.out).mono ?_); rintro e w' ⟨a, c', rfl, hi, f'⟩; (rw [HWW.out] at hi); (rw [HWW.out]); have HI := hid hi; have n0_ := hid (HA.out.frm f' (fun h => h)); have n1_ := hid (HM.out.frm f' (fun h => h)); have n2_ := hid (HE1.out.quiet f'); have n3_ := hid (below_frm0 HF.out f'); clear HA HM HE1 HF; have HA := n0_; clear n0_; have HM := n1_; clear n1_; have HE1 := n2_; clear n2_; have HF := n3_; clear n3_; clear f'; clear hi)
    | (go_at_call 26; (with_reducible refine (HInts_eq 1 1 (HI.out.frm (frm_box _ _) (fun _ _ h => h)) (one_ints3 _ 3 _ (by decide)) rfl rfl).mono ?_); rintro e w' ⟨rfl, f'⟩; have f2 := (frm_box _ _).trans f'; clear f'; have f' := f2; clear f2; have n0_ := hid (HA.out.frm f' (fun h => h)); have n1_ := hid (HM.out.frm f' (fun h => h)); have n2_ := hid (HE1.out.quiet f'); have n3_ := hid (below_frm0 HF.out f'); clear HA HM HE1 HF; have HA := n0_; clear n0_; have HM := n1_; clear n1_; have HE1 := n2_; clear n2_; have HF := n3_; clear n3_; clear f')
    | (go_at_call 11; (with_reducible refine (FPage_noneP HE1.out 2 2 rfl (by decide) HW2.out none 0 0).mono ?_); rintro e w' ⟨rfl, rfl⟩; skip)
    | (go_at_call 11; (with_reducible refine (FPage_badP HE1.out 3 3 rfl (by decide) HW3.out (IsInts.nil _ .u8) (show ([] : List Int).length = 0 from rfl) (by decide) F0 HF0.out HFN.out).mono ?_); rintro e w' ⟨rfl, f'⟩; have n0_ := hid (HA.out.frm f' (fun h => h)); have n1_ := hid (HM.out.frm f' (fun h => h)); have n2_ := hid (HE1.out.quiet f'); have n3_ := hid (below_frm0 HF.out f'); clear HA HM HE1 HF; have HA := n0_; clear n0_; have HM := n1_; clear n1_; have HE1 := n2_; clear n2_; have HF := n3_; clear n3_; clear f')
    | (go_at_call 12; (with_reducible refine (Page_of HM.out 3 3 rfl (by decide)).mono ?_); rintro e w' ⟨g1, rfl, _, h1, f'⟩; have HI1 := hid h1; have n0_ := hid (HA.out.frm f' (fun h => h)); have n1_ := hid (HM.out.frm f' (fun h => h)); have n2_ := hid (HE1.out.quiet f'); have n3_ := hid (below_frm0 HF.out f'); clear HA HM HE1 HF; have HA := n0_; clear n0_; have HM := n1_; clear n1_; have HE1 := n2_; clear n2_; have HF := n3_; clear n3_; clear f'; clear h1)
    | (go_at_call 11; (with_reducible refine (FPage_goodP HE1.out 3 3 rfl (by decide) HW3.out HI1.out rfl V L8.out L6.out (SB.getD 3 0) rfl HLS.out V L5.out).mono ?_); rintro e w' ⟨rfl, he, f'⟩; have HE2 := hid he; have n0_ := hid (HM.out.frm f' (fun e => by rcases e with e | e; exact HFM.out e.symm; exact HMM.out e.symm)); have n1_ := hid (below_frm2 HF.out f' HFB.out HMB.out); clear HM HF; have HM := n0_; clear n0_; have HF := n1_; clear n1_; clear f' he)
    | (go_at_call 17; (with_reducible refine (Done_yes HE2.out HWE.out).mono ?_); rintro e w' ⟨bd, rfl, h', f'⟩; have HD := hid h'; have n0_ := hid (HM.out.frm (frm0_of f') (fun h => h)); have n1_ := hid (below_next HF.out f'); clear HM HF; have HM := n0_; clear n0_; have HF := n1_; clear n1_; clear f' h')
    | (go_at_call 31; (with_reducible refine (PSame_calls HD.out HM.out true (by simp)).mono ?_); rintro e w' ⟨rfl, f'⟩; have n0_ := hid (below_frm0 HF.out f'); clear HF; have HF := n0_; clear n0_; clear f'))
  go_ret
  exact ⟨rfl, HF.out⟩
end Go.Proofs.Ytfdmneefobfldaa
