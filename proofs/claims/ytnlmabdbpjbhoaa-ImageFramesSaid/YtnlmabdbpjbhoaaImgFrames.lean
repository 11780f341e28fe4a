/- ImageFrames, walked: every turn and bytes have the document's frame; whatever bytes are one, or none. -/
import Derived.Test.YtnlmabdbpjbhoaaImgKnown
import Derived.Test.YtnlmabdbpjbhoaaImgRp
import Derived.Test.YtnlmabdbpjbhoaaHeld
namespace Go.Proofs.Ytnlmabdbpjbhoaa
open Go.RowKit Go.ChangeShapes
set_option linter.unusedVariables false
set_option linter.unusedSimpArgs false
set_option maxHeartbeats 4000000 in
theorem ImageFrames_walk (a0 : Int) (a1 : Option Addr) (c1 : Nat) (z1 : List Int) (a2 : Option Addr) (c2 : Nat) (z2 : List Int) (w : World) (w0 : (Lit.int .u32 a0).wf = true) (h1 : IsInts .u8 w a1 c1 z1) (h2 : IsInts .u8 w a2 c2 z2) :
    Calls Try.prog 3 #[.int .u32 a0, .slice a1 z1.length c1, .slice a2 z2.length c2] w fun e w' => e = .returned (.bool true) ∧ Below w.heap.size w w' := by
  have hb := bounds_u32 w0
  clear w0
  have ha0 := hb.1
  have ha1 := hb.2
  clear hb
  have hle1 := h1.le
  have hle2 := h2.le
  have hsm1 := h1.small
  have hsm2 := h2.small
  have H1 := hid h1; have H2 := hid h2; clear h1 h2
  by_cases hl1 : z1.length > 400
  · go_enter Try.func3, Try.ntmps3
    go_wp2_with (go_at_call 8; (with_reducible refine (known_calls _).mono ?_); rintro e w' ⟨rfl, f1⟩)
    go_ret
    exact ⟨rfl, f1⟩
  by_cases hl2 : z2.length > 400
  · go_enter Try.func3, Try.ntmps3
    go_wp2_with (go_at_call 8; (with_reducible refine (known_calls _).mono ?_); rintro e w' ⟨rfl, f1⟩)
    go_ret
    exact ⟨rfl, f1⟩
  have hm1 := hid (show z1.length ≤ 40040 by omega)
  have hm2 := hid (show z2.length ≤ 40040 by omega)
  have hz0 := fun w : World => conv_of (IsInts.nil w .u8) (l := 0) rfl
  have ht := hid (show a0 < 4294967296 by omega)
  obtain ⟨fr, hfr⟩ : ∃ fr, frame a0 z1 = fr := ⟨_, rfl⟩
  have HFR := hid hfr; clear hfr
  rcases hpq : parse z2 with _ | ⟨t, bs⟩
  · have hp := hid hpq; clear hpq
    go_enter Try.func3, Try.ntmps3
    go_wp2_with (first
      | (go_at_call 8; (with_reducible refine (known_calls _).mono ?_); rintro e w' ⟨rfl, f1⟩; have HF := hid f1; clear f1)
      | (go_at_call 9; (with_reducible refine (Parse_none (H2.out.below HF.out (Nat.le_refl _)) hm2.out z2.length rfl hp.out).mono ?_); rintro e w' ⟨rfl, f'⟩; have n0_ := hid (below_frm0 HF.out f'); clear HF; have HF := n0_; clear n0_; clear f')
      | (go_at_call 10; (with_reducible refine (RParse_none (H2.out.below HF.out (Nat.le_refl _)) hm2.out hp.out).mono ?_); rintro e w' ⟨rfl, f'⟩; have n0_ := hid (below_frm0 HF.out f'); clear HF; have HF := n0_; clear n0_; clear f'))
    have HF2 := hid (bdrew HF.out); clear HF; have HF := HF2; clear HF2
    refine wp_region_held_drew (S := fun wx => True) (by kernel_rfl) (by trivial) (fun hHeld => ?_)
    refine wpAnyH_take (i := 0) (oi := ⟨some 35, _, _, _, _, _⟩) (v := ?v1) rfl (by kernel_rfl) (by kernel_rfl) (by kernel_rfl) (fun _ _ _ h => h) (Or.inl ⟨by rfl, ?y1⟩) (by assumption) ?r1
    case y1 => (intro wx hSx; (try dsimp only at hSx); go_simp; (try with_reducible rfl))
    try simp only [Act.put, List.setIfInBounds_toArray, List.set_cons_zero, List.set_cons_succ]
    refine wpAnyH_take (i := 1) (oi := ⟨some 36, _, _, _, _, _⟩) (v := ?v2) rfl (by kernel_rfl) (by kernel_rfl) (by kernel_rfl) (fun _ _ _ h => h) (Or.inl ⟨by rfl, ?y2⟩) (by assumption) ?r2
    case y2 => (intro wx hSx; (try dsimp only at hSx); go_simp; (try with_reducible rfl))
    try simp only [Act.put, List.setIfInBounds_toArray, List.set_cons_zero, List.set_cons_succ]
    refine wpAnyH_take (i := 4) (oi := ⟨some 39, _, _, _, _, _⟩) (v := ?v3) rfl (by kernel_rfl) (by kernel_rfl) (by kernel_rfl) (fun _ _ _ h => h) (Or.inl ⟨by rfl, ?y3⟩) (by assumption) ?r3
    case y3 => (intro wx hSx; (try dsimp only at hSx); go_simp; (try with_reducible rfl))
    try simp only [Act.put, List.setIfInBounds_toArray, List.set_cons_zero, List.set_cons_succ]
    refine wpAnyH_take (i := 5) (oi := ⟨some 40, _, _, _, _, _⟩) (v := ?v4) rfl (by kernel_rfl) (by kernel_rfl) (by kernel_rfl) (fun _ _ _ h => h) (Or.inl ⟨by rfl, ?y4⟩) (by assumption) ?r4
    case y4 => (intro wx hSx; (try dsimp only at hSx); go_simp; (try with_reducible rfl))
    try simp only [Act.put, List.setIfInBounds_toArray, List.set_cons_zero, List.set_cons_succ]
    refine wpAnyH_ready (rs := [2]) (by kernel_rfl) (by simp) ?_
    refine AllReadyH.cons (o := ⟨some 37, _, _, _, _, _⟩) rfl (fun K hK => ?_) AllReadyH.nil
    go_simp
    go_wp2_with ((go_at_call 11; (with_reducible refine (Frame_calls ha0 ht.out (H1.out.below HF.out (Nat.le_refl _)) hm1.out).mono ?_); rintro e w' ⟨A1, l1, k1, rfl, hl, hA, f'⟩; (rw [HFR.out] at hA hl); have HA := hid hA; have HL := hid hl; have n0_ := hid (below_frm0 HF.out f'); clear HF; have HF := n0_; clear n0_; clear f' hA hl))
    refine hK.out _ _ ?_ (fun hHeld2 => ?_)
    · ((try dsimp only); (try trivial))
    clear hK K hHeld; have hHeld := hHeld2; clear hHeld2
    try simp only [Act.put, List.setIfInBounds_toArray, List.set_cons_zero, List.set_cons_succ]
    refine wpAnyH_to (S' := fun wx => (convert 23 9 (.slice A1 l1 k1)).run Try.prog wx = .ok (.string (strOfNums fr)) wx) (fun _ h => trivial) _ _ _ _ ?_
    have hHeld2 : (fun wx => (convert 23 9 (.slice A1 l1 k1)).run Try.prog wx = .ok (.string (strOfNums fr)) wx) _ := conv_of HA.out HL.out.symm
    clear hHeld; have hHeld := hHeld2; clear hHeld2; (try dsimp only at hHeld)
    refine wpAnyH_take (i := 3) (oi := ⟨some 38, _, _, _, _, _⟩) (v := ?v5) rfl (by kernel_rfl) (by kernel_rfl) (by kernel_rfl) (fun _ _ _ h => h) (Or.inl ⟨by rfl, ?y5⟩) (by assumption) ?r5
    case y5 => (intro wx hSx; (try dsimp only at hSx); go_simp; (try with_reducible rfl))
    try simp only [Act.put, List.setIfInBounds_toArray, List.set_cons_zero, List.set_cons_succ]
    refine wpAnyH_ready (rs := [6]) (by kernel_rfl) (by simp) ?_
    refine AllReadyH.cons (o := ⟨some 41, _, _, _, _, _⟩) rfl (fun K hK => ?_) AllReadyH.nil
    go_simp
    go_wp2_with ((go_at_call 12; (with_reducible refine (RFrame_calls ha0 ht.out (H1.out.below HF.out (Nat.le_refl _)) hm1.out).mono ?_); rintro e w' ⟨v, rfl, hO, f'⟩; obtain ⟨A2, k2, e2, hA2, _⟩ := hO.ints; cases e2; (rw [HFR.out] at hA2 ⊢); have HA2 := hid hA2; have n0_ := hid (below_frm0 HF.out f'); have n1_ := hid (HA.out.frm f' (fun _ _ h => h)); clear HF HA; have HF := n0_; clear n0_; have HA := n1_; clear n1_; clear f' hA2 hO))
    refine hK.out _ _ ?_ (fun hHeld2 => ?_)
    · ((try dsimp only); exact conv_of HA.out HL.out.symm)
    clear hK K hHeld; have hHeld := hHeld2; clear hHeld2
    try simp only [Act.put, List.setIfInBounds_toArray, List.set_cons_zero, List.set_cons_succ]
    refine wpAnyH_to (S' := fun wx => (convert 23 9 (.slice A1 l1 k1)).run Try.prog wx = .ok (.string (strOfNums fr)) wx ∧ (convert 23 9 (.slice A2 fr.length k2)).run Try.prog wx = .ok (.string (strOfNums fr)) wx) (fun _ h => h.1) _ _ _ _ ?_
    have hHeld2 : (fun wx => (convert 23 9 (.slice A1 l1 k1)).run Try.prog wx = .ok (.string (strOfNums fr)) wx ∧ (convert 23 9 (.slice A2 fr.length k2)).run Try.prog wx = .ok (.string (strOfNums fr)) wx) _ := ⟨conv_of HA.out HL.out.symm, conv_of HA2.out rfl⟩
    clear hHeld; have hHeld := hHeld2; clear hHeld2; (try dsimp only at hHeld)
    refine wpAnyH_take (i := 7) (oi := ⟨some 42, _, _, _, _, _⟩) (v := ?v6) rfl (by kernel_rfl) (by kernel_rfl) (by kernel_rfl) (fun _ _ _ h => h) (Or.inl ⟨by rfl, ?y6⟩) (by assumption) ?r6
    case y6 => (intro wx hSx; (try dsimp only at hSx); go_simp; (try with_reducible rfl))
    try simp only [Act.put, List.setIfInBounds_toArray, List.set_cons_zero, List.set_cons_succ]
    refine wpAnyH_take (i := 8) (oi := ⟨some 43, _, _, _, _, _⟩) (v := ?v7) rfl (by kernel_rfl) (by kernel_rfl) (by kernel_rfl) (fun _ _ _ h => h) (Or.inl ⟨by rfl, ?y7⟩) (by assumption) ?r7
    case y7 => (intro wx hSx; (try dsimp only at hSx); go_simp; (try with_reducible rfl))
    try simp only [Act.put, List.setIfInBounds_toArray, List.set_cons_zero, List.set_cons_succ]
    refine wpAnyH_take (i := 9) (oi := ⟨some 44, _, _, _, _, _⟩) (v := ?v8) rfl (by kernel_rfl) (by kernel_rfl) (by kernel_rfl) (fun _ _ _ h => h) (Or.inl ⟨by rfl, ?y8⟩) (by assumption) ?r8
    case y8 => (intro wx hSx; (try dsimp only at hSx); go_simp; (try with_reducible rfl))
    try simp only [Act.put, List.setIfInBounds_toArray, List.set_cons_zero, List.set_cons_succ]
    refine wpAnyH_take (i := 10) (oi := ⟨some 45, _, _, _, _, _⟩) (v := ?v9) rfl (by kernel_rfl) (by kernel_rfl) (by kernel_rfl) (fun _ _ _ h => h) (Or.inl ⟨by rfl, ?y9⟩) (by assumption) ?r9
    case y9 => (intro wx hSx; (try dsimp only at hSx); go_simp; (try with_reducible rfl))
    try simp only [Act.put, List.setIfInBounds_toArray, List.set_cons_zero, List.set_cons_succ]
    refine wpAnyH_take (i := 11) (oi := ⟨some 46, _, _, _, _, _⟩) (v := ?v10) rfl (by kernel_rfl) (by kernel_rfl) (by kernel_rfl) (fun _ _ _ h => h) (Or.inl ⟨by rfl, ?y10⟩) (by assumption) ?r10
    case y10 => (intro wx hSx; (try dsimp only at hSx); go_simp; (try with_reducible rfl))
    try simp only [Act.put, List.setIfInBounds_toArray, List.set_cons_zero, List.set_cons_succ]
    refine wpAnyH_take (i := 12) (oi := ⟨some 47, _, _, _, _, _⟩) (v := ?v11) rfl (by kernel_rfl) (by kernel_rfl) (by kernel_rfl) (fun _ _ _ h => h) (Or.inl ⟨by rfl, ?y11⟩) (by assumption) ?r11
    case y11 => (intro wx hSx; (try dsimp only at hSx); go_simp; (try with_reducible rfl))
    try simp only [Act.put, List.setIfInBounds_toArray, List.set_cons_zero, List.set_cons_succ]
    refine wpAnyH_take (i := 13) (oi := ⟨some 48, _, _, _, _, _⟩) (v := ?v12) rfl (by kernel_rfl) (by kernel_rfl) (by kernel_rfl) (fun _ _ _ h => h) (Or.inl ⟨by rfl, ?y12⟩) (by assumption) ?r12
    case y12 => (intro wx hSx; (try dsimp only at hSx); go_simp; (try with_reducible rfl))
    try simp only [Act.put, List.setIfInBounds_toArray, List.set_cons_zero, List.set_cons_succ]
    refine wpAnyH_take (i := 14) (oi := ⟨some 49, _, _, _, _, _⟩) (v := ?v13) rfl (by kernel_rfl) (by kernel_rfl) (by kernel_rfl) (fun _ _ _ h => h) (Or.inl ⟨by rfl, ?y13⟩) (by assumption) ?r13
    case y13 => (intro wx hSx; (try dsimp only at hSx); go_simp; (try with_reducible rfl))
    try simp only [Act.put, List.setIfInBounds_toArray, List.set_cons_zero, List.set_cons_succ]
    refine wpAnyH_take (i := 15) (oi := ⟨some 50, _, _, _, _, _⟩) (v := ?v14) rfl (by kernel_rfl) (by kernel_rfl) (by kernel_rfl) (fun _ _ _ h => h) (Or.inl ⟨by rfl, ?y14⟩) (by assumption) ?r14
    case y14 => (intro wx hSx; (try dsimp only at hSx); go_simp; (try with_reducible rfl))
    try simp only [Act.put, List.setIfInBounds_toArray, List.set_cons_zero, List.set_cons_succ]
    refine wpAnyH_take (i := 16) (oi := ⟨some 51, _, _, _, _, _⟩) (v := ?v15) rfl (by kernel_rfl) (by kernel_rfl) (by kernel_rfl) (fun _ _ _ h => h) (Or.inl ⟨by rfl, ?y15⟩) (by assumption) ?r15
    case y15 => (intro wx hSx; (try dsimp only at hSx); go_simp; (try with_reducible rfl))
    try simp only [Act.put, List.setIfInBounds_toArray, List.set_cons_zero, List.set_cons_succ]
    refine wpAnyH_take (i := 17) (oi := ⟨some 52, _, _, _, _, _⟩) (v := ?v16) rfl (by kernel_rfl) (by kernel_rfl) (by kernel_rfl) (fun _ _ _ h => h) (Or.inl ⟨by rfl, ?y16⟩) (by assumption) ?r16
    case y16 => (intro wx hSx; (try dsimp only at hSx); go_simp; (try with_reducible rfl))
    try simp only [Act.put, List.setIfInBounds_toArray, List.set_cons_zero, List.set_cons_succ]
    refine wpAnyH_take (i := 18) (oi := ⟨some 53, _, _, _, _, _⟩) (v := ?v17) rfl (by kernel_rfl) (by kernel_rfl) (by kernel_rfl) (fun _ _ _ h => h) (Or.inl ⟨by rfl, ?y17⟩) (by assumption) ?r17
    case y17 => (intro wx hSx; (try dsimp only at hSx); go_simp; (try with_reducible rfl))
    try simp only [Act.put, List.setIfInBounds_toArray, List.set_cons_zero, List.set_cons_succ]
    refine wpAnyH_take (i := 19) (oi := ⟨some 54, _, _, _, _, _⟩) (v := ?v18) rfl (by kernel_rfl) (by kernel_rfl) (by kernel_rfl) (fun _ _ _ h => h) (Or.inl ⟨by rfl, ?y18⟩) (by assumption) ?r18
    case y18 => (intro wx hSx; (try dsimp only at hSx); go_simp; (try with_reducible rfl))
    try simp only [Act.put, List.setIfInBounds_toArray, List.set_cons_zero, List.set_cons_succ]
    refine wpAnyH_take (i := 20) (oi := ⟨some 55, _, _, _, _, _⟩) (v := ?v19) rfl (by kernel_rfl) (by kernel_rfl) (by kernel_rfl) (fun _ _ _ h => h) (Or.inl ⟨by rfl, ?y19⟩) (by assumption) ?r19
    case y19 => (intro wx hSx; (try dsimp only at hSx); go_simp; (try with_reducible rfl))
    try simp only [Act.put, List.setIfInBounds_toArray, List.set_cons_zero, List.set_cons_succ]
    refine wpAnyH_take (i := 21) (oi := ⟨some 56, _, _, _, _, _⟩) (v := ?v20) rfl (by kernel_rfl) (by kernel_rfl) (by kernel_rfl) (fun _ _ _ h => h) (Or.inl ⟨by rfl, ?y20⟩) (by assumption) ?r20
    case y20 => (intro wx hSx; (try dsimp only at hSx); go_simp; (try with_reducible rfl))
    try simp only [Act.put, List.setIfInBounds_toArray, List.set_cons_zero, List.set_cons_succ]
    refine wpAnyH_take (i := 22) (oi := ⟨some 57, _, _, _, _, _⟩) (v := ?v21) rfl (by kernel_rfl) (by kernel_rfl) (by kernel_rfl) (fun _ _ _ h => h) (Or.inl ⟨by rfl, ?y21⟩) (by assumption) ?r21
    case y21 => (intro wx hSx; (try dsimp only at hSx); go_simp; (try with_reducible rfl))
    try simp only [Act.put, List.setIfInBounds_toArray, List.set_cons_zero, List.set_cons_succ]
    refine wpAnyH_take (i := 23) (oi := ⟨some 58, _, _, _, _, _⟩) (v := ?v22) rfl (by kernel_rfl) (by kernel_rfl) (by kernel_rfl) (fun _ _ _ h => h) (Or.inl ⟨by rfl, ?y22⟩) (by assumption) ?r22
    case y22 => (intro wx hSx; (try dsimp only at hSx); go_simp; (try with_reducible rfl))
    try simp only [Act.put, List.setIfInBounds_toArray, List.set_cons_zero, List.set_cons_succ]
    refine wpAnyH_take (i := 24) (oi := ⟨some 59, _, _, _, _, _⟩) (v := ?v23) rfl (by kernel_rfl) (by kernel_rfl) (by kernel_rfl) (fun _ _ _ h => h) (Or.inl ⟨by rfl, ?y23⟩) (by assumption) ?r23
    case y23 => (intro wx hSx; (try dsimp only at hSx); go_simp; (try with_reducible rfl))
    try simp only [Act.put, List.setIfInBounds_toArray, List.set_cons_zero, List.set_cons_succ]
    refine wpAnyH_take (i := 25) (oi := ⟨some 60, _, _, _, _, _⟩) (v := ?v24) rfl (by kernel_rfl) (by kernel_rfl) (by kernel_rfl) (fun _ _ _ h => h) (Or.inl ⟨by rfl, ?y24⟩) (by assumption) ?r24
    case y24 => (intro wx hSx; (try dsimp only at hSx); go_simp; (try with_reducible rfl))
    try simp only [Act.put, List.setIfInBounds_toArray, List.set_cons_zero, List.set_cons_succ]
    refine wpAnyH_take (i := 26) (oi := ⟨some 6, _, _, _, _, _⟩) (v := ?v25) rfl (by kernel_rfl) (by kernel_rfl) (by kernel_rfl) (fun _ _ _ h => h) (Or.inl ⟨by rfl, ?y25⟩) (by assumption) ?r25
    case y25 => (intro wx hSx; (try dsimp only at hSx); go_simp; (try with_reducible rfl))
    try simp only [Act.put, List.setIfInBounds_toArray, List.set_cons_zero, List.set_cons_succ]
    refine wpAnyH_done (by kernel_rfl) ?_ _
    go_wp2
    go_ret
    exact ⟨rfl, HF.out⟩
  · have hp := hid hpq; clear hpq
    go_enter Try.func3, Try.ntmps3
    go_wp2_with (first
      | (go_at_call 8; (with_reducible refine (known_calls _).mono ?_); rintro e w' ⟨rfl, f1⟩; have HF := hid f1; clear f1)
      | (go_at_call 9; (with_reducible refine (Parse_some (H2.out.below HF.out (Nat.le_refl _)) hm2.out z2.length rfl t bs hp.out).mono ?_); rintro e w' ⟨gb, rfl, hgb, hB, f'⟩; have HB := hid hB; have n0_ := hid (below_frm0 HF.out f'); clear HF; have HF := n0_; clear n0_; clear f' hB hgb)
      | (go_at_call 10; (with_reducible refine (RParse_some (H2.out.below HF.out (Nat.le_refl _)) hm2.out t bs hp.out).mono ?_); rintro e w' ⟨A, k, rfl, hX, f'⟩; have HX := hid hX; have n0_ := hid (below_frm0 HF.out f'); have n1_ := hid (HB.out.frm f' (fun _ _ h => h)); clear HF HB; have HF := n0_; clear n0_; have HB := n1_; clear n1_; clear f' hX))
    have HF2 := hid (bdrew HF.out); clear HF; have HF := HF2; clear HF2
    have HB2 := hid (HB.out.frm (frm_drew _) (fun _ _ h => h)); clear HB; have HB := HB2; clear HB2
    have HX2 := hid (HX.out.frm (frm_drew _) (fun _ _ h => h)); clear HX; have HX := HX2; clear HX2
    refine wp_region_held_drew (S := fun wx => True) (by kernel_rfl) (by trivial) (fun hHeld => ?_)
    refine wpAnyH_take (i := 0) (oi := ⟨some 35, _, _, _, _, _⟩) (v := ?v26) rfl (by kernel_rfl) (by kernel_rfl) (by kernel_rfl) (fun _ _ _ h => h) (Or.inl ⟨by rfl, ?y26⟩) (by assumption) ?r26
    case y26 => (intro wx hSx; (try dsimp only at hSx); go_simp; (try with_reducible rfl))
    try simp only [Act.put, List.setIfInBounds_toArray, List.set_cons_zero, List.set_cons_succ]
    refine wpAnyH_take (i := 1) (oi := ⟨some 36, _, _, _, _, _⟩) (v := ?v27) rfl (by kernel_rfl) (by kernel_rfl) (by kernel_rfl) (fun _ _ _ h => h) (Or.inl ⟨by rfl, ?y27⟩) (by assumption) ?r27
    case y27 => (intro wx hSx; (try dsimp only at hSx); go_simp; (try with_reducible rfl))
    try simp only [Act.put, List.setIfInBounds_toArray, List.set_cons_zero, List.set_cons_succ]
    refine wpAnyH_take (i := 4) (oi := ⟨some 39, _, _, _, _, _⟩) (v := ?v28) rfl (by kernel_rfl) (by kernel_rfl) (by kernel_rfl) (fun _ _ _ h => h) (Or.inl ⟨by rfl, ?y28⟩) (by assumption) ?r28
    case y28 => (intro wx hSx; (try dsimp only at hSx); go_simp; (try with_reducible rfl))
    try simp only [Act.put, List.setIfInBounds_toArray, List.set_cons_zero, List.set_cons_succ]
    refine wpAnyH_take (i := 5) (oi := ⟨some 40, _, _, _, _, _⟩) (v := ?v29) rfl (by kernel_rfl) (by kernel_rfl) (by kernel_rfl) (fun _ _ _ h => h) (Or.inl ⟨by rfl, ?y29⟩) (by assumption) ?r29
    case y29 => (intro wx hSx; (try dsimp only at hSx); go_simp; (try with_reducible rfl))
    try simp only [Act.put, List.setIfInBounds_toArray, List.set_cons_zero, List.set_cons_succ]
    refine wpAnyH_ready (rs := [2]) (by kernel_rfl) (by simp) ?_
    refine AllReadyH.cons (o := ⟨some 37, _, _, _, _, _⟩) rfl (fun K hK => ?_) AllReadyH.nil
    go_simp
    go_wp2_with ((go_at_call 11; (with_reducible refine (Frame_calls ha0 ht.out (H1.out.below HF.out (Nat.le_refl _)) hm1.out).mono ?_); rintro e w' ⟨A1, l1, k1, rfl, hl, hA, f'⟩; (rw [HFR.out] at hA hl); have HA := hid hA; have HL := hid hl; have n0_ := hid (below_frm0 HF.out f'); have n1_ := hid (HB.out.frm f' (fun _ _ h => h)); have n2_ := hid (HX.out.frm f' (fun _ _ h => h)); clear HF HB HX; have HF := n0_; clear n0_; have HB := n1_; clear n1_; have HX := n2_; clear n2_; clear f' hA hl))
    refine hK.out _ _ ?_ (fun hHeld2 => ?_)
    · ((try dsimp only); (try trivial))
    clear hK K hHeld; have hHeld := hHeld2; clear hHeld2
    try simp only [Act.put, List.setIfInBounds_toArray, List.set_cons_zero, List.set_cons_succ]
    refine wpAnyH_to (S' := fun wx => (convert 23 9 (.slice A1 l1 k1)).run Try.prog wx = .ok (.string (strOfNums fr)) wx) (fun _ h => trivial) _ _ _ _ ?_
    have hHeld2 : (fun wx => (convert 23 9 (.slice A1 l1 k1)).run Try.prog wx = .ok (.string (strOfNums fr)) wx) _ := conv_of HA.out HL.out.symm
    clear hHeld; have hHeld := hHeld2; clear hHeld2; (try dsimp only at hHeld)
    refine wpAnyH_take (i := 3) (oi := ⟨some 38, _, _, _, _, _⟩) (v := ?v30) rfl (by kernel_rfl) (by kernel_rfl) (by kernel_rfl) (fun _ _ _ h => h) (Or.inl ⟨by rfl, ?y30⟩) (by assumption) ?r30
    case y30 => (intro wx hSx; (try dsimp only at hSx); go_simp; (try with_reducible rfl))
    try simp only [Act.put, List.setIfInBounds_toArray, List.set_cons_zero, List.set_cons_succ]
    refine wpAnyH_ready (rs := [6]) (by kernel_rfl) (by simp) ?_
    refine AllReadyH.cons (o := ⟨some 41, _, _, _, _, _⟩) rfl (fun K hK => ?_) AllReadyH.nil
    go_simp
    go_wp2_with ((go_at_call 12; (with_reducible refine (RFrame_calls ha0 ht.out (H1.out.below HF.out (Nat.le_refl _)) hm1.out).mono ?_); rintro e w' ⟨v, rfl, hO, f'⟩; obtain ⟨A2, k2, e2, hA2, _⟩ := hO.ints; cases e2; (rw [HFR.out] at hA2 ⊢); have HA2 := hid hA2; have n0_ := hid (below_frm0 HF.out f'); have n1_ := hid (HA.out.frm f' (fun _ _ h => h)); have n2_ := hid (HB.out.frm f' (fun _ _ h => h)); have n3_ := hid (HX.out.frm f' (fun _ _ h => h)); clear HF HA HB HX; have HF := n0_; clear n0_; have HA := n1_; clear n1_; have HB := n2_; clear n2_; have HX := n3_; clear n3_; clear f' hA2 hO))
    refine hK.out _ _ ?_ (fun hHeld2 => ?_)
    · ((try dsimp only); exact conv_of HA.out HL.out.symm)
    clear hK K hHeld; have hHeld := hHeld2; clear hHeld2
    try simp only [Act.put, List.setIfInBounds_toArray, List.set_cons_zero, List.set_cons_succ]
    refine wpAnyH_to (S' := fun wx => (convert 23 9 (.slice A1 l1 k1)).run Try.prog wx = .ok (.string (strOfNums fr)) wx ∧ (convert 23 9 (.slice A2 fr.length k2)).run Try.prog wx = .ok (.string (strOfNums fr)) wx ∧ (convert 23 9 (.slice (some ⟨gb, 0, none⟩) bs.length bs.length)).run Try.prog wx = .ok (.string (strOfNums bs)) wx ∧ (convert 23 9 (.slice A bs.length k)).run Try.prog wx = .ok (.string (strOfNums bs)) wx) (fun _ h => h.1) _ _ _ _ ?_
    have hHeld2 : (fun wx => (convert 23 9 (.slice A1 l1 k1)).run Try.prog wx = .ok (.string (strOfNums fr)) wx ∧ (convert 23 9 (.slice A2 fr.length k2)).run Try.prog wx = .ok (.string (strOfNums fr)) wx ∧ (convert 23 9 (.slice (some ⟨gb, 0, none⟩) bs.length bs.length)).run Try.prog wx = .ok (.string (strOfNums bs)) wx ∧ (convert 23 9 (.slice A bs.length k)).run Try.prog wx = .ok (.string (strOfNums bs)) wx) _ := ⟨conv_of HA.out HL.out.symm, conv_of HA2.out rfl, conv_of HB.out rfl, conv_of HX.out rfl⟩
    clear hHeld; have hHeld := hHeld2; clear hHeld2; (try dsimp only at hHeld)
    refine wpAnyH_take (i := 7) (oi := ⟨some 42, _, _, _, _, _⟩) (v := ?v31) rfl (by kernel_rfl) (by kernel_rfl) (by kernel_rfl) (fun _ _ _ h => h) (Or.inl ⟨by rfl, ?y31⟩) (by assumption) ?r31
    case y31 => (intro wx hSx; (try dsimp only at hSx); go_simp; (try with_reducible rfl))
    try simp only [Act.put, List.setIfInBounds_toArray, List.set_cons_zero, List.set_cons_succ]
    refine wpAnyH_take (i := 8) (oi := ⟨some 43, _, _, _, _, _⟩) (v := ?v32) rfl (by kernel_rfl) (by kernel_rfl) (by kernel_rfl) (fun _ _ _ h => h) (Or.inl ⟨by rfl, ?y32⟩) (by assumption) ?r32
    case y32 => (intro wx hSx; (try dsimp only at hSx); go_simp; (try with_reducible rfl))
    try simp only [Act.put, List.setIfInBounds_toArray, List.set_cons_zero, List.set_cons_succ]
    refine wpAnyH_take (i := 9) (oi := ⟨some 44, _, _, _, _, _⟩) (v := ?v33) rfl (by kernel_rfl) (by kernel_rfl) (by kernel_rfl) (fun _ _ _ h => h) (Or.inl ⟨by rfl, ?y33⟩) (by assumption) ?r33
    case y33 => (intro wx hSx; (try dsimp only at hSx); go_simp; (try with_reducible rfl))
    try simp only [Act.put, List.setIfInBounds_toArray, List.set_cons_zero, List.set_cons_succ]
    refine wpAnyH_take (i := 10) (oi := ⟨some 45, _, _, _, _, _⟩) (v := ?v34) rfl (by kernel_rfl) (by kernel_rfl) (by kernel_rfl) (fun _ _ _ h => h) (Or.inl ⟨by rfl, ?y34⟩) (by assumption) ?r34
    case y34 => (intro wx hSx; (try dsimp only at hSx); go_simp; (try with_reducible rfl))
    try simp only [Act.put, List.setIfInBounds_toArray, List.set_cons_zero, List.set_cons_succ]
    refine wpAnyH_take (i := 11) (oi := ⟨some 46, _, _, _, _, _⟩) (v := ?v35) rfl (by kernel_rfl) (by kernel_rfl) (by kernel_rfl) (fun _ _ _ h => h) (Or.inl ⟨by rfl, ?y35⟩) (by assumption) ?r35
    case y35 => (intro wx hSx; (try dsimp only at hSx); go_simp; (try with_reducible rfl))
    try simp only [Act.put, List.setIfInBounds_toArray, List.set_cons_zero, List.set_cons_succ]
    refine wpAnyH_take (i := 12) (oi := ⟨some 47, _, _, _, _, _⟩) (v := ?v36) rfl (by kernel_rfl) (by kernel_rfl) (by kernel_rfl) (fun _ _ _ h => h) (Or.inl ⟨by rfl, ?y36⟩) (by assumption) ?r36
    case y36 => (intro wx hSx; (try dsimp only at hSx); go_simp; (try with_reducible rfl))
    try simp only [Act.put, List.setIfInBounds_toArray, List.set_cons_zero, List.set_cons_succ]
    refine wpAnyH_take (i := 13) (oi := ⟨some 48, _, _, _, _, _⟩) (v := ?v37) rfl (by kernel_rfl) (by kernel_rfl) (by kernel_rfl) (fun _ _ _ h => h) (Or.inl ⟨by rfl, ?y37⟩) (by assumption) ?r37
    case y37 => (intro wx hSx; (try dsimp only at hSx); go_simp; (try with_reducible rfl))
    try simp only [Act.put, List.setIfInBounds_toArray, List.set_cons_zero, List.set_cons_succ]
    refine wpAnyH_take (i := 14) (oi := ⟨some 49, _, _, _, _, _⟩) (v := ?v38) rfl (by kernel_rfl) (by kernel_rfl) (by kernel_rfl) (fun _ _ _ h => h) (Or.inl ⟨by rfl, ?y38⟩) (by assumption) ?r38
    case y38 => (intro wx hSx; (try dsimp only at hSx); go_simp; (try with_reducible rfl))
    try simp only [Act.put, List.setIfInBounds_toArray, List.set_cons_zero, List.set_cons_succ]
    refine wpAnyH_take (i := 15) (oi := ⟨some 50, _, _, _, _, _⟩) (v := ?v39) rfl (by kernel_rfl) (by kernel_rfl) (by kernel_rfl) (fun _ _ _ h => h) (Or.inl ⟨by rfl, ?y39⟩) (by assumption) ?r39
    case y39 => (intro wx hSx; (try dsimp only at hSx); go_simp; (try with_reducible rfl))
    try simp only [Act.put, List.setIfInBounds_toArray, List.set_cons_zero, List.set_cons_succ]
    refine wpAnyH_take (i := 16) (oi := ⟨some 51, _, _, _, _, _⟩) (v := ?v40) rfl (by kernel_rfl) (by kernel_rfl) (by kernel_rfl) (fun _ _ _ h => h) (Or.inl ⟨by rfl, ?y40⟩) (by assumption) ?r40
    case y40 => (intro wx hSx; (try dsimp only at hSx); go_simp; (try with_reducible rfl))
    try simp only [Act.put, List.setIfInBounds_toArray, List.set_cons_zero, List.set_cons_succ]
    refine wpAnyH_take (i := 17) (oi := ⟨some 52, _, _, _, _, _⟩) (v := ?v41) rfl (by kernel_rfl) (by kernel_rfl) (by kernel_rfl) (fun _ _ _ h => h) (Or.inl ⟨by rfl, ?y41⟩) (by assumption) ?r41
    case y41 => (intro wx hSx; (try dsimp only at hSx); go_simp; (try with_reducible rfl))
    try simp only [Act.put, List.setIfInBounds_toArray, List.set_cons_zero, List.set_cons_succ]
    refine wpAnyH_take (i := 18) (oi := ⟨some 53, _, _, _, _, _⟩) (v := ?v42) rfl (by kernel_rfl) (by kernel_rfl) (by kernel_rfl) (fun _ _ _ h => h) (Or.inl ⟨by rfl, ?y42⟩) (by assumption) ?r42
    case y42 => (intro wx hSx; (try dsimp only at hSx); go_simp; (try with_reducible rfl))
    try simp only [Act.put, List.setIfInBounds_toArray, List.set_cons_zero, List.set_cons_succ]
    refine wpAnyH_take (i := 19) (oi := ⟨some 54, _, _, _, _, _⟩) (v := ?v43) rfl (by kernel_rfl) (by kernel_rfl) (by kernel_rfl) (fun _ _ _ h => h) (Or.inl ⟨by rfl, ?y43⟩) (by assumption) ?r43
    case y43 => (intro wx hSx; (try dsimp only at hSx); go_simp; (try with_reducible rfl))
    try simp only [Act.put, List.setIfInBounds_toArray, List.set_cons_zero, List.set_cons_succ]
    refine wpAnyH_take (i := 20) (oi := ⟨some 55, _, _, _, _, _⟩) (v := ?v44) rfl (by kernel_rfl) (by kernel_rfl) (by kernel_rfl) (fun _ _ _ h => h) (Or.inl ⟨by rfl, ?y44⟩) (by assumption) ?r44
    case y44 => (intro wx hSx; (try dsimp only at hSx); go_simp; (try with_reducible rfl))
    try simp only [Act.put, List.setIfInBounds_toArray, List.set_cons_zero, List.set_cons_succ]
    refine wpAnyH_take (i := 21) (oi := ⟨some 56, _, _, _, _, _⟩) (v := ?v45) rfl (by kernel_rfl) (by kernel_rfl) (by kernel_rfl) (fun _ _ _ h => h) (Or.inl ⟨by rfl, ?y45⟩) (by assumption) ?r45
    case y45 => (intro wx hSx; (try dsimp only at hSx); go_simp; (try with_reducible rfl))
    try simp only [Act.put, List.setIfInBounds_toArray, List.set_cons_zero, List.set_cons_succ]
    refine wpAnyH_take (i := 22) (oi := ⟨some 57, _, _, _, _, _⟩) (v := ?v46) rfl (by kernel_rfl) (by kernel_rfl) (by kernel_rfl) (fun _ _ _ h => h) (Or.inl ⟨by rfl, ?y46⟩) (by assumption) ?r46
    case y46 => (intro wx hSx; (try dsimp only at hSx); go_simp; (try with_reducible rfl))
    try simp only [Act.put, List.setIfInBounds_toArray, List.set_cons_zero, List.set_cons_succ]
    refine wpAnyH_take (i := 23) (oi := ⟨some 58, _, _, _, _, _⟩) (v := ?v47) rfl (by kernel_rfl) (by kernel_rfl) (by kernel_rfl) (fun _ _ _ h => h) (Or.inl ⟨by rfl, ?y47⟩) (by assumption) ?r47
    case y47 => (intro wx hSx; (try dsimp only at hSx); go_simp; (try with_reducible rfl))
    try simp only [Act.put, List.setIfInBounds_toArray, List.set_cons_zero, List.set_cons_succ]
    refine wpAnyH_take (i := 24) (oi := ⟨some 59, _, _, _, _, _⟩) (v := ?v48) rfl (by kernel_rfl) (by kernel_rfl) (by kernel_rfl) (fun _ _ _ h => h) (Or.inl ⟨by rfl, ?y48⟩) (by assumption) ?r48
    case y48 => (intro wx hSx; (try dsimp only at hSx); go_simp; (try with_reducible rfl))
    try simp only [Act.put, List.setIfInBounds_toArray, List.set_cons_zero, List.set_cons_succ]
    refine wpAnyH_take (i := 25) (oi := ⟨some 60, _, _, _, _, _⟩) (v := ?v49) rfl (by kernel_rfl) (by kernel_rfl) (by kernel_rfl) (fun _ _ _ h => h) (Or.inl ⟨by rfl, ?y49⟩) (by assumption) ?r49
    case y49 => (intro wx hSx; (try dsimp only at hSx); go_simp; (try with_reducible rfl))
    try simp only [Act.put, List.setIfInBounds_toArray, List.set_cons_zero, List.set_cons_succ]
    refine wpAnyH_take (i := 26) (oi := ⟨some 6, _, _, _, _, _⟩) (v := ?v50) rfl (by kernel_rfl) (by kernel_rfl) (by kernel_rfl) (fun _ _ _ h => h) (Or.inl ⟨by rfl, ?y50⟩) (by assumption) ?r50
    case y50 => (intro wx hSx; (try dsimp only at hSx); go_simp; (try with_reducible rfl))
    try simp only [Act.put, List.setIfInBounds_toArray, List.set_cons_zero, List.set_cons_succ]
    refine wpAnyH_done (by kernel_rfl) ?_ _
    go_wp2
    go_ret
    exact ⟨rfl, HF.out⟩
end Go.Proofs.Ytnlmabdbpjbhoaa
