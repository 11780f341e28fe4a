/- ImageCuts, walked: saves, some of which the power cuts off. -/
import Derived.Test.YtnlmabdbpjbhoaaImgKnown
import Derived.Test.YtnlmabdbpjbhoaaImgCut
import Derived.Test.YtnlmabdbpjbhoaaHeld
namespace Go.Proofs.Ytnlmabdbpjbhoaa
open Go.RowKit Go.ChangeShapes
set_option linter.unusedVariables false
set_option linter.unusedSimpArgs false
set_option maxRecDepth 100000 in
set_option maxHeartbeats 8000000 in
theorem ImageCuts_walk (a0 : Option Addr) (c0 : Nat) (z0 : List (List Int)) (a1 : Option Addr) (c1 : Nat) (z1 : List Int) (w : World) (h0 : SlK c23 w a0 c0 z0) (h1 : IsInts .i16 w a1 c1 z1) :
    Calls Try.prog 7 #[.slice a0 z0.length c0, .slice a1 z1.length c1] w fun e w' => e = .returned (.bool true) ∧ Below w.heap.size w w' := by
  have hle := h0.le
  have hsm := h0.small
  have hle1 := h1.le
  have hsm1 := h1.small
  by_cases hlen : z0.length > 20
  · go_enter Try.func7, Try.ntmps7
    go_wp2_with (go_at_call 8; (with_reducible refine (known_calls _).mono ?_); rintro e w1 ⟨rfl, f1⟩)
    go_ret
    exact ⟨rfl, f1⟩
  have H1 := hid h1; clear h1
  go_enter Try.func7, Try.ntmps7
  go_wp2_with (first
    | (go_at_call 8; (with_reducible refine (known_calls _).mono ?_); rintro e w1 ⟨rfl, f1⟩; have HF := hid f1; clear f1)
    | (go_at_call 13; (with_reducible refine (DNew_calls _).mono ?_); rintro e w2 ⟨rfl, h', f'⟩; have HB := hid HF.out.size; have HT := hid (show SDk w2 w1.heap.size 0 false 0 false [] from ⟨_, _, _, (fun h => nomatch h), h', .inl ⟨rfl, parse_nil, parse_nil⟩⟩); have n0_ := hid (below_next HF.out f'); clear HF; have HF := n0_; clear n0_; clear f' h'))
  generalize w1.heap.size = b at *
  go_loopw [6, 7, 8] (fun la so i wr => ∃ (k : Nat) (s : Bool) (p : List Int), k ≤ z0.length ∧ la = .string (strOfNums p) ∧ so = .bool s ∧ i = .int .i64 k ∧ SDk wr b k false 0 s p ∧ Below w.heap.size w wr) (fun _ _ i _ => z0.length - (intOf i).toNat)
  case atStart => exact ⟨0, false, [], by omega, rfl, rfl, rfl, HT.out, HF.out⟩
  case round =>
    clear HT HF
    obtain ⟨k, s, p, hk, rfl, rfl, rfl, hT, hF⟩ := hrel
    by_cases hlt : k < z0.length
    · obtain ⟨ba, off, rfl, hba, hc⟩ := h0.bytes (by omega)
      obtain ⟨y, hy⟩ : ∃ y, z0[k]? = some y := ⟨z0[k], List.getElem?_eq_getElem hlt⟩
      obtain ⟨sa, sc, hcy, hiy⟩ := hc k y hy
      have HY := hid hiy
      have HL0 := hid (fun (w' : World) (f : Below w.heap.size w w') => (f.cell (p := ⟨ba, off + k, none⟩) hba).trans hcy)
      have HT := hid hT
      have HF := hid hF
      have hyl := hiy.le
      have hysm := hiy.small
      clear hc hT hF hy hiy hcy h0
      have q0 := HL0.out _ HF.out
      have hk20 : (k : Int) ≤ 20 := by omega
      have hkl : (k : Int) < (z0.length : Int) := by omega
      by_cases hbig : y.length > 200
      · go_wp2_with (fail)
        go_ret
        exact ⟨rfl, HF.out⟩
      by_cases hc1 : k < z1.length
      · obtain ⟨cb, coff, rfl, hcb, hcc⟩ := H1.out.at_ (by omega)
        have hccv := hcc k hc1
        have hwf : (Lit.int .i16 (z1.getD k 0)).wf = true := H1.out.wf _ (by rw [List.getD_eq_getElem?_getD, List.getElem?_eq_getElem hc1]; exact List.getElem_mem hc1)
        generalize z1.getD k 0 = cv at hccv hwf
        have hb16 := bounds_i16 hwf
        have ecv : IntKind.i64.wrap cv = cv := IntWalk.i64_in _ (by omega)
        have HP0 := hid (fun (w' : World) (f : Below w.heap.size w w') => (f.cell (p := ⟨cb, coff + k, none⟩) hcb).trans hccv)
        have p0 := HP0.out _ HF.out
        have ey : IntKind.i64.wrap ((y.length : Int) + 16) = (y.length : Int) + 16 := IntWalk.i64_in _ (by omega)
        have hki1 : (k : Int) < (z1.length : Int) := by omega
        clear hccv hcc hwf
        by_cases hcv0 : 0 ≤ cv
        · by_cases hwh : (y.length : Int) + 16 ≤ cv
          · go_wp2_with (first
              | (go_at_call 19; (with_reducible refine (Arm_S HT.out cv hcv0).mono ?_); rintro e w' ⟨rfl, h', f'⟩; have n0_ := hid (below_frm1 HF.out f' HB.out); have n1_ := hid (h'); clear HF HT; have HF := n0_; clear n0_; have HT := n1_; clear n1_; clear f' h'; clear q0; have q0 := HL0.out _ HF.out; clear p0; have p0 := HP0.out _ HF.out)
              | (go_at_call 17; (with_reducible refine (Save_SW HT.out (by omega) (HY.out.below HF.out (Nat.le_refl _)) (by omega) hwh).mono ?_); rintro e w' ⟨rfl, h', f'⟩; have n0_ := hid (below_frm1 HF.out f' HB.out); have n1_ := hid (h'); clear HF HT; have HF := n0_; clear n0_; have HT := n1_; clear n1_; clear f' h'; clear q0; have q0 := HL0.out _ HF.out; clear p0; have p0 := HP0.out _ HF.out)
              | (go_at_call 15; (with_reducible refine (Load_Ss HT.out).mono ?_); rintro e w' ⟨g, rfl, hg, hB, f'⟩; have n0_ := hid (below_frm0 HF.out f'); have n1_ := hid (HT.out.frm f'); clear HF HT; have HF := n0_; clear n0_; have HT := n1_; clear n1_; have HV := hid hB; clear f' hg hB; clear q0; have q0 := HL0.out _ HF.out; clear p0; have p0 := HP0.out _ HF.out))
            have HF2 := hid (bdrew HF.out); clear HF; have HF := HF2; clear HF2
            have HT2 := hid (HT.out.frm (frm_drew _)); clear HT; have HT := HT2; clear HT2
            have HV2 := hid (HV.out.frm (frm_drew _) (fun _ _ h => h)); clear HV; have HV := HV2; clear HV2
            clear q0; have q0 := HL0.out _ HF.out
            clear p0; have p0 := HP0.out _ HF.out
            go_region_held3 (fun wx => wx.cell? ⟨ba, off + k, none⟩ = some (.slice sa y.length sc) ∧ wx.cell? ⟨cb, coff + k, none⟩ = some (.int .i16 cv)) (go_keep) (fail)
            have cv1 := conv_of HV.out rfl
            have cv2 := conv_of (HY.out.below HF.out (Nat.le_refl _)) rfl
            go_wp2
            go_roundw
            case rel => exact ⟨k + 1, true, y, by omega, rfl, rfl, by go_num, HT.out, HF.out⟩
            case measure => simp [intOf]; omega
          · have hwh := Int.not_le.1 hwh
            cases s
            · go_wp2_with (first
                | (go_at_call 19; (with_reducible refine (Arm_S HT.out cv hcv0).mono ?_); rintro e w' ⟨rfl, h', f'⟩; have n0_ := hid (below_frm1 HF.out f' HB.out); have n1_ := hid (h'); clear HF HT; have HF := n0_; clear n0_; have HT := n1_; clear n1_; clear f' h'; clear q0; have q0 := HL0.out _ HF.out; clear p0; have p0 := HP0.out _ HF.out)
                | (go_at_call 17; (with_reducible refine (Save_SC HT.out (by omega) (HY.out.below HF.out (Nat.le_refl _)) (by omega) hcv0 hwh).mono ?_); rintro e w' ⟨rfl, h', f'⟩; have n0_ := hid (below_frm1 HF.out f' HB.out); have n1_ := hid (h'); clear HF HT; have HF := n0_; clear n0_; have HT := n1_; clear n1_; clear f' h'; clear q0; have q0 := HL0.out _ HF.out; clear p0; have p0 := HP0.out _ HF.out)
                | (go_at_call 15; (with_reducible refine (Load_Sn HT.out).mono ?_); rintro e w' ⟨rfl, f'⟩; have n0_ := hid (below_frm0 HF.out f'); have n1_ := hid (HT.out.frm f'); clear HF HT; have HF := n0_; clear n0_; have HT := n1_; clear n1_; clear f'; clear q0; have q0 := HL0.out _ HF.out; clear p0; have p0 := HP0.out _ HF.out))
              have HF2 := hid (bdrew HF.out); clear HF; have HF := HF2; clear HF2
              have HT2 := hid (HT.out.frm (frm_drew _)); clear HT; have HT := HT2; clear HT2
              clear q0; have q0 := HL0.out _ HF.out
              clear p0; have p0 := HP0.out _ HF.out
              go_region_held3 (fun wx => wx.cell? ⟨ba, off + k, none⟩ = some (.slice sa y.length sc) ∧ wx.cell? ⟨cb, coff + k, none⟩ = some (.int .i16 cv)) (go_keep) (fail)
              go_wp2
              go_roundw
              case rel => exact ⟨k + 1, false, p, by omega, rfl, rfl, by go_num, HT.out, HF.out⟩
              case measure => simp [intOf]; omega
            · go_wp2_with (first
                | (go_at_call 19; (with_reducible refine (Arm_S HT.out cv hcv0).mono ?_); rintro e w' ⟨rfl, h', f'⟩; have n0_ := hid (below_frm1 HF.out f' HB.out); have n1_ := hid (h'); clear HF HT; have HF := n0_; clear n0_; have HT := n1_; clear n1_; clear f' h'; clear q0; have q0 := HL0.out _ HF.out; clear p0; have p0 := HP0.out _ HF.out)
                | (go_at_call 17; (with_reducible refine (Save_SC HT.out (by omega) (HY.out.below HF.out (Nat.le_refl _)) (by omega) hcv0 hwh).mono ?_); rintro e w' ⟨rfl, h', f'⟩; have n0_ := hid (below_frm1 HF.out f' HB.out); have n1_ := hid (h'); clear HF HT; have HF := n0_; clear n0_; have HT := n1_; clear n1_; clear f' h'; clear q0; have q0 := HL0.out _ HF.out; clear p0; have p0 := HP0.out _ HF.out)
                | (go_at_call 15; (with_reducible refine (Load_Ss HT.out).mono ?_); rintro e w' ⟨g, rfl, hg, hB, f'⟩; have n0_ := hid (below_frm0 HF.out f'); have n1_ := hid (HT.out.frm f'); clear HF HT; have HF := n0_; clear n0_; have HT := n1_; clear n1_; have HV := hid hB; clear f' hg hB; clear q0; have q0 := HL0.out _ HF.out; clear p0; have p0 := HP0.out _ HF.out))
              have HF2 := hid (bdrew HF.out); clear HF; have HF := HF2; clear HF2
              have HT2 := hid (HT.out.frm (frm_drew _)); clear HT; have HT := HT2; clear HT2
              have HV2 := hid (HV.out.frm (frm_drew _) (fun _ _ h => h)); clear HV; have HV := HV2; clear HV2
              clear q0; have q0 := HL0.out _ HF.out
              clear p0; have p0 := HP0.out _ HF.out
              go_region_held3 (fun wx => wx.cell? ⟨ba, off + k, none⟩ = some (.slice sa y.length sc) ∧ wx.cell? ⟨cb, coff + k, none⟩ = some (.int .i16 cv)) (go_keep) (fail)
              have cv1 := conv_of HV.out rfl
              go_wp2
              go_roundw
              case rel => exact ⟨k + 1, true, p, by omega, rfl, rfl, by go_num, HT.out, HF.out⟩
              case measure => simp [intOf]; omega
        · have hcv1 : cv < 0 := Int.not_le.1 hcv0
          go_wp2_with (first
            | (go_at_call 17; (with_reducible refine (Save_S HT.out (by omega) (HY.out.below HF.out (Nat.le_refl _)) (by omega)).mono ?_); rintro e w' ⟨rfl, h', f'⟩; have n0_ := hid (below_frm1 HF.out f' HB.out); have n1_ := hid (h'); clear HF HT; have HF := n0_; clear n0_; have HT := n1_; clear n1_; clear f' h'; clear q0; have q0 := HL0.out _ HF.out)
            | (go_at_call 15; (with_reducible refine (Load_Ss HT.out).mono ?_); rintro e w' ⟨g, rfl, hg, hB, f'⟩; have n0_ := hid (below_frm0 HF.out f'); have n1_ := hid (HT.out.frm f'); clear HF HT; have HF := n0_; clear n0_; have HT := n1_; clear n1_; have HV := hid hB; clear f' hg hB; clear q0; have q0 := HL0.out _ HF.out))
          have HF2 := hid (bdrew HF.out); clear HF; have HF := HF2; clear HF2
          have HT2 := hid (HT.out.frm (frm_drew _)); clear HT; have HT := HT2; clear HT2
          have HV2 := hid (HV.out.frm (frm_drew _) (fun _ _ h => h)); clear HV; have HV := HV2; clear HV2
          clear q0; have q0 := HL0.out _ HF.out
          refine wp_region_held_drew (S := fun wx => True) (by kernel_rfl) (by trivial) (fun hHeld => ?_)
          refine wpAnyH_take (i := 0) (oi := ⟨some 74, _, _, _, _, _⟩) (v := ?v1) rfl (by kernel_rfl) (by kernel_rfl) (by kernel_rfl) (fun _ _ _ h => h) (Or.inl ⟨by rfl, ?y1⟩) (by assumption) ?r1
          case y1 => (intro wx hSx; (try dsimp only at hSx); go_simp; (try with_reducible rfl))
          try simp only [Act.put, List.setIfInBounds_toArray, List.set_cons_zero, List.set_cons_succ]
          refine wpAnyH_take (i := 1) (oi := ⟨some 75, _, _, _, _, _⟩) (v := ?v2) rfl (by kernel_rfl) (by kernel_rfl) (by kernel_rfl) (fun _ _ _ h => h) (Or.inl ⟨by rfl, ?y2⟩) (by assumption) ?r2
          case y2 => (intro wx hSx; (try dsimp only at hSx); go_simp; (try with_reducible rfl))
          try simp only [Act.put, List.setIfInBounds_toArray, List.set_cons_zero, List.set_cons_succ]
          refine wpAnyH_take (i := 2) (oi := ⟨some 76, _, _, _, _, _⟩) (v := ?v3) rfl (by kernel_rfl) (by kernel_rfl) (by kernel_rfl) (fun _ _ _ h => h) (Or.inl ⟨by rfl, ?y3⟩) (by assumption) ?r3
          case y3 => (intro wx hSx; (try dsimp only at hSx); go_simp; (try with_reducible rfl))
          try simp only [Act.put, List.setIfInBounds_toArray, List.set_cons_zero, List.set_cons_succ]
          refine wpAnyH_take (i := 3) (oi := ⟨some 77, _, _, _, _, _⟩) (v := undef) rfl (by kernel_rfl) (by kernel_rfl) (by kernel_rfl) (fun _ _ _ h => h) (Or.inr ⟨by rfl, rfl⟩) (by assumption) ?_
          try simp only [Act.put, List.setIfInBounds_toArray, List.set_cons_zero, List.set_cons_succ]
          refine wpAnyH_take (i := 4) (oi := ⟨some 78, _, _, _, _, _⟩) (v := undef) rfl (by kernel_rfl) (by kernel_rfl) (by kernel_rfl) (fun _ _ _ h => h) (Or.inr ⟨by rfl, rfl⟩) (by assumption) ?_
          try simp only [Act.put, List.setIfInBounds_toArray, List.set_cons_zero, List.set_cons_succ]
          refine wpAnyH_take (i := 5) (oi := ⟨some 79, _, _, _, _, _⟩) (v := undef) rfl (by kernel_rfl) (by kernel_rfl) (by kernel_rfl) (fun _ _ _ h => h) (Or.inr ⟨by rfl, rfl⟩) (by assumption) ?_
          try simp only [Act.put, List.setIfInBounds_toArray, List.set_cons_zero, List.set_cons_succ]
          refine wpAnyH_take (i := 6) (oi := ⟨some 80, _, _, _, _, _⟩) (v := undef) rfl (by kernel_rfl) (by kernel_rfl) (by kernel_rfl) (fun _ _ _ h => h) (Or.inr ⟨by rfl, rfl⟩) (by assumption) ?_
          try simp only [Act.put, List.setIfInBounds_toArray, List.set_cons_zero, List.set_cons_succ]
          refine wpAnyH_take (i := 7) (oi := ⟨some 81, _, _, _, _, _⟩) (v := undef) rfl (by kernel_rfl) (by kernel_rfl) (by kernel_rfl) (fun _ _ _ h => h) (Or.inr ⟨by rfl, rfl⟩) (by assumption) ?_
          try simp only [Act.put, List.setIfInBounds_toArray, List.set_cons_zero, List.set_cons_succ]
          refine wpAnyH_take (i := 8) (oi := ⟨some 82, _, _, _, _, _⟩) (v := undef) rfl (by kernel_rfl) (by kernel_rfl) (by kernel_rfl) (fun _ _ _ h => h) (Or.inr ⟨by rfl, rfl⟩) (by assumption) ?_
          try simp only [Act.put, List.setIfInBounds_toArray, List.set_cons_zero, List.set_cons_succ]
          refine wpAnyH_take (i := 9) (oi := ⟨some 83, _, _, _, _, _⟩) (v := undef) rfl (by kernel_rfl) (by kernel_rfl) (by kernel_rfl) (fun _ _ _ h => h) (Or.inr ⟨by rfl, rfl⟩) (by assumption) ?_
          try simp only [Act.put, List.setIfInBounds_toArray, List.set_cons_zero, List.set_cons_succ]
          refine wpAnyH_take (i := 10) (oi := ⟨some 84, _, _, _, _, _⟩) (v := undef) rfl (by kernel_rfl) (by kernel_rfl) (by kernel_rfl) (fun _ _ _ h => h) (Or.inr ⟨by rfl, rfl⟩) (by assumption) ?_
          try simp only [Act.put, List.setIfInBounds_toArray, List.set_cons_zero, List.set_cons_succ]
          refine wpAnyH_take (i := 11) (oi := ⟨some 85, _, _, _, _, _⟩) (v := undef) rfl (by kernel_rfl) (by kernel_rfl) (by kernel_rfl) (fun _ _ _ h => h) (Or.inr ⟨by rfl, rfl⟩) (by assumption) ?_
          try simp only [Act.put, List.setIfInBounds_toArray, List.set_cons_zero, List.set_cons_succ]
          refine wpAnyH_take (i := 12) (oi := ⟨some 86, _, _, _, _, _⟩) (v := undef) rfl (by kernel_rfl) (by kernel_rfl) (by kernel_rfl) (fun _ _ _ h => h) (Or.inr ⟨by rfl, rfl⟩) (by assumption) ?_
          try simp only [Act.put, List.setIfInBounds_toArray, List.set_cons_zero, List.set_cons_succ]
          refine wpAnyH_take (i := 13) (oi := ⟨some 87, _, _, _, _, _⟩) (v := undef) rfl (by kernel_rfl) (by kernel_rfl) (by kernel_rfl) (fun _ _ _ h => h) (Or.inr ⟨by rfl, rfl⟩) (by assumption) ?_
          try simp only [Act.put, List.setIfInBounds_toArray, List.set_cons_zero, List.set_cons_succ]
          refine wpAnyH_take (i := 14) (oi := ⟨some 88, _, _, _, _, _⟩) (v := undef) rfl (by kernel_rfl) (by kernel_rfl) (by kernel_rfl) (fun _ _ _ h => h) (Or.inr ⟨by rfl, rfl⟩) (by assumption) ?_
          try simp only [Act.put, List.setIfInBounds_toArray, List.set_cons_zero, List.set_cons_succ]
          refine wpAnyH_take (i := 15) (oi := ⟨some 89, _, _, _, _, _⟩) (v := ?v4) rfl (by kernel_rfl) (by kernel_rfl) (by kernel_rfl) (fun _ _ _ h => h) (Or.inl ⟨by rfl, ?y4⟩) (by assumption) ?r4
          case y4 => (intro wx hSx; (try dsimp only at hSx); go_simp; (try with_reducible rfl))
          try simp only [Act.put, List.setIfInBounds_toArray, List.set_cons_zero, List.set_cons_succ]
          refine wpAnyH_take (i := 16) (oi := ⟨some 13, _, _, _, _, _⟩) (v := ?v5) rfl (by kernel_rfl) (by kernel_rfl) (by kernel_rfl) (fun _ _ _ h => h) (Or.inl ⟨by rfl, ?y5⟩) (by assumption) ?r5
          case y5 => (intro wx hSx; (try dsimp only at hSx); go_simp; (try with_reducible rfl))
          try simp only [Act.put, List.setIfInBounds_toArray, List.set_cons_zero, List.set_cons_succ]
          refine wpAnyH_done (by kernel_rfl) ?_ _
          have cv1 := conv_of HV.out rfl
          have cv2 := conv_of (HY.out.below HF.out (Nat.le_refl _)) rfl
          go_wp2
          go_roundw
          case rel => exact ⟨k + 1, true, y, by omega, rfl, rfl, by go_num, HT.out, HF.out⟩
          case measure => simp [intOf]; omega
      · have hki1 : (z1.length : Int) ≤ (k : Int) := by omega
        go_wp2_with (first
          | (go_at_call 17; (with_reducible refine (Save_S HT.out (by omega) (HY.out.below HF.out (Nat.le_refl _)) (by omega)).mono ?_); rintro e w' ⟨rfl, h', f'⟩; have n0_ := hid (below_frm1 HF.out f' HB.out); have n1_ := hid (h'); clear HF HT; have HF := n0_; clear n0_; have HT := n1_; clear n1_; clear f' h'; clear q0; have q0 := HL0.out _ HF.out)
          | (go_at_call 15; (with_reducible refine (Load_Ss HT.out).mono ?_); rintro e w' ⟨g, rfl, hg, hB, f'⟩; have n0_ := hid (below_frm0 HF.out f'); have n1_ := hid (HT.out.frm f'); clear HF HT; have HF := n0_; clear n0_; have HT := n1_; clear n1_; have HV := hid hB; clear f' hg hB; clear q0; have q0 := HL0.out _ HF.out))
        have HF2 := hid (bdrew HF.out); clear HF; have HF := HF2; clear HF2
        have HT2 := hid (HT.out.frm (frm_drew _)); clear HT; have HT := HT2; clear HT2
        have HV2 := hid (HV.out.frm (frm_drew _) (fun _ _ h => h)); clear HV; have HV := HV2; clear HV2
        clear q0; have q0 := HL0.out _ HF.out
        refine wp_region_held_drew (S := fun wx => True) (by kernel_rfl) (by trivial) (fun hHeld => ?_)
        refine wpAnyH_take (i := 0) (oi := ⟨some 74, _, _, _, _, _⟩) (v := ?v6) rfl (by kernel_rfl) (by kernel_rfl) (by kernel_rfl) (fun _ _ _ h => h) (Or.inl ⟨by rfl, ?y6⟩) (by assumption) ?r6
        case y6 => (intro wx hSx; (try dsimp only at hSx); go_simp; (try with_reducible rfl))
        try simp only [Act.put, List.setIfInBounds_toArray, List.set_cons_zero, List.set_cons_succ]
        refine wpAnyH_take (i := 1) (oi := ⟨some 75, _, _, _, _, _⟩) (v := ?v7) rfl (by kernel_rfl) (by kernel_rfl) (by kernel_rfl) (fun _ _ _ h => h) (Or.inl ⟨by rfl, ?y7⟩) (by assumption) ?r7
        case y7 => (intro wx hSx; (try dsimp only at hSx); go_simp; (try with_reducible rfl))
        try simp only [Act.put, List.setIfInBounds_toArray, List.set_cons_zero, List.set_cons_succ]
        refine wpAnyH_take (i := 2) (oi := ⟨some 76, _, _, _, _, _⟩) (v := ?v8) rfl (by kernel_rfl) (by kernel_rfl) (by kernel_rfl) (fun _ _ _ h => h) (Or.inl ⟨by rfl, ?y8⟩) (by assumption) ?r8
        case y8 => (intro wx hSx; (try dsimp only at hSx); go_simp; (try with_reducible rfl))
        try simp only [Act.put, List.setIfInBounds_toArray, List.set_cons_zero, List.set_cons_succ]
        refine wpAnyH_take (i := 3) (oi := ⟨some 77, _, _, _, _, _⟩) (v := undef) rfl (by kernel_rfl) (by kernel_rfl) (by kernel_rfl) (fun _ _ _ h => h) (Or.inr ⟨by rfl, rfl⟩) (by assumption) ?_
        try simp only [Act.put, List.setIfInBounds_toArray, List.set_cons_zero, List.set_cons_succ]
        refine wpAnyH_take (i := 4) (oi := ⟨some 78, _, _, _, _, _⟩) (v := undef) rfl (by kernel_rfl) (by kernel_rfl) (by kernel_rfl) (fun _ _ _ h => h) (Or.inr ⟨by rfl, rfl⟩) (by assumption) ?_
        try simp only [Act.put, List.setIfInBounds_toArray, List.set_cons_zero, List.set_cons_succ]
        refine wpAnyH_take (i := 5) (oi := ⟨some 79, _, _, _, _, _⟩) (v := undef) rfl (by kernel_rfl) (by kernel_rfl) (by kernel_rfl) (fun _ _ _ h => h) (Or.inr ⟨by rfl, rfl⟩) (by assumption) ?_
        try simp only [Act.put, List.setIfInBounds_toArray, List.set_cons_zero, List.set_cons_succ]
        refine wpAnyH_take (i := 6) (oi := ⟨some 80, _, _, _, _, _⟩) (v := undef) rfl (by kernel_rfl) (by kernel_rfl) (by kernel_rfl) (fun _ _ _ h => h) (Or.inr ⟨by rfl, rfl⟩) (by assumption) ?_
        try simp only [Act.put, List.setIfInBounds_toArray, List.set_cons_zero, List.set_cons_succ]
        refine wpAnyH_take (i := 7) (oi := ⟨some 81, _, _, _, _, _⟩) (v := undef) rfl (by kernel_rfl) (by kernel_rfl) (by kernel_rfl) (fun _ _ _ h => h) (Or.inr ⟨by rfl, rfl⟩) (by assumption) ?_
        try simp only [Act.put, List.setIfInBounds_toArray, List.set_cons_zero, List.set_cons_succ]
        refine wpAnyH_take (i := 8) (oi := ⟨some 82, _, _, _, _, _⟩) (v := undef) rfl (by kernel_rfl) (by kernel_rfl) (by kernel_rfl) (fun _ _ _ h => h) (Or.inr ⟨by rfl, rfl⟩) (by assumption) ?_
        try simp only [Act.put, List.setIfInBounds_toArray, List.set_cons_zero, List.set_cons_succ]
        refine wpAnyH_take (i := 9) (oi := ⟨some 83, _, _, _, _, _⟩) (v := undef) rfl (by kernel_rfl) (by kernel_rfl) (by kernel_rfl) (fun _ _ _ h => h) (Or.inr ⟨by rfl, rfl⟩) (by assumption) ?_
        try simp only [Act.put, List.setIfInBounds_toArray, List.set_cons_zero, List.set_cons_succ]
        refine wpAnyH_take (i := 10) (oi := ⟨some 84, _, _, _, _, _⟩) (v := undef) rfl (by kernel_rfl) (by kernel_rfl) (by kernel_rfl) (fun _ _ _ h => h) (Or.inr ⟨by rfl, rfl⟩) (by assumption) ?_
        try simp only [Act.put, List.setIfInBounds_toArray, List.set_cons_zero, List.set_cons_succ]
        refine wpAnyH_take (i := 11) (oi := ⟨some 85, _, _, _, _, _⟩) (v := undef) rfl (by kernel_rfl) (by kernel_rfl) (by kernel_rfl) (fun _ _ _ h => h) (Or.inr ⟨by rfl, rfl⟩) (by assumption) ?_
        try simp only [Act.put, List.setIfInBounds_toArray, List.set_cons_zero, List.set_cons_succ]
        refine wpAnyH_take (i := 12) (oi := ⟨some 86, _, _, _, _, _⟩) (v := undef) rfl (by kernel_rfl) (by kernel_rfl) (by kernel_rfl) (fun _ _ _ h => h) (Or.inr ⟨by rfl, rfl⟩) (by assumption) ?_
        try simp only [Act.put, List.setIfInBounds_toArray, List.set_cons_zero, List.set_cons_succ]
        refine wpAnyH_take (i := 13) (oi := ⟨some 87, _, _, _, _, _⟩) (v := undef) rfl (by kernel_rfl) (by kernel_rfl) (by kernel_rfl) (fun _ _ _ h => h) (Or.inr ⟨by rfl, rfl⟩) (by assumption) ?_
        try simp only [Act.put, List.setIfInBounds_toArray, List.set_cons_zero, List.set_cons_succ]
        refine wpAnyH_take (i := 14) (oi := ⟨some 88, _, _, _, _, _⟩) (v := undef) rfl (by kernel_rfl) (by kernel_rfl) (by kernel_rfl) (fun _ _ _ h => h) (Or.inr ⟨by rfl, rfl⟩) (by assumption) ?_
        try simp only [Act.put, List.setIfInBounds_toArray, List.set_cons_zero, List.set_cons_succ]
        refine wpAnyH_take (i := 15) (oi := ⟨some 89, _, _, _, _, _⟩) (v := ?v9) rfl (by kernel_rfl) (by kernel_rfl) (by kernel_rfl) (fun _ _ _ h => h) (Or.inl ⟨by rfl, ?y9⟩) (by assumption) ?r9
        case y9 => (intro wx hSx; (try dsimp only at hSx); go_simp; (try with_reducible rfl))
        try simp only [Act.put, List.setIfInBounds_toArray, List.set_cons_zero, List.set_cons_succ]
        refine wpAnyH_take (i := 16) (oi := ⟨some 13, _, _, _, _, _⟩) (v := ?v10) rfl (by kernel_rfl) (by kernel_rfl) (by kernel_rfl) (fun _ _ _ h => h) (Or.inl ⟨by rfl, ?y10⟩) (by assumption) ?r10
        case y10 => (intro wx hSx; (try dsimp only at hSx); go_simp; (try with_reducible rfl))
        try simp only [Act.put, List.setIfInBounds_toArray, List.set_cons_zero, List.set_cons_succ]
        refine wpAnyH_done (by kernel_rfl) ?_ _
        have cv1 := conv_of HV.out rfl
        have cv2 := conv_of (HY.out.below HF.out (Nat.le_refl _)) rfl
        go_wp2
        go_roundw
        case rel => exact ⟨k + 1, true, y, by omega, rfl, rfl, by go_num, HT.out, HF.out⟩
        case measure => simp [intOf]; omega
    · go_wp2
      go_ret
      exact ⟨rfl, hF⟩
end Go.Proofs.Ytnlmabdbpjbhoaa
