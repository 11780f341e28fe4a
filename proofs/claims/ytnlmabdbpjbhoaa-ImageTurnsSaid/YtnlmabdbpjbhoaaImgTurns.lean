/- ImageTurns, walked: images are written in turn, one ahead of the other. -/
import Derived.Test.YtnlmabdbpjbhoaaImgKnown
import Derived.Test.YtnlmabdbpjbhoaaImgTurn
namespace Go.Proofs.Ytnlmabdbpjbhoaa
open Go.RowKit Go.ChangeShapes
set_option linter.unusedVariables false
set_option linter.unusedSimpArgs false
set_option maxRecDepth 100000 in
set_option maxHeartbeats 8000000 in
theorem ImageTurns_walk (a0 : Option Addr) (c0 : Nat) (z0 : List (List Int)) (w : World) (h0 : SlK c23 w a0 c0 z0) :
    Calls Try.prog 5 #[.slice a0 z0.length c0] w fun e w' => e = .returned (.bool true) ∧ Below w.heap.size w w' := by
  have hle := h0.le
  have hsm := h0.small
  by_cases hlen : z0.length > 20
  · go_enter Try.func5, Try.ntmps5
    go_wp2_with (go_at_call 8; (with_reducible refine (known_calls _).mono ?_); rintro e w1 ⟨rfl, f1⟩)
    go_ret
    exact ⟨rfl, f1⟩
  go_enter Try.func5, Try.ntmps5
  go_wp2_with (first
    | (go_at_call 8; (with_reducible refine (known_calls _).mono ?_); rintro e w1 ⟨rfl, f1⟩; have HF := hid f1; clear f1)
    | (go_at_call 13; (with_reducible refine (DNew_calls _).mono ?_); rintro e w2 ⟨rfl, h', f'⟩; have HB := hid HF.out.size; have HT := hid (show TDk w2 w1.heap.size 0 [] [] from ⟨_, _, h', .inl ⟨rfl, rfl, rfl⟩⟩); have n0_ := hid (below_next HF.out f'); clear HF; have HF := n0_; clear n0_; clear f' h'))
  generalize w1.heap.size = b at *
  go_loopw [4] (fun i wr => ∃ (k : Nat) (p q : List Int), k ≤ z0.length ∧ (0 < k → z0[k - 1]? = some p) ∧ i = .int .i64 k ∧ TDk wr b k p q ∧ Below w.heap.size w wr) (fun i _ => z0.length - (intOf i).toNat)
  case atStart => exact ⟨0, [], [], by omega, fun h => absurd h (by decide), rfl, HT.out, HF.out⟩
  case round =>
    clear HT HF
    obtain ⟨k, p, q, hk, hp, rfl, hT, hF⟩ := hrel
    by_cases hlt : k < z0.length
    · obtain ⟨ba, off, rfl, hba, hc⟩ := h0.bytes (by omega)
      obtain ⟨y, hy⟩ : ∃ y, z0[k]? = some y := ⟨z0[k], List.getElem?_eq_getElem hlt⟩
      obtain ⟨sa, sc, hcy, hiy⟩ := hc k y hy
      have HY := hid hiy
      have HYE := hid hy
      have HL0 := hid (fun (w' : World) (f : Below w.heap.size w w') => (f.cell (p := ⟨ba, off + k, none⟩) hba).trans hcy)
      have HC := hid hc
      have HP := hid hp
      have HT := hid hT
      have HF := hid hF
      have hyl := hiy.le
      have hysm := hiy.small
      clear hc hp hT hF hy hiy hcy h0
      have q0 := HL0.out _ HF.out
      have hk20 : (k : Int) ≤ 20 := by omega
      have hkl : (k : Int) < (z0.length : Int) := by omega
      by_cases hbig : y.length > 200
      · go_wp2_with (fail)
        go_ret
        exact ⟨rfl, HF.out⟩
      by_cases hk0 : 0 < k
      · have hd0 : decide (0 < (k : Int)) = true := decide_eq_true (by omega)
        obtain ⟨ra, rc, hcp, hip⟩ := HC.out (k - 1) p (HP.out hk0)
        have e1 : (k : Int) - 1 = ((k - 1 : Nat) : Int) := by omega
        have HQ := hid hip; have HL1 := hid (fun (w' : World) (f : Below w.heap.size w w') => (f.cell (p := ⟨ba, off + (k - 1), none⟩) hba).trans hcp)
        have hpl := hip.le
        have hpsm := hip.small
        clear hip hcp
        have ek : IntKind.i64.wrap (k : Int) = (k : Int) := IntWalk.i64_in _ (by omega)
        have ek1 : IntKind.i64.wrap ((k - 1 : Nat) : Int) = ((k - 1 : Nat) : Int) := IntWalk.i64_in _ (by omega)
        have ek2 : ((k - 1 : Nat) : Int) < (z0.length : Int) := by omega
        have ek3 : (0 : Int) ≤ ((k - 1 : Nat) : Int) := by omega
        go_wp2_with (first
          | (go_at_call 17; (with_reducible refine (Save_T HT.out (by omega) (HY.out.below HF.out (Nat.le_refl _)) (by omega)).mono ?_); rintro e w' ⟨rfl, h', f'⟩; have n0_ := hid (below_frm1 HF.out f' HB.out); have n1_ := hid (h'); clear HF HT; have HF := n0_; clear n0_; have HT := n1_; clear n1_; clear f' h'; clear q0; have q0 := HL0.out _ HF.out)
          | (go_at_call 16; (with_reducible refine (Turn_T HT.out ((k : Int) + 1) rfl).mono ?_); rintro e w' ⟨rfl, f'⟩; have n0_ := hid (below_frm0 HF.out f'); have n1_ := hid (HT.out.frm f'); clear HF HT; have HF := n0_; clear n0_; have HT := n1_; clear n1_; clear f'; clear q0; have q0 := HL0.out _ HF.out)
          | (go_at_call 18; (with_reducible refine (Read_T0 HT.out ((k : Int) % 2) rfl ((k : Int) + 1) rfl).mono ?_); rintro e w' ⟨A, c, x, rfl, hI, hxl, hpx, f'⟩; have HX := hid hI; have HXL := hid hxl; have HPX := hid hpx; have n0_ := hid (below_next HF.out f'); have n1_ := hid (HT.out.frm (frm0_of f')); clear HF HT; have HF := n0_; clear n0_; have HT := n1_; clear n1_; clear f' hI hxl hpx; clear q0; have q0 := HL0.out _ HF.out)
          | (go_at_call 9; (with_reducible refine (Parse_some HX.out HXL.out x.length rfl ((k : Int) + 1) y HPX.out).mono ?_); rintro e w' ⟨gb, rfl, hgb, hB, f'⟩; have HV := hid hB; have n0_ := hid (below_frm0 HF.out f'); have n1_ := hid (HT.out.frm f'); clear HF HT; have HF := n0_; clear n0_; have HT := n1_; clear n1_; clear f' hgb hB HX HXL HPX; clear q0; have q0 := HL0.out _ HF.out))
        have HF2 := hid (bdrew HF.out); clear HF; have HF := HF2; clear HF2
        have HT2 := hid (HT.out.frm (frm_drew _)); clear HT; have HT := HT2; clear HT2
        have HV2 := hid (HV.out.frm (frm_drew _) (fun _ _ h => h)); clear HV; have HV := HV2; clear HV2
        have cv1 := conv_of HV.out rfl
        have cv2 := conv_of (HY.out.below HF.out (Nat.le_refl _)) rfl
        clear q0; have q0 := HL0.out _ HF.out
        go_region_held3 (fun wx => wx.cell? ⟨ba, off + k, none⟩ = some (.slice sa y.length sc) ∧ (convert 23 9 (.slice (some ⟨gb, 0, none⟩) y.length y.length)).run Try.prog wx = .ok (.string (strOfNums y)) wx ∧ (convert 23 9 (.slice sa y.length sc)).run Try.prog wx = .ok (.string (strOfNums y)) wx) (go_keep) (fail)
        clear cv1 cv2
        clear q0; have q0 := HL1.out _ HF.out
        go_wp2_with (first
          | (go_at_call 18; (with_reducible refine (Read_T1 HT.out hk0 (((k : Int) + 1) % 2) rfl).mono ?_); rintro e w' ⟨A, c, x, rfl, hI, hxl, hpx, f'⟩; have HX := hid hI; have HXL := hid hxl; have HPX := hid hpx; have n0_ := hid (below_next HF.out f'); have n1_ := hid (HT.out.frm (frm0_of f')); clear HF HT; have HF := n0_; clear n0_; have HT := n1_; clear n1_; clear f' hI hxl hpx; clear q0; have q0 := HL1.out _ HF.out)
          | (go_at_call 9; (with_reducible refine (Parse_some HX.out HXL.out x.length rfl (k : Int) p HPX.out).mono ?_); rintro e w' ⟨gb, rfl, hgb, hB, f'⟩; have HV := hid hB; have n0_ := hid (below_frm0 HF.out f'); have n1_ := hid (HT.out.frm f'); clear HF HT; have HF := n0_; clear n0_; have HT := n1_; clear n1_; clear f' hgb hB HX HXL HPX; clear q0; have q0 := HL1.out _ HF.out))
        have HF2 := hid (bdrew HF.out); clear HF; have HF := HF2; clear HF2
        have HT2 := hid (HT.out.frm (frm_drew _)); clear HT; have HT := HT2; clear HT2
        have HV2 := hid (HV.out.frm (frm_drew _) (fun _ _ h => h)); clear HV; have HV := HV2; clear HV2
        have cv1 := conv_of HV.out rfl
        have cv2 := conv_of (HQ.out.below HF.out (Nat.le_refl _)) rfl
        clear q0; have q0 := HL1.out _ HF.out
        go_region_held3 (fun wx => wx.cell? ⟨ba, off + (k - 1), none⟩ = some (.slice ra p.length rc) ∧ (convert 23 9 (.slice (some ⟨gb, 0, none⟩) p.length p.length)).run Try.prog wx = .ok (.string (strOfNums p)) wx ∧ (convert 23 9 (.slice ra p.length rc)).run Try.prog wx = .ok (.string (strOfNums p)) wx) (go_keep) (fail)
        clear cv1 cv2
        go_wp2
        go_roundw
        case rel => exact ⟨k + 1, y, p, by omega, fun _ => HYE.out, by go_num, HT.out, HF.out⟩
        case measure => simp [intOf]; omega
      · have hd0 : decide (0 < (k : Int)) = false := decide_eq_false (by omega)
        have ek : IntKind.i64.wrap (k : Int) = (k : Int) := IntWalk.i64_in _ (by omega)
        go_wp2_with (first
          | (go_at_call 17; (with_reducible refine (Save_T HT.out (by omega) (HY.out.below HF.out (Nat.le_refl _)) (by omega)).mono ?_); rintro e w' ⟨rfl, h', f'⟩; have n0_ := hid (below_frm1 HF.out f' HB.out); have n1_ := hid (h'); clear HF HT; have HF := n0_; clear n0_; have HT := n1_; clear n1_; clear f' h'; clear q0; have q0 := HL0.out _ HF.out)
          | (go_at_call 16; (with_reducible refine (Turn_T HT.out ((k : Int) + 1) rfl).mono ?_); rintro e w' ⟨rfl, f'⟩; have n0_ := hid (below_frm0 HF.out f'); have n1_ := hid (HT.out.frm f'); clear HF HT; have HF := n0_; clear n0_; have HT := n1_; clear n1_; clear f'; clear q0; have q0 := HL0.out _ HF.out)
          | (go_at_call 18; (with_reducible refine (Read_T0 HT.out ((k : Int) % 2) rfl ((k : Int) + 1) rfl).mono ?_); rintro e w' ⟨A, c, x, rfl, hI, hxl, hpx, f'⟩; have HX := hid hI; have HXL := hid hxl; have HPX := hid hpx; have n0_ := hid (below_next HF.out f'); have n1_ := hid (HT.out.frm (frm0_of f')); clear HF HT; have HF := n0_; clear n0_; have HT := n1_; clear n1_; clear f' hI hxl hpx; clear q0; have q0 := HL0.out _ HF.out)
          | (go_at_call 9; (with_reducible refine (Parse_some HX.out HXL.out x.length rfl ((k : Int) + 1) y HPX.out).mono ?_); rintro e w' ⟨gb, rfl, hgb, hB, f'⟩; have HV := hid hB; have n0_ := hid (below_frm0 HF.out f'); have n1_ := hid (HT.out.frm f'); clear HF HT; have HF := n0_; clear n0_; have HT := n1_; clear n1_; clear f' hgb hB HX HXL HPX; clear q0; have q0 := HL0.out _ HF.out))
        have HF2 := hid (bdrew HF.out); clear HF; have HF := HF2; clear HF2
        have HT2 := hid (HT.out.frm (frm_drew _)); clear HT; have HT := HT2; clear HT2
        have HV2 := hid (HV.out.frm (frm_drew _) (fun _ _ h => h)); clear HV; have HV := HV2; clear HV2
        have cv1 := conv_of HV.out rfl
        have cv2 := conv_of (HY.out.below HF.out (Nat.le_refl _)) rfl
        clear q0; have q0 := HL0.out _ HF.out
        go_region_held3 (fun wx => wx.cell? ⟨ba, off + k, none⟩ = some (.slice sa y.length sc) ∧ (convert 23 9 (.slice (some ⟨gb, 0, none⟩) y.length y.length)).run Try.prog wx = .ok (.string (strOfNums y)) wx ∧ (convert 23 9 (.slice sa y.length sc)).run Try.prog wx = .ok (.string (strOfNums y)) wx) (go_keep) (fail)
        clear cv1 cv2
        go_wp2
        go_roundw
        case rel => exact ⟨k + 1, y, p, by omega, fun _ => HYE.out, by go_num, HT.out, HF.out⟩
        case measure => simp [intOf]; omega
    · go_wp2
      go_ret
      exact ⟨rfl, hF⟩
end Go.Proofs.Ytnlmabdbpjbhoaa
