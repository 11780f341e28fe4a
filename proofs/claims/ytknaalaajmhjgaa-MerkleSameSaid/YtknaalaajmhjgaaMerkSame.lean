/- MerkleSame, walked: maps with the same pages have the same root, however they came to be. -/
import Derived.Test.YtknaalaajmhjgaaMerkKnown
import Derived.Test.YtknaalaajmhjgaaPgLoad
namespace Go.Proofs.Ytknaalaajmhjgaa
open Go.RowKit Go.ChangeShapes
set_option linter.unusedVariables false
set_option linter.unusedSimpArgs false
theorem down_vals {ys vs : List Int} (hy : ys.length = 64) {p : Nat} (hp : p < 7) (h : ∀ k, k < 64 → p + 1 ≤ k % 7 → ys.getD k 0 = vs.getD k 0) : ∀ k, k < 64 → p ≤ k % 7 → (loadV ys vs p).getD k 0 = vs.getD k 0 := fun k hk hm => by
  rw [loadV_at hy hp hk]
  split
  · rfl
  · exact h k hk (by omega)
theorem all_vals {ys vs : List Int} (hy : ys.length = 64) (hv : vs.length = 64) (h : ∀ k, k < 64 → 0 ≤ k % 7 → ys.getD k 0 = vs.getD k 0) : ys = vs :=
  list_ext_getD (hy.trans hv.symm) (fun i hi => h i (by omega) (by omega))
theorem pageB_lt (vs cs : List Int) {p : Nat} (hp : p < 7) : pageB vs cs p = pvals vs p (pcount p) := by rw [pageB, if_neg (by omega)]
set_option maxRecDepth 100000 in
set_option maxHeartbeats 16000000 in
theorem MerkleSame_walk (a0 : Option Addr) (c0 : Nat) (z0 : List Int) (a1 : Option Addr) (c1 : Nat) (z1 : List Int) (w : World) (h0 : IsInts .u8 w a0 c0 z0) (h1 : IsInts .u16 w a1 c1 z1) :
    Calls Try.prog 7 #[.slice a0 z0.length c0, .slice a1 z1.length c1] w fun e w' => e = .returned (.bool true) ∧ Below w.heap.size w w' := by
  have hle := h0.le
  have hsm := h0.small
  have hle1 := h1.le
  have hsm1 := h1.small
  by_cases hlen : z0.length > 60
  · go_enter Try.func7, Try.ntmps7
    go_wp2_with (go_at_call 8; (with_reducible refine (known_calls _).mono ?_); rintro e w' ⟨rfl, f1⟩)
    go_ret
    exact ⟨rfl, f1⟩
  by_cases hlen1 : z1.length < z0.length
  · go_enter Try.func7, Try.ntmps7
    go_wp2_with (go_at_call 8; (with_reducible refine (known_calls _).mono ?_); rintro e w' ⟨rfl, f1⟩)
    go_ret
    exact ⟨rfl, f1⟩
  have H0 := hid h0; have H1 := hid h1; clear h0 h1
  obtain ⟨cs, hcs⟩ : ∃ cs, cs = List.replicate 10 (0 : Int) := ⟨_, rfl⟩
  have HCS := hid hcs; clear hcs
  have HG := hid (show GoodC cs from HCS.out ▸ GoodC.zero)
  go_enter Try.func7, Try.ntmps7
  go_wp2_with (first
    | (go_at_call 8; (with_reducible refine (known_calls _).mono ?_); rintro e w1 ⟨rfl, f1⟩; have HF := hid f1; clear f1)
    | (go_at_call 15; (with_reducible refine (PNew_calls w1).mono ?_); rintro e w2 ⟨rfl, h', f'⟩; have HB := hid HF.out.size; have HA := hid (HCS.out ▸ h'); have n0_ := hid (below_next HF.out f'); clear HF; have HF := n0_; clear n0_; clear f' h')
    | (go_at_call 15; (with_reducible refine (PNew_calls _).mono ?_); rintro e w3 ⟨rfl, h', f'⟩; have HAL := hid HA.out.blk.lt; have HCB := hid HF.out.size; have HM := hid (HCS.out ▸ h'); have n0_ := hid (HA.out.frm (frm0_of f') (fun h => h)); have n1_ := hid (below_next HF.out f'); clear HA HF; have HA := n0_; clear n0_; have HF := n1_; clear n1_; clear f' h'))
  have HNE := hid (Nat.ne_of_lt HAL.out)
  generalize hba : w1.heap.size = ba at *
  generalize hbb : w2.heap.size = bb at *
  clear hba hbb HAL
  go_loopw [7] (fun i wr => ∃ (k : Nat) (vs : List Int), k ≤ z0.length ∧ i = .int .i64 k ∧ IsMap wr ba vs cs ∧ IsMap wr bb (List.replicate 64 0) cs ∧ Below w.heap.size w wr) (fun i _ => z0.length - (intOf i).toNat)
  case atStart => exact ⟨0, _, by omega, rfl, HA.out, HM.out, HF.out⟩
  case round =>
    clear HM HF HA
    obtain ⟨k, vs, hk, rfl, ha, hm, hf⟩ := hrel
    have HA := hid ha; have HM := hid hm; have HF := hid hf; clear ha hm hf
    by_cases hlt : k < z0.length
    · obtain ⟨ga, oa, rfl, hga, hca⟩ := H0.out.at_ (by omega)
      obtain ⟨gb, ob, rfl, hgb, hcb⟩ := H1.out.at_ (by omega)
      have hxa := hca k hlt
      have hxb := hcb k (by omega)
      have wfa : (Lit.int .u8 (z0.getD k 0)).wf = true := H0.out.wf _ (by rw [List.getD_eq_getElem?_getD, List.getElem?_eq_getElem hlt]; exact List.getElem_mem hlt)
      have wfb : (Lit.int .u16 (z1.getD k 0)).wf = true := H1.out.wf _ (by rw [List.getD_eq_getElem?_getD, List.getElem?_eq_getElem (show k < z1.length by omega)]; exact List.getElem_mem (by omega))
      generalize z0.getD k 0 = x at hxa wfa
      generalize z1.getD k 0 = y at hxb wfb
      have hx := bounds_u8 wfa
      have hy := bounds_u16 wfb
      have q0 := (HF.out.cell (p := ⟨ga, oa + k, none⟩) hga).trans hxa
      have q1 := (HF.out.cell (p := ⟨gb, ob + k, none⟩) hgb).trans hxb
      have HXA := hid hxa; have HXB := hid hxb; have HGA := hid hga; have HGB := hid hgb
      have hkl : (k : Int) < (z0.length : Int) := by omega
      have hkl1 : (k : Int) < (z1.length : Int) := by omega
      have hk80 : (k : Int) ≤ 80 := by omega
      have HX := hid hx; have HY := hid hy
      clear hca hcb wfa wfb hxa hxb hga hgb
      go_wp2_with (fail)
      have HA2 := hid (HA.out.frm (frm_drew _) (fun h => h)); have HM2 := hid (HM.out.frm (frm_drew _) (fun h => h)); have HF2 := hid (bdrew HF.out); clear HA HM HF; have HA := HA2; have HM := HM2; have HF := HF2; clear HA2 HM2 HF2
      go_region_held3 (fun wx => wx.cell? ⟨ga, oa + k, none⟩ = some (.int .u8 x) ∧ wx.cell? ⟨gb, ob + k, none⟩ = some (.int .u16 y)) (first | go_keep | exact ⟨r0, r1⟩) ((go_at_call 16; (with_reducible refine (PPut_calls HA.out x HX.out.1 y HY.out _ rfl).mono ?_); rintro e w' ⟨rfl, h', f'⟩; have n0_ := hid (h'); have n1_ := hid (HM.out.frm f' (fun e => HNE.out e.symm)); have n2_ := hid (below_frm1 HF.out f' HB.out); clear HA HM HF; have HA := n0_; clear n0_; have HM := n1_; clear n1_; have HF := n2_; clear n2_; clear f' h'; have r0 := (HF.out.cell (p := ⟨ga, oa + k, none⟩) HGA.out).trans HXA.out; have r1 := (HF.out.cell (p := ⟨gb, ob + k, none⟩) HGB.out).trans HXB.out))
      clear q0 q1 r0 r1
      go_wp2_with (fail)
      go_roundw
      case rel => exact ⟨k + 1, _, by omega, by go_num, HA.out, HM.out, HF.out⟩
      case measure => simp [intOf]; omega
    · have hkl : (z0.length : Int) ≤ (k : Int) := by omega
      clear hlt
      go_wp2
      generalize decide (k < z0.length) = d1
      clear hkl hk
      go_loopw [8] (fun i wr => ∃ (q : Nat) (ys : List Int), q ≤ 8 ∧ i = .int .i64 ((q : Int) - 1) ∧ IsMap wr ba vs cs ∧ IsMap wr bb ys cs ∧ (∀ k, k < 64 → q ≤ k % 7 → ys.getD k 0 = vs.getD k 0) ∧ Below w.heap.size w wr) (fun i _ => (intOf i + 1).toNat)
      case atStart => exact ⟨8, _, by omega, rfl, HA.out, HM.out, fun k _ h => absurd h (by omega), HF.out⟩
      case round =>
        clear HM HF HA
        obtain ⟨q, ys, hq, rfl, ha, hm, hys, hf⟩ := hrel
        have HA := hid ha; have HM := hid hm; have HF := hid hf; have HYS := hid hys; clear ha hm hf hys
        have HLV := hid HA.out.lv; have HLY := hid HM.out.lv
        rcases (show q = 0 ∨ q = 8 ∨ ∃ p, q = p + 1 ∧ p < 7 by rcases q with _ | p; exact .inl rfl; exact .inr (by by_cases h : p = 7; exact .inl (by omega); exact .inr ⟨p, rfl, by omega⟩)) with rfl | rfl | ⟨p, rfl, hp7⟩
        · have hyv := all_vals HLY.out HLV.out HYS.out
          have HM2 := hid (show IsMap _ bb vs cs from hyv ▸ HM.out)
          clear HM HYS hyv hq
          have HM := HM2; clear HM2
          obtain ⟨S, hS⟩ : ∃ S, sumsL vs cs = S := ⟨_, rfl⟩
          have hS8 : S.length = 8 := by rw [← hS]; rfl
          obtain ⟨R, hR⟩ : ∃ R, rootS S = R := ⟨_, rfl⟩
          have HRR := hid (show rootS (sumsL vs cs) = R by rw [hS, hR])
          have HS := hid hS; have HS8 := hid hS8; have HR := hid hR
          have HU0 := hid (show (unl S S 8).length = 0 by rw [unl_self S hS8]; rfl)
          clear hS hS8 hR
          obtain ⟨v, hv⟩ : ∃ v, getV vs 5 = v := ⟨_, rfl⟩
          have hvb : 0 ≤ v ∧ v ≤ 65535 := by rw [← hv]; unfold getV; split; exact getD_bd HA.out.bv (by decide) _; decide
          have HV := hid hv; clear hv
          obtain ⟨u, hu⟩ : ∃ u, IntKind.u16.wrap (v + 1) = u := ⟨_, rfl⟩
          have HUB := hid (show 0 ≤ u ∧ u ≤ 65535 by rw [← hu, wrap_u16]; omega)
          have q5 : Int.toNat 5 = 5 := rfl
          go_wp2_with (first
            | (go_at_call 33; (with_reducible refine (PCopy_calls HA.out).mono ?_); rintro e w' ⟨rfl, h', f'⟩; have HCO := hid (Nat.ne_of_lt HA.out.blk.lt); have HC := hid h'; have n0_ := hid (HA.out.frm (frm0_of f') (fun h => h)); have n1_ := hid (HM.out.frm (frm0_of f') (fun h => h)); have n2_ := hid (below_next HF.out f'); clear HA HM HF; have HA := n0_; clear n0_; have HM := n1_; clear n1_; have HF := n2_; clear n2_; clear f' h')
            | (go_at_call 18; (with_reducible refine (Of_calls HM.out R HRR.out).mono ?_); rintro e w' ⟨rfl, f'⟩; have n0_ := hid (HA.out.frm f' (fun h => h)); have n1_ := hid (HM.out.frm f' (fun h => h)); have n2_ := hid (HC.out.frm f' (fun h => h)); have n3_ := hid (below_frm0 HF.out f'); clear HA HM HC HF; have HA := n0_; clear n0_; have HM := n1_; clear n1_; have HC := n2_; clear n2_; have HF := n3_; clear n3_; clear f')
            | (go_at_call 18; (with_reducible refine (Of_calls HC.out R HRR.out).mono ?_); rintro e w' ⟨rfl, f'⟩; have n0_ := hid (HA.out.frm f' (fun h => h)); have n1_ := hid (HM.out.frm f' (fun h => h)); have n2_ := hid (HC.out.frm f' (fun h => h)); have n3_ := hid (below_frm0 HF.out f'); clear HA HM HC HF; have HA := n0_; clear n0_; have HM := n1_; clear n1_; have HC := n2_; clear n2_; have HF := n3_; clear n3_; clear f')
            | (go_at_call 18; (with_reducible refine (Of_calls HA.out R HRR.out).mono ?_); rintro e w' ⟨rfl, f'⟩; have n0_ := hid (HA.out.frm f' (fun h => h)); have n1_ := hid (HM.out.frm f' (fun h => h)); have n2_ := hid (HC.out.frm f' (fun h => h)); have n3_ := hid (below_frm0 HF.out f'); clear HA HM HC HF; have HA := n0_; clear n0_; have HM := n1_; clear n1_; have HC := n2_; clear n2_; have HF := n3_; clear n3_; clear f')
            | (go_at_call 17; (with_reducible refine (Sums_calls HA.out S HS.out).mono ?_); rintro e w' ⟨g, rfl, hg, hI, f'⟩; have HI := hid hI; have n0_ := hid (HA.out.frm f' (fun h => h)); have n1_ := hid (HM.out.frm f' (fun h => h)); have n2_ := hid (HC.out.frm f' (fun h => h)); have n3_ := hid (below_frm0 HF.out f'); clear HA HM HC HF; have HA := n0_; clear n0_; have HM := n1_; clear n1_; have HC := n2_; clear n2_; have HF := n3_; clear n3_; clear f'; clear hI hg)
            | (go_at_call 17; (with_reducible refine (Sums_calls HM.out S HS.out).mono ?_); rintro e w' ⟨g, rfl, hg, hI, f'⟩; have HI1 := hid hI; have n0_ := hid (HA.out.frm f' (fun h => h)); have n1_ := hid (HM.out.frm f' (fun h => h)); have n2_ := hid (HC.out.frm f' (fun h => h)); have n3_ := hid (below_frm0 HF.out f'); clear HA HM HC HF; have HA := n0_; clear n0_; have HM := n1_; clear n1_; have HC := n2_; clear n2_; have HF := n3_; clear n3_; clear f'; clear hI hg)
            | (go_at_call 17; (with_reducible refine (Sums_calls HC.out S HS.out).mono ?_); rintro e w' ⟨g2, rfl, hg, hI, f'⟩; have HI2 := hid hI; have n0_ := hid (HI1.out.frm f' (fun _ _ h => h)); clear HI1; have HI1 := n0_; clear n0_; have n0_ := hid (HA.out.frm f' (fun h => h)); have n1_ := hid (HM.out.frm f' (fun h => h)); have n2_ := hid (HC.out.frm f' (fun h => h)); have n3_ := hid (below_frm0 HF.out f'); clear HA HM HC HF; have HA := n0_; clear n0_; have HM := n1_; clear n1_; have HC := n2_; clear n2_; have HF := n3_; clear n3_; clear f'; clear hI hg)
            | (go_at_call 11; (with_reducible refine (Root_calls 8 HI.out HS8.out R HR.out).mono ?_); rintro e w' ⟨rfl, f'⟩; have n0_ := hid (HA.out.frm f' (fun h => h)); have n1_ := hid (HM.out.frm f' (fun h => h)); have n2_ := hid (HC.out.frm f' (fun h => h)); have n3_ := hid (below_frm0 HF.out f'); clear HA HM HC HF; have HA := n0_; clear n0_; have HM := n1_; clear n1_; have HC := n2_; clear n2_; have HF := n3_; clear n3_; clear f')
            | (go_at_call 19; (with_reducible refine (PGet_calls HA.out 5 (by decide) v HV.out).mono ?_); rintro e w' ⟨rfl, rfl⟩; skip)
            | (go_at_call 16; (with_reducible refine (PPut_calls HA.out 5 (by decide) u HUB.out _ rfl).mono ?_); rintro e w' ⟨rfl, h', f'⟩; have n0_ := hid (h'); have n1_ := hid (HM.out.frm f' (fun e => HNE.out e.symm)); have n2_ := hid (HC.out.frm f' (fun e => HCO.out e.symm)); have n3_ := hid (below_frm1 HF.out f' HB.out); clear HA HM HC HF; have HA := n0_; clear n0_; have HM := n1_; clear n1_; have HC := n2_; clear n2_; have HF := n3_; clear n3_; clear f' h')
            | (go_at_call 12; (with_reducible refine (Unlike_calls 8 8 HI1.out HI2.out HS8.out HS8.out).mono ?_); rintro e w' ⟨a, c', rfl, hu, f'⟩; (rw [HU0.out]); have n0_ := hid (HA.out.frm f' (fun h => h)); have n1_ := hid (HM.out.frm f' (fun h => h)); have n2_ := hid (HC.out.frm f' (fun h => h)); have n3_ := hid (below_frm0 HF.out f'); clear HA HM HC HF; have HA := n0_; clear n0_; have HM := n1_; clear n1_; have HC := n2_; clear n2_; have HF := n3_; clear n3_; clear f'; clear hu))
          go_ret
          exact ⟨rfl, HF.out⟩
        · clear hq
          have e1 : IntKind.i64.wrap (8 - 1) = 7 := by decide
          go_wp2_with (first
            | (go_at_call 20; (with_reducible refine (Page_of HA.out 7 7 rfl (by decide)).mono ?_); rintro e w' ⟨g1, rfl, _, h1, f'⟩; have HI := hid h1; have n0_ := hid (HA.out.frm f' (fun h => h)); have n1_ := hid (HM.out.frm f' (fun h => h)); have n2_ := hid (below_frm0 HF.out f'); clear HA HM HF; have HA := n0_; clear n0_; have HM := n1_; clear n1_; have HF := n2_; clear n2_; clear f' h1)
            | (go_at_call 32; (with_reducible refine (Load_cli HM.out HI.out rfl 7 rfl cs HG.out HA.out.bc rfl).mono ?_); rintro e w' ⟨rfl, h', f'⟩; have n0_ := hid (h'); have n1_ := hid (HA.out.frm f' (fun e => HNE.out e)); have n2_ := hid (below_frm1 HF.out f' HCB.out); clear HM HA HF; have HM := n0_; clear n0_; have HA := n1_; clear n1_; have HF := n2_; clear n2_; clear f' h'))
          go_roundw
          case rel => exact ⟨7, ys, by omega, by first | rfl | go_num, HA.out, HM.out, fun k h1 h2 => absurd h2 (by omega), HF.out⟩
          case measure => simp [intOf]
        · have e2 : ((p + 1 : Nat) : Int) - 1 = (p : Int) := by omega
          rw [e2]
          have hp0 : 0 ≤ (p : Int) := by omega
          have HP7 := hid hp7
          have hpi : (p : Int) ≤ 7 := by omega
          have HE2 := hid e2
          clear hq e2 hp7
          go_wp2_with (first
            | (go_at_call 20; (with_reducible refine (Page_of HA.out (p : Int) p rfl (by have := HP7.out; omega)).mono ?_); rintro e w' ⟨g1, rfl, _, h1, f'⟩; have HI := hid h1; have n0_ := hid (HA.out.frm f' (fun h => h)); have n1_ := hid (HM.out.frm f' (fun h => h)); have n2_ := hid (below_frm0 HF.out f'); clear HA HM HF; have HA := n0_; clear n0_; have HM := n1_; clear n1_; have HF := n2_; clear n2_; clear f' h1)
            | (go_at_call 32; (with_reducible refine (Load_val HM.out HI.out rfl (p : Int) p rfl HP7.out vs HA.out.bv (pageB_lt vs cs HP7.out) _ rfl).mono ?_); rintro e w' ⟨rfl, h', f'⟩; have n0_ := hid (h'); have n1_ := hid (HA.out.frm f' (fun e => HNE.out e)); have n2_ := hid (below_frm1 HF.out f' HCB.out); clear HM HA HF; have HM := n0_; clear n0_; have HA := n1_; clear n1_; have HF := n2_; clear n2_; clear f' h'))
          go_roundw
          case rel => exact ⟨p, _, by have := HP7.out; omega, by first | rfl | go_num, HA.out, HM.out, down_vals HLY.out HP7.out HYS.out, HF.out⟩
          case measure => simp [intOf]
end Go.Proofs.Ytknaalaajmhjgaa
