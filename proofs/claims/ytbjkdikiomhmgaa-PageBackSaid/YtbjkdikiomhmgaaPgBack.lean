/- PageBack, walked: a map's pages, loaded into another one, make the same map. -/
import Derived.Test.YtbjkdikiomhmgaaPgKnown
namespace Go.Proofs.Ytbjkdikiomhmgaa
open Go.RowKit Go.ChangeShapes
set_option linter.unusedVariables false
set_option linter.unusedSimpArgs false
theorem GoodC.clis {cs : List Int} (h : GoodC cs) (x : Int) (t r : Int) {ds : List Int} (hd : setC cs x t r = ds) : GoodC ds := hd ▸ h.set x t r
theorem same_vals {ys vs : List Int} (hy : ys.length = 64) (hv : vs.length = 64) {n : Nat} (hn : 7 ≤ n) (h : ∀ k, k < 64 → k % 7 < n → ys.getD k 0 = vs.getD k 0) : ys = vs :=
  list_ext_getD (hy.trans hv.symm) (fun i hi => h i (by omega) (by omega))
theorem next_vals {ys vs : List Int} (hy : ys.length = 64) {p : Nat} (hp : p < 7) (h : ∀ k, k < 64 → k % 7 < p → ys.getD k 0 = vs.getD k 0) : ∀ k, k < 64 → k % 7 < p + 1 → (loadV ys vs p).getD k 0 = vs.getD k 0 := fun k hk hm => by
  rw [loadV_at hy hp hk]
  split
  · rfl
  · exact h k hk (by omega)
theorem pageB_lt (vs cs : List Int) {p : Nat} (hp : p < 7) : pageB vs cs p = pvals vs p (pcount p) := by rw [pageB, if_neg (by omega)]
set_option maxRecDepth 100000 in
set_option maxHeartbeats 16000000 in
theorem PageBack_walk (a0 : Option Addr) (c0 : Nat) (z0 : List Int) (a1 : Option Addr) (c1 : Nat) (z1 : List Int) (a2 : Option Addr) (c2 : Nat) (z2 : List Int) (w : World) (h0 : IsInts .u8 w a0 c0 z0) (h1 : IsInts .u16 w a1 c1 z1) (h2 : IsInts .u8 w a2 c2 z2) :
    Calls Try.prog 3 #[.slice a0 z0.length c0, .slice a1 z1.length c1, .slice a2 z2.length c2] w fun e w' => e = .returned (.bool true) ∧ Below w.heap.size w w' := by
  have hle := h0.le
  have hsm := h0.small
  have hle1 := h1.le
  have hsm1 := h1.small
  have hle2 := h2.le
  have hsm2 := h2.small
  by_cases hlen : z0.length > 80
  · go_enter Try.func3, Try.ntmps3
    go_wp2_with (go_at_call 6; (with_reducible refine (known_calls _).mono ?_); rintro e w' ⟨rfl, f1⟩)
    go_ret
    exact ⟨rfl, f1⟩
  by_cases hlen1 : z1.length < z0.length
  · go_enter Try.func3, Try.ntmps3
    go_wp2_with (go_at_call 6; (with_reducible refine (known_calls _).mono ?_); rintro e w' ⟨rfl, f1⟩)
    go_ret
    exact ⟨rfl, f1⟩
  by_cases hlen2 : z2.length > 80
  · go_enter Try.func3, Try.ntmps3
    go_wp2_with (go_at_call 6; (with_reducible refine (known_calls _).mono ?_); rintro e w' ⟨rfl, f1⟩)
    go_ret
    exact ⟨rfl, f1⟩
  have H0 := hid h0; have H1 := hid h1; have H2 := hid h2; clear h0 h1 h2
  go_enter Try.func3, Try.ntmps3
  go_wp2_with (first
    | (go_at_call 6; (with_reducible refine (known_calls _).mono ?_); rintro e w1 ⟨rfl, f1⟩; have HF := hid f1; clear f1)
    | (go_at_call 7; (with_reducible refine (PNew_calls w1).mono ?_); rintro e w2 ⟨rfl, h', f'⟩; have HB := hid HF.out.size; have HA := hid h'; have n0_ := hid (below_next HF.out f'); clear HF; have HF := n0_; clear n0_; clear f' h')
    | (go_at_call 7; (with_reducible refine (PNew_calls _).mono ?_); rintro e w3 ⟨rfl, h', f'⟩; have HAL := hid HA.out.blk.lt; have HCB := hid HF.out.size; have HM := hid h'; have n0_ := hid (HA.out.frm (frm0_of f') (fun h => h)); have n1_ := hid (below_next HF.out f'); clear HA HF; have HA := n0_; clear n0_; have HF := n1_; clear n1_; clear f' h'))
  have HNE := hid (Nat.ne_of_lt HAL.out)
  generalize hba : w1.heap.size = ba at *
  generalize hbb : w2.heap.size = bb at *
  clear hba hbb HAL
  go_loopw [9] (fun i wr => ∃ (k : Nat) (vs cs : List Int), k ≤ z0.length ∧ i = .int .i64 k ∧ IsMap wr ba vs cs ∧ GoodC cs ∧ IsMap wr bb (List.replicate 64 0) (List.replicate 10 0) ∧ Below w.heap.size w wr) (fun i _ => z0.length - (intOf i).toNat)
  case atStart => exact ⟨0, _, _, by omega, rfl, HA.out, GoodC.zero, HM.out, HF.out⟩
  case round =>
    clear HM HF HA
    obtain ⟨k, vs, cs, hk, rfl, ha, hgc, hm, hf⟩ := hrel
    have HA := hid ha; have HM := hid hm; have HF := hid hf; have HG := hid hgc; clear ha hm hf hgc
    by_cases hlt : k < z0.length
    · obtain ⟨ga, oa, rfl, hga, hca⟩ := H0.out.at_ (by omega)
      obtain ⟨gb, ob, rfl, hgb, hcb⟩ := H1.out.at_ (by omega)
      have hxa := hca k hlt
      have hxb := hcb k (by omega)
      have wfa : (Lit.int .u8 (z0.getD k 0)).wf = true := H0.out.wf _ (by rw [List.getD_eq_getElem?_getD, List.getElem?_eq_getElem hlt]; exact List.getElem_mem hlt)
      have wfb : (Lit.int .u16 (z1.getD k 0)).wf = true := H1.out.wf _ (by rw [List.getD_eq_getElem?_getD, List.getElem?_eq_getElem (show k < z1.length by omega)]; exact List.getElem_mem (by omega))
      generalize z0.getD k 0 = x at hxa wfa
      generalize z1.getD k 0 = y at hxb wfb
      have hx := bounds_u8 wfa
      have hy := bounds_u16 wfb
      have q0 := (HF.out.cell (p := ⟨ga, oa + k, none⟩) hga).trans hxa
      have q1 := (HF.out.cell (p := ⟨gb, ob + k, none⟩) hgb).trans hxb
      have HXA := hid hxa; have HXB := hid hxb; have HGA := hid hga; have HGB := hid hgb
      have hkl : (k : Int) < (z0.length : Int) := by omega
      have hkl1 : (k : Int) < (z1.length : Int) := by omega
      have hk80 : (k : Int) ≤ 80 := by omega
      have e1 : IntKind.u32.wrap (k : Int) = (k : Int) := by simp [IntKind.wrap, IntKind.bits, IntKind.signed]; omega
      have e2 : IntKind.u32.wrap y = y := by simp [IntKind.wrap, IntKind.bits, IntKind.signed]; omega
      have HX := hid hx; have HY := hid hy
      have HX6 := hid (show 0 ≤ x % 6 ∧ x % 6 ≤ 255 by omega)
      have HX6t := hid (show 0 ≤ x.tmod 6 ∧ x.tmod 6 ≤ 255 by rw [Int.tmod_eq_emod_of_nonneg hx.1]; omega)
      have HK := hid (show 0 ≤ (k : Int) ∧ (k : Int) ≤ 4294967295 by omega)
      have HY2 := hid (show 0 ≤ y ∧ y ≤ 4294967295 by omega)
      clear hca hcb wfa wfb hxa hxb hga hgb
      go_wp2_with (fail)
      have HA2 := hid (HA.out.frm (frm_drew _) (fun h => h)); have HM2 := hid (HM.out.frm (frm_drew _) (fun h => h)); have HF2 := hid (bdrew HF.out); clear HA HM HF; have HA := HA2; have HM := HM2; have HF := HF2; clear HA2 HM2 HF2
      go_region_held3 (fun wx => wx.cell? ⟨ga, oa + k, none⟩ = some (.int .u8 x) ∧ wx.cell? ⟨gb, ob + k, none⟩ = some (.int .u16 y)) (first | go_keep | exact ⟨r0, r1⟩) ((go_at_call 8; (with_reducible refine (PPut_calls HA.out x HX.out.1 y HY.out _ rfl).mono ?_); rintro e w' ⟨rfl, h', f'⟩; have n0_ := hid (h'); have n1_ := hid (HM.out.frm f' (fun e => HNE.out e.symm)); have n2_ := hid (below_frm1 HF.out f' HB.out); clear HA HM HF; have HA := n0_; clear n0_; have HM := n1_; clear n1_; have HF := n2_; clear n2_; clear f' h'; have r0 := (HF.out.cell (p := ⟨ga, oa + k, none⟩) HGA.out).trans HXA.out; have r1 := (HF.out.cell (p := ⟨gb, ob + k, none⟩) HGB.out).trans HXB.out))
      clear q0 q1
      have q0 := r0; have q1 := r1; clear r0 r1
      go_wp2_with (fail)
      have HA2 := hid (HA.out.frm (frm_drew _) (fun h => h)); have HM2 := hid (HM.out.frm (frm_drew _) (fun h => h)); have HF2 := hid (bdrew HF.out); clear HA HM HF; have HA := HA2; have HM := HM2; have HF := HF2; clear HA2 HM2 HF2
      go_region_held3 (fun wx => wx.cell? ⟨ga, oa + k, none⟩ = some (.int .u8 x) ∧ wx.cell? ⟨gb, ob + k, none⟩ = some (.int .u16 y)) (first | go_keep | exact ⟨r0, r1⟩) (first | (go_at_call 9; (with_reducible refine (PSetClient_calls HA.out (x.tmod 6) HX6t.out.1 y (k : Int) HY2.out HK.out _ rfl).mono ?_); rintro e w' ⟨rfl, h', f'⟩; have n0_ := hid (h'); have n1_ := hid (HM.out.frm f' (fun e => HNE.out e.symm)); have n2_ := hid (below_frm1 HF.out f' HB.out); clear HA HM HF; have HA := n0_; clear n0_; have HM := n1_; clear n1_; have HF := n2_; clear n2_; clear f' h'; have r0 := (HF.out.cell (p := ⟨ga, oa + k, none⟩) HGA.out).trans HXA.out; have r1 := (HF.out.cell (p := ⟨gb, ob + k, none⟩) HGB.out).trans HXB.out) | (go_at_call 9; (with_reducible refine (PSetClient_calls HA.out (x % 6) HX6.out.1 y (k : Int) HY2.out HK.out _ rfl).mono ?_); rintro e w' ⟨rfl, h', f'⟩; have n0_ := hid (h'); have n1_ := hid (HM.out.frm f' (fun e => HNE.out e.symm)); have n2_ := hid (below_frm1 HF.out f' HB.out); clear HA HM HF; have HA := n0_; clear n0_; have HM := n1_; clear n1_; have HF := n2_; clear n2_; clear f' h'; have r0 := (HF.out.cell (p := ⟨ga, oa + k, none⟩) HGA.out).trans HXA.out; have r1 := (HF.out.cell (p := ⟨gb, ob + k, none⟩) HGB.out).trans HXB.out))
      go_wp2_with (fail)
      go_roundw
      case rel => exact ⟨k + 1, _, _, by omega, by go_num, HA.out, HG.out.set _ _ _, HM.out, HF.out⟩
      case measure => simp [intOf]; omega
    · have hkl : (z0.length : Int) ≤ (k : Int) := by omega
      clear hlt
      go_wp2
      generalize decide (k < z0.length) = d1
      clear hkl
      go_loopw [10] (fun i wr => ∃ (k : Nat) (us ds : List Int), k ≤ z2.length ∧ i = .int .i64 k ∧ IsMap wr ba vs cs ∧ IsMap wr bb us ds ∧ Below w.heap.size w wr) (fun i _ => z2.length - (intOf i).toNat)
      case atStart => exact ⟨0, _, _, by omega, rfl, HA.out, HM.out, HF.out⟩
      case round =>
        clear HM HF HA hk
        obtain ⟨k, us, ds, hk, rfl, ha, hm, hf⟩ := hrel
        have HA := hid ha; have HM := hid hm; have HF := hid hf; clear ha hm hf
        by_cases hlt : k < z2.length
        · obtain ⟨ga, oa, rfl, hga, hca⟩ := H2.out.at_ (by omega)
          have hxa := hca k hlt
          have wfa : (Lit.int .u8 (z2.getD k 0)).wf = true := H2.out.wf _ (by rw [List.getD_eq_getElem?_getD, List.getElem?_eq_getElem hlt]; exact List.getElem_mem hlt)
          generalize z2.getD k 0 = x at hxa wfa
          have hx := bounds_u8 wfa
          have q0 := (HF.out.cell (p := ⟨ga, oa + k, none⟩) hga).trans hxa
          have HXA := hid hxa; have HGA := hid hga
          have hkl : (k : Int) < (z2.length : Int) := by omega
          have HX := hid hx
          have HX6 := hid (show 0 ≤ x % 6 ∧ x % 6 ≤ 255 by omega)
          have HX6t := hid (show 0 ≤ x.tmod 6 ∧ x.tmod 6 ≤ 255 by rw [Int.tmod_eq_emod_of_nonneg hx.1]; omega)
          clear hca wfa hxa hga
          go_wp2_with (first
            | (go_at_call 8; (with_reducible refine (PPut_calls HM.out x HX.out.1 7 (by decide) _ rfl).mono ?_); rintro e w' ⟨rfl, h', f'⟩; have n0_ := hid (h'); have n1_ := hid (HA.out.frm f' (fun e => HNE.out e)); have n2_ := hid (below_frm1 HF.out f' HCB.out); clear HM HA HF; have HM := n0_; clear n0_; have HA := n1_; clear n1_; have HF := n2_; clear n2_; clear f' h'; clear q0; have q0 := (HF.out.cell (p := ⟨ga, oa + k, none⟩) HGA.out).trans HXA.out)
            | (go_at_call 9; (with_reducible refine (PSetClient_calls HM.out (x.tmod 6) HX6t.out.1 9 9 (by decide) (by decide) _ rfl).mono ?_); rintro e w' ⟨rfl, h', f'⟩; have n0_ := hid (h'); have n1_ := hid (HA.out.frm f' (fun e => HNE.out e)); have n2_ := hid (below_frm1 HF.out f' HCB.out); clear HM HA HF; have HM := n0_; clear n0_; have HA := n1_; clear n1_; have HF := n2_; clear n2_; clear f' h'; clear q0; have q0 := (HF.out.cell (p := ⟨ga, oa + k, none⟩) HGA.out).trans HXA.out)
            | (go_at_call 9; (with_reducible refine (PSetClient_calls HM.out (x % 6) HX6.out.1 9 9 (by decide) (by decide) _ rfl).mono ?_); rintro e w' ⟨rfl, h', f'⟩; have n0_ := hid (h'); have n1_ := hid (HA.out.frm f' (fun e => HNE.out e)); have n2_ := hid (below_frm1 HF.out f' HCB.out); clear HM HA HF; have HM := n0_; clear n0_; have HA := n1_; clear n1_; have HF := n2_; clear n2_; clear f' h'; clear q0; have q0 := (HF.out.cell (p := ⟨ga, oa + k, none⟩) HGA.out).trans HXA.out))
          go_roundw
          case rel => exact ⟨k + 1, _, _, by omega, by go_num, HA.out, HM.out, HF.out⟩
          case measure => simp [intOf]; omega
        · have hkl : (z2.length : Int) ≤ (k : Int) := by omega
          clear hlt
          go_wp2
          generalize decide (k < z2.length) = d2
          clear hkl
          go_loopw [11] (fun i wr => ∃ (p : Nat) (ys zs : List Int), p ≤ 8 ∧ i = .int .i64 p ∧ IsMap wr ba vs cs ∧ IsMap wr bb ys zs ∧ (∀ k, k < 64 → k % 7 < p → ys.getD k 0 = vs.getD k 0) ∧ (p = 8 → zs = cs) ∧ Below w.heap.size w wr) (fun i _ => 8 - (intOf i).toNat)
          case atStart => exact ⟨0, us, ds, by omega, rfl, HA.out, HM.out, fun k _ h => absurd h (Nat.not_lt_zero _), fun h => absurd h (by decide), HF.out⟩
          case round =>
            clear HM HF HA hk
            obtain ⟨p, ys, zs, hp, rfl, ha, hm, hys, hzs, hf⟩ := hrel
            have HA := hid ha; have HM := hid hm; have HF := hid hf; have HYS := hid hys; have HZS := hid hzs; clear ha hm hf hys hzs
            have HLV := hid HA.out.lv; have HLY := hid HM.out.lv
            rcases (show p < 7 ∨ p = 7 ∨ p = 8 by omega) with hp7 | rfl | rfl
            · have hlt : (p : Int) < 8 := by omega
              have HP7 := hid hp7; clear hp7 hp
              go_wp2_with (first
                | (go_at_call 11; (with_reducible refine (Page_of HA.out (p : Int) p rfl (by have := HP7.out; omega)).mono ?_); rintro e w' ⟨g1, rfl, _, h1, f'⟩; have HI := hid h1; have n0_ := hid (HA.out.frm f' (fun h => h)); have n1_ := hid (HM.out.frm f' (fun h => h)); have n2_ := hid (below_frm0 HF.out f'); clear HA HM HF; have HA := n0_; clear n0_; have HM := n1_; clear n1_; have HF := n2_; clear n2_; clear f' h1)
                | (go_at_call 10; (with_reducible refine (Load_val HM.out HI.out rfl (p : Int) p rfl HP7.out vs HA.out.bv (pageB_lt vs cs HP7.out) _ rfl).mono ?_); rintro e w' ⟨rfl, h', f'⟩; have n0_ := hid (h'); have n1_ := hid (HA.out.frm f' (fun e => HNE.out e)); have n2_ := hid (below_frm1 HF.out f' HCB.out); clear HM HA HF; have HM := n0_; clear n0_; have HA := n1_; clear n1_; have HF := n2_; clear n2_; clear f' h'))
              go_roundw
              case rel => exact ⟨p + 1, _, zs, by have := HP7.out; omega, by go_num, HA.out, HM.out, next_vals HLY.out HP7.out HYS.out, fun h => absurd h (by have := HP7.out; omega), HF.out⟩
              case measure => simp [intOf]; have := HP7.out; omega
            · clear hp
              go_wp2_with (first
                | (go_at_call 11; (with_reducible refine (Page_of HA.out 7 7 rfl (by decide)).mono ?_); rintro e w' ⟨g1, rfl, _, h1, f'⟩; have HI := hid h1; have n0_ := hid (HA.out.frm f' (fun h => h)); have n1_ := hid (HM.out.frm f' (fun h => h)); have n2_ := hid (below_frm0 HF.out f'); clear HA HM HF; have HA := n0_; clear n0_; have HM := n1_; clear n1_; have HF := n2_; clear n2_; clear f' h1)
                | (go_at_call 10; (with_reducible refine (Load_cli HM.out HI.out rfl 7 rfl cs HG.out HA.out.bc rfl).mono ?_); rintro e w' ⟨rfl, h', f'⟩; have n0_ := hid (h'); have n1_ := hid (HA.out.frm f' (fun e => HNE.out e)); have n2_ := hid (below_frm1 HF.out f' HCB.out); clear HM HA HF; have HM := n0_; clear n0_; have HA := n1_; clear n1_; have HF := n2_; clear n2_; clear f' h'))
              go_roundw
              case rel => exact ⟨8, _, cs, by omega, by go_num, HA.out, HM.out, fun k h1 h2 => HYS.out k h1 (by omega), fun _ => rfl, HF.out⟩
              case measure => simp [intOf]
            · have hyv := same_vals HLY.out HLV.out (by decide) HYS.out
              have hzc := HZS.out rfl
              have HM2 := hid (show IsMap _ bb vs cs from hyv ▸ hzc ▸ HM.out)
              clear HM HYS HZS hyv hzc hp
              have HM := HM2; clear HM2
              go_wp2
              go_loopw [12] (fun i wr => ∃ (k : Nat), k ≤ 64 ∧ i = .int .i64 k ∧ IsMap wr ba vs cs ∧ IsMap wr bb vs cs ∧ Below w.heap.size w wr) (fun i _ => 64 - (intOf i).toNat)
              case atStart => exact ⟨0, by omega, rfl, HA.out, HM.out, HF.out⟩
              case round =>
                clear HM HF HA
                obtain ⟨k, hk, rfl, ha, hm, hf⟩ := hrel
                have HA := hid ha; have HM := hid hm; have HF := hid hf; clear ha hm hf
                by_cases hlt : k < 64
                · have hkl : (k : Int) < 64 := by omega
                  have e8 : IntKind.u8.wrap (k : Int) = (k : Int) := by simp [IntKind.wrap, IntKind.bits, IntKind.signed]; omega
                  have HK0 := hid (show 0 ≤ (k : Int) by omega)
                  go_wp2_with (first
                    | (go_at_call 12; (with_reducible refine (PGet_calls HA.out (k : Int) HK0.out _ rfl).mono ?_); rintro e w' ⟨rfl, rfl⟩; skip)
                    | (go_at_call 12; (with_reducible refine (PGet_calls HM.out (k : Int) HK0.out _ rfl).mono ?_); rintro e w' ⟨rfl, rfl⟩; skip))
                  refine ⟨⟨_, _, _, _, _, _, _, _, _, _, _, _, _, _, _, ?rel, rfl⟩, ?measure⟩
                  case rel => exact ⟨k + 1, by omega, by go_num, HA.out, HM.out, HF.out⟩
                  case measure => simp [intOf]; omega
                · have hkl : 64 ≤ (k : Int) := by omega
                  clear hlt
                  go_wp2_with (first
                    | (go_at_call 13; (with_reducible refine (PSame_calls HA.out HM.out true (by simp)).mono ?_); rintro e w' ⟨rfl, f'⟩; have n0_ := hid (below_frm0 HF.out f'); clear HF; have HF := n0_; clear n0_; clear f'))
                  go_ret
                  exact ⟨rfl, HF.out⟩
end Go.Proofs.Ytbjkdikiomhmgaa
