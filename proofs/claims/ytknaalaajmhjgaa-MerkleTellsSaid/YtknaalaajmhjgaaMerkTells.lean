/- MerkleTells, walked: of every map, pages and sums: leaves, groups, roots, which are unlike. -/
import Derived.Test.YtknaalaajmhjgaaRSums
import Derived.Test.YtknaalaajmhjgaaMerkHelp
namespace Go.Proofs.Ytknaalaajmhjgaa
open Go.RowKit Go.ChangeShapes
set_option linter.unusedVariables false
set_option linter.unusedSimpArgs false
set_option maxRecDepth 100000
theorem zeroRM (w : World) : (zeroValue TRM).run Try.prog w = .ok (.agg (rcells (List.replicate 64 0) (List.replicate 10 0)).toArray) w := by kernel_rfl
theorem RM_new (w : World) : IsRM (w.alloc (.cells (rcells (List.replicate 64 0) (List.replicate 10 0)).toArray TRM)) w.heap.size (List.replicate 64 0) (List.replicate 10 0) := ⟨Blk.new w (rcells (List.replicate 64 0) (List.replicate 10 0)) TRM, by decide, by decide, by decide, by decide⟩
theorem setC_00 {cs : List Int} (h : cs.getD 0 0 = 0) (i t r : Int) : (setC cs i t r).getD 0 0 = 0 := by
  unfold setC
  split
  · rw [List.getD_eq_getElem?_getD, List.getElem?_set_ne (by omega), List.getElem?_set_ne (by omega), ← List.getD_eq_getElem?_getD]
    exact h
  · exact h
set_option maxHeartbeats 32000000 in
theorem MerkleTells_walk (a0 : Option Addr) (c0 : Nat) (z0 : List Int) (a1 : Option Addr) (c1 : Nat) (z1 : List Int) (pp : Int) (a3 : Option Addr) (c3 : Nat) (z3 : List Int) (a4 : Option Addr) (c4 : Nat) (z4 : List Int) (a5 : Option Addr) (c5 : Nat) (z5 : List Int) (gg : Int) (w : World)
    (h0 : IsInts .u8 w a0 c0 z0) (h1 : IsInts .u16 w a1 c1 z1) (w2_ : (Lit.int .i64 pp).wf = true) (h3 : IsInts .u8 w a3 c3 z3) (h4 : IsInts .u64 w a4 c4 z4) (h5 : IsInts .u64 w a5 c5 z5) (w6_ : (Lit.int .i64 gg).wf = true) :
    Calls Try.prog 6 #[.slice a0 z0.length c0, .slice a1 z1.length c1, .int .i64 pp, .slice a3 z3.length c3, .slice a4 z4.length c4, .slice a5 z5.length c5, .int .i64 gg] w fun e w' => e = .returned (.bool true) ∧ Below w.heap.size w w' := by
  have hle := h0.le
  have hsm := h0.small
  have hle1 := h1.le
  have hsm1 := h1.small
  clear w2_ w6_
  by_cases hl0 : z0.length > 80
  · go_enter Try.func6, Try.ntmps6
    go_wp2_with (go_at_call 8; (with_reducible refine (known_calls _).mono ?_); rintro e w' ⟨rfl, f1⟩)
    go_ret
    exact ⟨rfl, f1⟩
  by_cases hl1 : z1.length < z0.length
  · go_enter Try.func6, Try.ntmps6
    go_wp2_with (go_at_call 8; (with_reducible refine (known_calls _).mono ?_); rintro e w' ⟨rfl, f1⟩)
    go_ret
    exact ⟨rfl, f1⟩
  by_cases hl3 : z3.length > 200
  · go_enter Try.func6, Try.ntmps6
    go_wp2_with (go_at_call 8; (with_reducible refine (known_calls _).mono ?_); rintro e w' ⟨rfl, f1⟩)
    go_ret
    exact ⟨rfl, f1⟩
  by_cases hl4 : z4.length > 12
  · go_enter Try.func6, Try.ntmps6
    go_wp2_with (go_at_call 8; (with_reducible refine (known_calls _).mono ?_); rintro e w' ⟨rfl, f1⟩)
    go_ret
    exact ⟨rfl, f1⟩
  by_cases hl5 : z5.length > 12
  · go_enter Try.func6, Try.ntmps6
    go_wp2_with (go_at_call 8; (with_reducible refine (known_calls _).mono ?_); rintro e w' ⟨rfl, f1⟩)
    go_ret
    exact ⟨rfl, f1⟩
  have H0 := hid h0; have H1 := hid h1; have H3 := hid h3; have H4 := hid h4; have H5 := hid h5
  obtain ⟨nb, hnb⟩ : ∃ n, z3.length = n := ⟨_, rfl⟩
  obtain ⟨nx, hnx⟩ : ∃ n, z4.length = n := ⟨_, rfl⟩
  obtain ⟨ny, hny⟩ : ∃ n, z5.length = n := ⟨_, rfl⟩
  obtain ⟨n, hn⟩ : ∃ n, z0.length = n := ⟨_, rfl⟩
  obtain ⟨m, hm⟩ : ∃ m, z1.length = m := ⟨_, rfl⟩
  rw [hnb, hnx, hny, hn, hm]
  have HNB := hid hnb; have HNX := hid hnx; have HNY := hid hny; have HN := hid hn; have HMM := hid hm
  have HNB2 := hid (show nb ≤ 100000 by omega)
  have b1 : ¬ (80 : Int) < (n : Int) := by omega
  have b2 : ¬ (m : Int) < (n : Int) := by omega
  have b3 : ¬ (200 : Int) < (nb : Int) := by omega
  have b4 : ¬ (12 : Int) < (nx : Int) := by omega
  have b5 : ¬ (12 : Int) < (ny : Int) := by omega
  have hn80 : (n : Int) ≤ 80 := by omega
  have hnm : (n : Int) ≤ (m : Int) := by omega
  obtain ⟨F, hF⟩ : ∃ F, leafS pp z3 = F := ⟨_, rfl⟩
  obtain ⟨RX, hRX⟩ : ∃ R, rootS z4 = R := ⟨_, rfl⟩
  obtain ⟨G, hG⟩ : ∃ G, groupS z4 gg = G := ⟨_, rfl⟩
  have HFF := hid hF; have HRX := hid hRX; have HGG := hid hG
  obtain ⟨ZV, hZV⟩ : ∃ Z, (rcells (List.replicate 64 0) (List.replicate 10 0)).toArray = Z := ⟨_, rfl⟩
  have hz := zeroRM
  rw [hZV] at hz
  have HZV := hid hZV
  clear h0 h1 h3 h4 h5 hnb hnx hny hn hm hl0 hl1 hl3 hl4 hl5 hle hsm hle1 hsm1 hF hRX hG hZV
  go_enter Try.func6, Try.ntmps6
  go_wp2_with (first
    | (go_at_call 8; (with_reducible refine (known_calls w).mono ?_); rintro e w1 ⟨rfl, f'⟩; have HF := hid f'; clear f')
    | (go_at_call 15; (with_reducible refine (PNew_calls w1).mono ?_); rintro e w2 ⟨rfl, h', f'⟩; have HMB := hid HF.out.size; have HM := hid h'; have HF2 := hid (below_next HF.out f'); clear HF h' f'; have HF := HF2; clear HF2))
  have HR0 := hid (show IsRM (w2.alloc (.cells ZV TRM)) w2.heap.size (List.replicate 64 0) (List.replicate 10 0) from HZV.out ▸ RM_new w2)
  have HM0 := hid (HM.out.frm (frm_box w2 (.cells ZV TRM)) (fun h => h))
  have HF0 := hid (HF.out.alloc HF.out.size (.cells ZV TRM))
  have HRB := hid (show w.heap.size ≤ w2.heap.size from HF.out.size)
  have HMR := hid (show w1.heap.size < w2.heap.size from HM.out.blk.lt)
  clear HM HF
  generalize hmb : w1.heap.size = mb at *
  generalize hrb : w2.heap.size = rb at *
  clear hmb hrb
  have HRM := hid (show ¬ rb = mb from fun e => by have := HMR.out; omega)
  have HMN := hid (show ¬ mb = rb from fun e => by have := HMR.out; omega)
  go_loopw [17] (fun iv wr => ∃ (k : Nat) (vs cs : List Int), k ≤ n ∧ iv = .int .i64 k ∧ cs.getD 0 0 = 0 ∧ IsMap wr mb vs cs ∧ IsRM wr rb vs cs ∧ Below w.heap.size w wr) (fun i _ => n - (intOf i).toNat)
  case atStart => exact ⟨0, _, _, by omega, rfl, by decide, HM0.out, HR0.out, HF0.out⟩
  case round =>
    clear HM0 HR0 HF0
    obtain ⟨k, vs, cs, hk, rfl, h00, hm, hr, hf⟩ := hrel
    have HF := hid hf; have HM := hid hm; have HR := hid hr; have H00 := hid h00
    clear hf hm hr h00
    by_cases hlt : k < n
    · obtain ⟨ga, oa, rfl, hga, hca⟩ := H0.out.at_ (by have := HN.out; omega)
      obtain ⟨gb, ob, rfl, hgb, hcb⟩ := H1.out.at_ (by have := HMM.out; omega)
      have hxa := hca k (by rw [HN.out]; exact hlt)
      have hxb := hcb k (by rw [HMM.out]; omega)
      have wfa : (Lit.int .u8 (z0.getD k 0)).wf = true := H0.out.wf _ (by rw [List.getD_eq_getElem?_getD, List.getElem?_eq_getElem (by rw [HN.out]; exact hlt)]; exact List.getElem_mem _)
      have wfb : (Lit.int .u16 (z1.getD k 0)).wf = true := H1.out.wf _ (by rw [List.getD_eq_getElem?_getD, List.getElem?_eq_getElem (show k < z1.length by rw [HMM.out]; omega)]; exact List.getElem_mem _)
      generalize z0.getD k 0 = x at hxa wfa
      generalize z1.getD k 0 = y at hxb wfb
      have hx := bounds_u8 wfa
      have hy : 0 ≤ y ∧ y ≤ 65535 := by simp [Lit.wf, IntKind.min, IntKind.max, IntKind.bits, IntKind.signed] at wfb; omega
      have HXA := hid hxa; have HXB := hid hxb; have HGA := hid hga; have HGB := hid hgb
      have hkl : (k : Int) < (n : Int) := by omega
      have hkl1 : (k : Int) < (m : Int) := by omega
      have hk80 : (k : Int) ≤ 80 := by omega
      have HX := hid hx; have HY := hid hy
      have HY32 := hid (show 0 ≤ y ∧ y ≤ 4294967295 by omega)
      have e32 : IntKind.u32.wrap y = y := by simp [IntKind.wrap, IntKind.bits, IntKind.signed]; omega
      have HLT := hid hlt
      clear hca hcb wfa wfb hxa hxb hga hgb hlt hk hx hy
      go_wp2_with (fail)
      have HM2 := hid (HM.out.frm (frm_drew wr) (fun h => h)); have HR2 := hid (HR.out.drew); have HF2 := hid (bdrew HF.out); clear HM HR HF; have HM := HM2; have HR := HR2; have HF := HF2; clear HM2 HR2 HF2; have r0 := (HF.out.cell (p := ⟨ga, oa + k, none⟩) HGA.out).trans HXA.out; have r1 := (HF.out.cell (p := ⟨gb, ob + k, none⟩) HGB.out).trans HXB.out
      go_region_held3 (fun wx => wx.cell? ⟨ga, oa + k, none⟩ = some (.int .u8 x) ∧ wx.cell? ⟨gb, ob + k, none⟩ = some (.int .u16 y)) (first | go_keep | exact ⟨r0, r1⟩) ((go_at_call 16; (with_reducible refine (PPut_calls HM.out x HX.out.1 y HY.out _ rfl).mono ?_); rintro e w4 ⟨rfl, h', f'⟩; clear r0 r1; have n0_ := hid (h'); have n1_ := hid (HR.out.frm f' HRM.out); have n2_ := hid (below_frm1 HF.out f' HMB.out); clear HM HR HF; have HM := n0_; clear n0_; have HR := n1_; clear n1_; have HF := n2_; clear n2_; clear f' h'; have r0 := (HF.out.cell (p := ⟨ga, oa + k, none⟩) HGA.out).trans HXA.out; have r1 := (HF.out.cell (p := ⟨gb, ob + k, none⟩) HGB.out).trans HXB.out))
      clear r0 r1
      go_wp2_with (fail)
      have HM2 := hid (HM.out.frm (frm_drew w4) (fun h => h)); have HR2 := hid (HR.out.drew); have HF2 := hid (bdrew HF.out); clear HM HR HF; have HM := HM2; have HR := HR2; have HF := HF2; clear HM2 HR2 HF2; have r0 := (HF.out.cell (p := ⟨ga, oa + k, none⟩) HGA.out).trans HXA.out; have r1 := (HF.out.cell (p := ⟨gb, ob + k, none⟩) HGB.out).trans HXB.out
      go_region_held3 (fun wx => wx.cell? ⟨ga, oa + k, none⟩ = some (.int .u8 x) ∧ wx.cell? ⟨gb, ob + k, none⟩ = some (.int .u16 y)) (first | go_keep | exact ⟨r0, r1⟩) ((go_at_call 23; (with_reducible refine (RPut_calls HR.out x HX.out.1 y HY.out _ rfl).mono ?_); rintro e w5 ⟨rfl, h', f'⟩; clear r0 r1; have n0_ := hid (h'); have n1_ := hid (HM.out.frm f' HMN.out); have n2_ := hid (below_frm1 HF.out f' HRB.out); clear HR HM HF; have HR := n0_; clear n0_; have HM := n1_; clear n1_; have HF := n2_; clear n2_; clear f' h'; have r0 := (HF.out.cell (p := ⟨ga, oa + k, none⟩) HGA.out).trans HXA.out; have r1 := (HF.out.cell (p := ⟨gb, ob + k, none⟩) HGB.out).trans HXB.out))
      clear r0 r1
      go_wp2_with (fail)
      have HM2 := hid (HM.out.frm (frm_drew w5) (fun h => h)); have HR2 := hid (HR.out.drew); have HF2 := hid (bdrew HF.out); clear HM HR HF; have HM := HM2; have HR := HR2; have HF := HF2; clear HM2 HR2 HF2; have r0 := (HF.out.cell (p := ⟨ga, oa + k, none⟩) HGA.out).trans HXA.out; have r1 := (HF.out.cell (p := ⟨gb, ob + k, none⟩) HGB.out).trans HXB.out
      go_region_held3 (fun wx => wx.cell? ⟨ga, oa + k, none⟩ = some (.int .u8 x) ∧ wx.cell? ⟨gb, ob + k, none⟩ = some (.int .u16 y)) (first | go_keep | exact ⟨r0, r1⟩) ((go_at_call 24; (with_reducible refine (PSetClient_calls HM.out x HX.out.1 y 3 HY32.out (by decide) _ rfl).mono ?_); rintro e w6 ⟨rfl, h', f'⟩; clear r0 r1; have n0_ := hid (h'); have n1_ := hid (HR.out.frm f' HRM.out); have n2_ := hid (below_frm1 HF.out f' HMB.out); clear HM HR HF; have HM := n0_; clear n0_; have HR := n1_; clear n1_; have HF := n2_; clear n2_; clear f' h'; have r0 := (HF.out.cell (p := ⟨ga, oa + k, none⟩) HGA.out).trans HXA.out; have r1 := (HF.out.cell (p := ⟨gb, ob + k, none⟩) HGB.out).trans HXB.out))
      clear r0 r1
      go_wp2_with (fail)
      have HM2 := hid (HM.out.frm (frm_drew w6) (fun h => h)); have HR2 := hid (HR.out.drew); have HF2 := hid (bdrew HF.out); clear HM HR HF; have HM := HM2; have HR := HR2; have HF := HF2; clear HM2 HR2 HF2; have r0 := (HF.out.cell (p := ⟨ga, oa + k, none⟩) HGA.out).trans HXA.out; have r1 := (HF.out.cell (p := ⟨gb, ob + k, none⟩) HGB.out).trans HXB.out
      go_region_held3 (fun wx => wx.cell? ⟨ga, oa + k, none⟩ = some (.int .u8 x) ∧ wx.cell? ⟨gb, ob + k, none⟩ = some (.int .u16 y)) (first | go_keep | exact ⟨r0, r1⟩) ((go_at_call 25; (with_reducible refine (RSetClient_calls HR.out x HX.out.1 y 3 HY32.out (by decide) _ rfl).mono ?_); rintro e w7 ⟨rfl, h', f'⟩; clear r0 r1; have n0_ := hid (h'); have n1_ := hid (HM.out.frm f' HMN.out); have n2_ := hid (below_frm1 HF.out f' HRB.out); clear HR HM HF; have HR := n0_; clear n0_; have HM := n1_; clear n1_; have HF := n2_; clear n2_; clear f' h'; have r0 := (HF.out.cell (p := ⟨ga, oa + k, none⟩) HGA.out).trans HXA.out; have r1 := (HF.out.cell (p := ⟨gb, ob + k, none⟩) HGB.out).trans HXB.out))
      clear r0 r1
      go_wp2_with (fail)
      go_roundw
      case rel => exact ⟨k + 1, _, _, by have := HLT.out; omega, by go_num, setC_00 H00.out _ _ _, HM.out, HR.out, HF.out⟩
      case measure => simp [intOf]; have := HLT.out; omega
    · have hkl : (n : Int) ≤ (k : Int) := by omega
      obtain ⟨S, hS⟩ : ∃ S, sumsL vs cs = S := ⟨_, rfl⟩
      obtain ⟨R, hR⟩ : ∃ R, rootS S = R := ⟨_, rfl⟩
      have HS := hid hS; have HS8 := hid (show S.length = 8 from by rw [← hS]; rfl); have HRR := hid (show rootS (sumsL vs cs) = R by rw [hS, hR])
      clear hS hR hlt
      go_wp2_with (first
        | (go_at_call 17; (with_reducible refine (Sums_calls HM.out S HS.out).mono ?_); rintro e w11 ⟨g1, rfl, hg, hI, f'⟩; have HI1 := hid hI; have n0_ := hid (HM.out.frm f' (fun h => h)); have n1_ := hid (HR.out.frm f' (fun h => h)); have n2_ := hid (below_frm0 HF.out f'); clear HM HR HF; have HM := n0_; clear n0_; have HR := n1_; clear n1_; have HF := n2_; clear n2_; clear f'; clear hI hg)
        | (go_at_call 26; (with_reducible refine (RSums_calls HR.out H00.out S HS.out).mono ?_); rintro e w12 ⟨a9, c9, rfl, hI, f'⟩; have HI2 := hid hI; have n0_ := hid (HM.out.frm (frm0_of f') (fun h => h)); have n1_ := hid (HR.out.frm (frm0_of f') (fun h => h)); have n2_ := hid (below_next HF.out f'); have n3_ := hid (HI1.out.frm (frm0_of f') (fun _ _ h => h)); clear HM HR HF HI1; have HM := n0_; clear n0_; have HR := n1_; clear n1_; have HF := n2_; clear n2_; have HI1 := n3_; clear n3_; clear f'; clear hI)
        | (go_at_call 22; (with_reducible refine (HSums_eq 8 8 HI1.out HI2.out HS8.out HS8.out).mono ?_); rintro e w13 ⟨rfl, f'⟩; have n0_ := hid (HM.out.frm f' (fun h => h)); have n1_ := hid (HR.out.frm f' (fun h => h)); have n2_ := hid (below_frm0 HF.out f'); clear HM HR HF; have HM := n0_; clear n0_; have HR := n1_; clear n1_; have HF := n2_; clear n2_; clear f'; clear HI1 HI2)
        | (go_at_call 18; (with_reducible refine (Of_calls HM.out R HRR.out).mono ?_); rintro e w14 ⟨rfl, f'⟩; have n0_ := hid (HM.out.frm f' (fun h => h)); have n1_ := hid (HR.out.frm f' (fun h => h)); have n2_ := hid (below_frm0 HF.out f'); clear HM HR HF; have HM := n0_; clear n0_; have HR := n1_; clear n1_; have HF := n2_; clear n2_; clear f')
        | (go_at_call 27; (with_reducible refine (RRootM_calls HR.out H00.out R HRR.out).mono ?_); rintro e w15 ⟨rfl, f'⟩; have n0_ := hid (HM.out.frm (frm0_of f') (fun h => h)); have n1_ := hid (HR.out.frm (frm0_of f') (fun h => h)); have n2_ := hid (below_next HF.out f'); clear HM HR HF; have HM := n0_; clear n0_; have HR := n1_; clear n1_; have HF := n2_; clear n2_; clear f')
        | (go_at_call 13; (with_reducible refine (Leaf_calls pp nb (H3.out.below HF.out (Nat.le_refl _)) HNB.out HNB2.out F HFF.out).mono ?_); rintro e w16 ⟨rfl, f'⟩; have n0_ := hid (HM.out.frm f' (fun h => h)); have n1_ := hid (HR.out.frm f' (fun h => h)); have n2_ := hid (below_frm0 HF.out f'); clear HM HR HF; have HM := n0_; clear n0_; have HR := n1_; clear n1_; have HF := n2_; clear n2_; clear f')
        | (go_at_call 28; (with_reducible refine (RLeaf_calls pp nb (H3.out.below HF.out (Nat.le_refl _)) HNB.out HNB2.out F HFF.out).mono ?_); rintro e w17 ⟨rfl, f'⟩; have n0_ := hid (HM.out.frm f' (fun h => h)); have n1_ := hid (HR.out.frm f' (fun h => h)); have n2_ := hid (below_frm0 HF.out f'); clear HM HR HF; have HM := n0_; clear n0_; have HR := n1_; clear n1_; have HF := n2_; clear n2_; clear f')
        | (go_at_call 11; (with_reducible refine (Root_calls nx (H4.out.below HF.out (Nat.le_refl _)) HNX.out RX HRX.out).mono ?_); rintro e w18 ⟨rfl, f'⟩; have n0_ := hid (HM.out.frm f' (fun h => h)); have n1_ := hid (HR.out.frm f' (fun h => h)); have n2_ := hid (below_frm0 HF.out f'); clear HM HR HF; have HM := n0_; clear n0_; have HR := n1_; clear n1_; have HF := n2_; clear n2_; clear f')
        | (go_at_call 29; (with_reducible refine (RRoot_calls nx (H4.out.below HF.out (Nat.le_refl _)) HNX.out RX HRX.out).mono ?_); rintro e w19 ⟨rfl, f'⟩; have n0_ := hid (HM.out.frm f' (fun h => h)); have n1_ := hid (HR.out.frm f' (fun h => h)); have n2_ := hid (below_frm0 HF.out f'); clear HM HR HF; have HM := n0_; clear n0_; have HR := n1_; clear n1_; have HF := n2_; clear n2_; clear f')
        | (go_at_call 10; (with_reducible refine (Group_calls nx (H4.out.below HF.out (Nat.le_refl _)) HNX.out gg G HGG.out).mono ?_); rintro e w20 ⟨rfl, f'⟩; have n0_ := hid (HM.out.frm f' (fun h => h)); have n1_ := hid (HR.out.frm f' (fun h => h)); have n2_ := hid (below_frm0 HF.out f'); clear HM HR HF; have HM := n0_; clear n0_; have HR := n1_; clear n1_; have HF := n2_; clear n2_; clear f')
        | (go_at_call 30; (with_reducible refine (RGroup_calls nx (H4.out.below HF.out (Nat.le_refl _)) HNX.out gg G HGG.out).mono ?_); rintro e w21 ⟨rfl, f'⟩; have n0_ := hid (HM.out.frm f' (fun h => h)); have n1_ := hid (HR.out.frm f' (fun h => h)); have n2_ := hid (below_frm0 HF.out f'); clear HM HR HF; have HM := n0_; clear n0_; have HR := n1_; clear n1_; have HF := n2_; clear n2_; clear f')
        | (go_at_call 12; (with_reducible refine (Unlike_calls nx ny (H4.out.below HF.out (Nat.le_refl _)) (H5.out.below HF.out (Nat.le_refl _)) HNX.out HNY.out).mono ?_); rintro e w22 ⟨a1, c1, rfl, hu, f'⟩; have HU1 := hid hu; have n0_ := hid (HM.out.frm f' (fun h => h)); have n1_ := hid (HR.out.frm f' (fun h => h)); have n2_ := hid (below_frm0 HF.out f'); clear HM HR HF; have HM := n0_; clear n0_; have HR := n1_; clear n1_; have HF := n2_; clear n2_; clear f'; clear hu)
        | (go_at_call 31; (with_reducible refine (RUnlike_calls nx ny (H4.out.below HF.out (Nat.le_refl _)) (H5.out.below HF.out (Nat.le_refl _)) HNX.out HNY.out).mono ?_); rintro e w23 ⟨a2, c2, rfl, hu, f'⟩; have HU2 := hid hu; have n0_ := hid (HM.out.frm f' (fun h => h)); have n1_ := hid (HR.out.frm f' (fun h => h)); have n2_ := hid (below_frm0 HF.out f'); have n3_ := hid (HU1.out.frm f' (fun _ _ h => h)); clear HM HR HF HU1; have HM := n0_; clear n0_; have HR := n1_; clear n1_; have HF := n2_; clear n2_; have HU1 := n3_; clear n3_; clear f'; clear hu)
        | (go_at_call 21; (with_reducible refine (HInts_eq (unl z4 z5 8).length (unl z4 z5 8).length HU1.out HU2.out rfl rfl).mono ?_); rintro e w24 ⟨rfl, f'⟩; have n0_ := hid (HM.out.frm f' (fun h => h)); have n1_ := hid (HR.out.frm f' (fun h => h)); have n2_ := hid (below_frm0 HF.out f'); clear HM HR HF; have HM := n0_; clear n0_; have HR := n1_; clear n1_; have HF := n2_; clear n2_; clear f'; clear HU1 HU2))
      go_ret
      exact ⟨rfl, HF.out⟩
end Go.Proofs.Ytknaalaajmhjgaa
