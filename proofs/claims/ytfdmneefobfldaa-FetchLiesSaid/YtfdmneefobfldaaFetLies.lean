/- FetchLies, walked: sums that don't make the root, pages that don't make their sums are refused, and nothing is changed by them. -/
import Derived.Test.YtfdmneefobfldaaFetKnown
namespace Go.Proofs.Ytfdmneefobfldaa
open Go.RowKit Go.ChangeShapes
set_option linter.unusedVariables false
set_option linter.unusedSimpArgs false
set_option maxRecDepth 20000
theorem wants_mem {wl : List Bool} {p : Int} (h : p ∈ wants wl) : ∃ q : Nat, p = (q : Int) ∧ q < 8 ∧ wl.getD q false = true := by
  unfold wants at h
  obtain ⟨k, hk, rfl⟩ := List.mem_map.1 h
  have := List.mem_filter.1 hk
  exact ⟨k, rfl, List.mem_range.1 this.1, this.2⟩
theorem wants_len (wl : List Bool) : (wants wl).length ≤ 8 := wantsN_len wl 8
set_option maxRecDepth 100000 in
set_option maxHeartbeats 16000000 in
theorem FetchLies_walk (a0 : Option Addr) (c0 : Nat) (z0 : List Int) (a1 : Option Addr) (c1 : Nat) (z1 : List Int) (a2 : Option Addr) (c2 : Nat) (z2 : List Int) (w : World) (h0 : IsInts .u8 w a0 c0 z0) (h1 : IsInts .u64 w a1 c1 z1) (h2 : IsInts .u8 w a2 c2 z2) :
    Calls Try.prog 4 #[.slice a0 z0.length c0, .slice a1 z1.length c1, .slice a2 z2.length c2] w fun e w' => e = .returned (.bool true) ∧ Below w.heap.size w w' := by
  have hle := h0.le
  have hsm := h0.small
  have hle1 := h1.le
  have hsm1 := h1.small
  have hle2 := h2.le
  have hsm2 := h2.small
  by_cases hlen : z0.length > 60
  · go_enter Try.func4, Try.ntmps4
    go_wp2_with (go_at_call 6; (with_reducible refine (known_calls _).mono ?_); rintro e w' ⟨rfl, f1⟩)
    go_ret
    exact ⟨rfl, f1⟩
  by_cases hlen1 : z1.length > 12
  · go_enter Try.func4, Try.ntmps4
    go_wp2_with (go_at_call 6; (with_reducible refine (known_calls _).mono ?_); rintro e w' ⟨rfl, f1⟩)
    go_ret
    exact ⟨rfl, f1⟩
  by_cases hlen2 : z2.length > 200
  · go_enter Try.func4, Try.ntmps4
    go_wp2_with (go_at_call 6; (with_reducible refine (known_calls _).mono ?_); rintro e w' ⟨rfl, f1⟩)
    go_ret
    exact ⟨rfl, f1⟩
  have H0 := hid h0; have H1 := hid h1; have H2 := hid h2; clear h0 h1 h2
  have HZ2 := hid (show z2.length ≤ 100000 by omega)
  obtain ⟨cs, hcs⟩ : ∃ cs, cs = List.replicate 10 (0 : Int) := ⟨_, rfl⟩
  have HCS := hid hcs; clear hcs
  go_enter Try.func4, Try.ntmps4
  go_wp2_with (first
    | (go_at_call 6; (with_reducible refine (known_calls _).mono ?_); rintro e w1 ⟨rfl, f1⟩; have HF := hid f1; clear f1)
    | (go_at_call 7; (with_reducible refine (PNew_calls w1).mono ?_); rintro e w2 ⟨rfl, h', f'⟩; have HB := hid HF.out.size; have HA := hid (HCS.out ▸ h'); have n0_ := hid (below_next HF.out f'); clear HF; have HF := n0_; clear n0_; clear f' h')
    | (go_at_call 7; (with_reducible refine (PNew_calls _).mono ?_); rintro e w3 ⟨rfl, h', f'⟩; have HAL := hid HA.out.blk.lt; have HCB := hid HF.out.size; have HM := hid (HCS.out ▸ h'); have n0_ := hid (HA.out.frm (frm0_of f') (fun h => h)); have n1_ := hid (below_next HF.out f'); clear HA HF; have HA := n0_; clear n0_; have HF := n1_; clear n1_; clear f' h'))
  have HNE := hid (Nat.ne_of_lt HAL.out)
  generalize hba : w1.heap.size = ba at *
  generalize hbb : w2.heap.size = bb at *
  clear hba hbb HAL
  go_loopw [9] (fun i wr => ∃ (k : Nat) (vs : List Int), k ≤ z0.length ∧ i = .int .i64 k ∧ IsMap wr ba (List.replicate 64 0) cs ∧ IsMap wr bb vs cs ∧ Below w.heap.size w wr) (fun i _ => z0.length - (intOf i).toNat)
  case atStart => exact ⟨0, _, by omega, rfl, HA.out, HM.out, HF.out⟩
  case round =>
    clear HM HF HA
    obtain ⟨k, vs, hk, rfl, ha, hm, hf⟩ := hrel
    have HA := hid ha; have HM := hid hm; have HF := hid hf; clear ha hm hf
    by_cases hlt : k < z0.length
    · obtain ⟨ga, oa, rfl, hga, hca⟩ := H0.out.at_ (by omega)
      have hxa := hca k hlt
      have wfa : (Lit.int .u8 (z0.getD k 0)).wf = true := H0.out.wf _ (by rw [List.getD_eq_getElem?_getD, List.getElem?_eq_getElem hlt]; exact List.getElem_mem hlt)
      generalize z0.getD k 0 = x at hxa wfa
      have hx := bounds_u8 wfa
      have q0 := (HF.out.cell (p := ⟨ga, oa + k, none⟩) hga).trans hxa
      have hkl : (k : Int) < (z0.length : Int) := by omega
      have hk80 : (k : Int) ≤ 60 := by omega
      have e1 : IntKind.u16.wrap (k : Int) = (k : Int) := by simp [IntKind.wrap, IntKind.bits, IntKind.signed]; omega
      have e2 : IntKind.u16.wrap ((k : Int) + 1) = (k : Int) + 1 := by simp [IntKind.wrap, IntKind.bits, IntKind.signed]; omega
      have HX := hid hx
      have HK := hid (show 0 ≤ (k : Int) + 1 ∧ (k : Int) + 1 ≤ 65535 by omega)
      clear hca wfa hxa hga
      go_wp2_with (first
        | (go_at_call 8; (with_reducible refine (PPut_calls HM.out x HX.out.1 ((k : Int) + 1) HK.out _ rfl).mono ?_); rintro e w' ⟨rfl, h', f'⟩; have n0_ := hid (h'); have n1_ := hid (HA.out.frm f' (fun e => HNE.out e)); have n2_ := hid (below_frm1 HF.out f' HCB.out); clear HM HA HF; have HM := n0_; clear n0_; have HA := n1_; clear n1_; have HF := n2_; clear n2_; clear f' h' q0))
      go_roundw
      case rel => exact ⟨k + 1, _, by omega, by go_num, HA.out, HM.out, HF.out⟩
      case measure => simp [intOf]; omega
    · have hkl : (z0.length : Int) ≤ (k : Int) := by omega
      clear hlt
      obtain ⟨S, hS⟩ : ∃ S, sumsL vs cs = S := ⟨_, rfl⟩
      have hS8 : S.length = 8 := by rw [← hS]; rfl
      obtain ⟨R, hR⟩ : ∃ R, rootS S = R := ⟨_, rfl⟩
      have HRR := hid (show rootS (sumsL vs cs) = R by rw [hS, hR])
      have HS := hid hS; have HS8 := hid hS8; have HR := hid hR
      obtain ⟨X, hX⟩ : ∃ S, sumsL (List.replicate 64 0) cs = S := ⟨_, rfl⟩
      have HX := hid hX
      obtain ⟨T, hT⟩ : ∃ R, rootS z1 = R := ⟨_, rfl⟩
      have HT := hid hT
      obtain ⟨wl, hwl⟩ : ∃ wl, setT (unl X S 8) = wl := ⟨_, rfl⟩
      have HWL := hid hwl
      clear hS hS8 hR hX hT hwl
      by_cases hTR : T = R
      · have z0 : (T == R) = true := by rw [hTR]; exact beq_self_eq_true _
        have z4 : (T != R) = false := by rw [hTR]; simp
        have HTR := hid hTR; clear hTR
        go_wp2_with (first
          | (go_at_call 10; (with_reducible refine (Of_calls HM.out R HRR.out).mono ?_); rintro e w' ⟨rfl, f'⟩; have n0_ := hid (HA.out.frm f' (fun h => h)); have n1_ := hid (HM.out.frm f' (fun h => h)); have n2_ := hid (HE.out.quiet f'); have n3_ := hid (below_frm0 HF.out f'); clear HA HM HE HF; have HA := n0_; clear n0_; have HM := n1_; clear n1_; have HE := n2_; clear n2_; have HF := n3_; clear n3_; clear f')
          | (go_at_call 10; (with_reducible refine (Of_calls HM.out R HRR.out).mono ?_); rintro e w' ⟨rfl, f'⟩; have n0_ := hid (HA.out.frm f' (fun h => h)); have n1_ := hid (HM.out.frm f' (fun h => h)); have n2_ := hid (below_frm0 HF.out f'); clear HA HM HF; have HA := n0_; clear n0_; have HM := n1_; clear n1_; have HF := n2_; clear n2_; clear f')
          | (go_at_call 9; (with_reducible refine (FNew_calls HA.out 0 R).mono ?_); rintro e w' ⟨fb, mb, rfl, hfb, hmb, he, f'⟩; have HFB := hid (Nat.le_trans HF.out.size hfb); have HMB := hid (Nat.le_trans HF.out.size hmb); have HE := hid he; have HFM := hid (show fb ≠ bb from fun e => by have := HM.out.blk.lt; omega); have n0_ := hid (HA.out.frm (frm0_of f') (fun h => h)); have n1_ := hid (HM.out.frm (frm0_of f') (fun h => h)); have n2_ := hid (below_next HF.out f'); clear HA HM HF; have HA := n0_; clear n0_; have HM := n1_; clear n1_; have HF := n2_; clear n2_; clear f' he hfb hmb)
          | (go_at_call 18; (with_reducible refine (Root_calls _ (H1.out.frm (frm0_of HF.out) (fun _ _ h => h)) rfl T HT.out).mono ?_); rintro e w' ⟨rfl, f'⟩; have n0_ := hid (HA.out.frm f' (fun h => h)); have n1_ := hid (HM.out.frm f' (fun h => h)); have n2_ := hid (HE.out.quiet f'); have n3_ := hid (below_frm0 HF.out f'); clear HA HM HE HF; have HA := n0_; clear n0_; have HM := n1_; clear n1_; have HE := n2_; clear n2_; have HF := n3_; clear n3_; clear f')
          | (go_at_call 14; (with_reducible refine (Sums_calls HM.out S HS.out).mono ?_); rintro e w' ⟨gs, rfl, hg, hI, f'⟩; have HIB := hid hI; have n0_ := hid (HA.out.frm f' (fun h => h)); have n1_ := hid (HM.out.frm f' (fun h => h)); have n2_ := hid (HE.out.quiet f'); have n3_ := hid (below_frm0 HF.out f'); clear HA HM HE HF; have HA := n0_; clear n0_; have HM := n1_; clear n1_; have HE := n2_; clear n2_; have HF := n3_; clear n3_; clear f'; clear hg hI)
          | (go_at_call 13; (with_reducible refine (FSums_ok HE.out HIB.out HS8.out rfl HR.out X HX.out).mono ?_); rintro e w' ⟨g, c, rfl, he, f', hg⟩; (rw [HWL.out] at he); have HE1 := hid he; have n0_ := hid (HM.out.frm f' (fun e => HFM.out e.symm)); have n1_ := hid (below_frm1 HF.out f' HFB.out); clear HM HF; have HM := n0_; clear n0_; have HF := n1_; clear n1_; clear f' he hg HE HA)
          | (go_at_call 16; (with_reducible refine (Wants1_calls HE1.out).mono ?_); rintro e w' ⟨la, lc, rfl, hi, f'⟩; have HLI := hid hi; have n0_ := hid (HM.out.frm f' (fun h => h)); have n1_ := hid (HE1.out.quiet f'); have n2_ := hid (below_frm0 HF.out f'); clear HM HE1 HF; have HM := n0_; clear n0_; have HE1 := n1_; clear n1_; have HF := n2_; clear n2_; clear f'; clear hi)
          | (go_at_call 14; (with_reducible refine (Sums_calls HM.out S HS.out).mono ?_); rintro e w' ⟨gs2, rfl, hg, hI, f'⟩; have HSI := hid hI; have n0_ := hid (HLI.out.frm f' (fun _ _ h => h)); clear HLI; have HLI := n0_; clear n0_; have n0_ := hid (HM.out.frm f' (fun h => h)); have n1_ := hid (HE1.out.quiet f'); have n2_ := hid (below_frm0 HF.out f'); clear HM HE1 HF; have HM := n0_; clear n0_; have HE1 := n1_; clear n1_; have HF := n2_; clear n2_; clear f'; clear hg hI))
        have HW8 := hid (wants_len wl)
        go_loopw [13] (fun i wr => ∃ (k : Nat), k ≤ (wants wl).length ∧ i = .int .i64 k ∧ IsFe1 wr fb mb g c 0 R (List.replicate 64 0) cs S wl ∧ IsInts .i64 wr la lc (wants wl) ∧ IsInts .u64 wr (some ⟨gs2, 0, none⟩) 8 S ∧ Below w.heap.size w wr) (fun i _ => (wants wl).length - (intOf i).toNat)
        case atStart => exact ⟨0, by omega, rfl, HE1.out, HLI.out, HSI.out, HF.out⟩
        case round =>
          clear HE1 HLI HSI HF HM
          obtain ⟨k, hk, rfl, he, hl, hs, hf⟩ := hrel
          have HE1 := hid he; have HLI := hid hl; have HSI := hid hs; have HF := hid hf; clear he hl hs hf
          by_cases hlt : k < (wants wl).length
          · obtain ⟨ub, uo, rfl, hub, hcell⟩ := HLI.out.at_ (by omega)
            have r0 := hcell k hlt
            obtain ⟨p, hpe, hp8, hwp⟩ := wants_mem (list_getD_mem hlt)
            rw [hpe] at r0
            have HWP := hid hwp; have HP8 := hid hp8
            obtain ⟨Sp, hSp⟩ : ∃ s, S.getD p 0 = s := ⟨_, rfl⟩
            have r1 := ints_cell HSI.out (p := p) (by rw [HS8.out]; exact hp8)
            rw [hSp] at r1
            have HSP := hid hSp
            obtain ⟨Lf, hLf⟩ : ∃ s, leafS (p : Int) z2 = s := ⟨_, rfl⟩
            have HLF := hid hLf
            have hkl : (k : Int) < ((wants wl).length : Int) := by omega
            have hk8 : (k : Int) ≤ 8 := by have := HW8.out; omega
            have hpi : (p : Int) < 8 := by omega
            have hp0 : 0 ≤ (p : Int) := by omega
            have e1 : IntKind.u8.wrap (p : Int) = (p : Int) := by simp only [IntKind.wrap, IntKind.bits, IntKind.signed]; simp; omega
            have HUB := hid hub; have HGL := hid (World.block_lt_of_cell? _ _ r1)
            have HR0 := hid r0; have HR1 := hid r1
            have HLT := hid hlt
            have HD := hid (frm_drew wr)
            clear hcell hpe hwp hSp hLf hub hk hlt
            by_cases hLS : Lf = Sp
            · have y0 : (Lf == Sp) = true := by rw [hLS]; exact beq_self_eq_true _
              have y1 : (Lf != Sp) = false := by rw [hLS]; simp
              clear hLS
              go_wp2_with (fail)
              refine wp_region_held_drew (S := fun wx => wx.cell? ⟨ub, uo + k, none⟩ = some (.int .i64 (p : Int)) ∧ wx.cell? ⟨gs2, p, none⟩ = some (.int .u64 Sp)) (by kernel_rfl) (by exact ⟨r0, r1⟩) (fun hHeld => ?_)
              refine wpAnyH_take (i := 0) (oi := ⟨some 83, _, _, _, _, _⟩) (v := ?v1) rfl (by kernel_rfl) (by kernel_rfl) (by kernel_rfl) (fun _ _ _ h => h) (Or.inl ⟨by rfl, ?y1⟩) (by assumption) ?r1
              case y1 => (intro wx hSx; (try dsimp only at hSx); go_simp; (try with_reducible rfl))
              try simp only [Act.put, List.setIfInBounds_toArray, List.set_cons_zero, List.set_cons_succ]
              refine wpAnyH_take (i := 1) (oi := ⟨some 84, _, _, _, _, _⟩) (v := ?v2) rfl (by kernel_rfl) (by kernel_rfl) (by kernel_rfl) (fun _ _ _ h => h) (Or.inl ⟨by rfl, ?y2⟩) (by assumption) ?r2
              case y2 => (intro wx hSx; (try dsimp only at hSx); go_simp; (try with_reducible rfl))
              try simp only [Act.put, List.setIfInBounds_toArray, List.set_cons_zero, List.set_cons_succ]
              refine wpAnyH_take (i := 2) (oi := ⟨some 85, _, _, _, _, _⟩) (v := ?v3) rfl (by kernel_rfl) (by kernel_rfl) (by kernel_rfl) (fun _ _ _ h => h) (Or.inl ⟨by rfl, ?y3⟩) (by assumption) ?r3
              case y3 => (intro wx hSx; (try dsimp only at hSx); go_simp; (try with_reducible rfl))
              try simp only [Act.put, List.setIfInBounds_toArray, List.set_cons_zero, List.set_cons_succ]
              refine wpAnyH_take (i := 3) (oi := ⟨some 86, _, _, _, _, _⟩) (v := ?v4) rfl (by kernel_rfl) (by kernel_rfl) (by kernel_rfl) (fun _ _ _ h => h) (Or.inl ⟨by rfl, ?y4⟩) (by assumption) ?r4
              case y4 => (intro wx hSx; (try dsimp only at hSx); go_simp; (try with_reducible rfl))
              try simp only [Act.put, List.setIfInBounds_toArray, List.set_cons_zero, List.set_cons_succ]
              refine wpAnyH_take (i := 4) (oi := ⟨some 87, _, _, _, _, _⟩) (v := ?v5) rfl (by kernel_rfl) (by kernel_rfl) (by kernel_rfl) (fun _ _ _ h => h) (Or.inl ⟨by rfl, ?y5⟩) (by assumption) ?r5
              case y5 => (intro wx hSx; (try dsimp only at hSx); go_simp; (try with_reducible rfl))
              try simp only [Act.put, List.setIfInBounds_toArray, List.set_cons_zero, List.set_cons_succ]
              refine wpAnyH_take (i := 5) (oi := ⟨some 88, _, _, _, _, _⟩) (v := ?v6) rfl (by kernel_rfl) (by kernel_rfl) (by kernel_rfl) (fun _ _ _ h => h) (Or.inl ⟨by rfl, ?y6⟩) (by assumption) ?r6
              case y6 => (intro wx hSx; (try dsimp only at hSx); go_simp; (try with_reducible rfl))
              try simp only [Act.put, List.setIfInBounds_toArray, List.set_cons_zero, List.set_cons_succ]
              refine wpAnyH_take (i := 6) (oi := ⟨some 89, _, _, _, _, _⟩) (v := ?v7) rfl (by kernel_rfl) (by kernel_rfl) (by kernel_rfl) (fun _ _ _ h => h) (Or.inl ⟨by rfl, ?y7⟩) (by assumption) ?r7
              case y7 => (intro wx hSx; (try dsimp only at hSx); go_simp; (try with_reducible rfl))
              try simp only [Act.put, List.setIfInBounds_toArray, List.set_cons_zero, List.set_cons_succ]
              refine wpAnyH_take (i := 7) (oi := ⟨some 90, _, _, _, _, _⟩) (v := ?v8) rfl (by kernel_rfl) (by kernel_rfl) (by kernel_rfl) (fun _ _ _ h => h) (Or.inl ⟨by rfl, ?y8⟩) (by assumption) ?r8
              case y8 => (intro wx hSx; (try dsimp only at hSx); go_simp; (try with_reducible rfl))
              try simp only [Act.put, List.setIfInBounds_toArray, List.set_cons_zero, List.set_cons_succ]
              refine wpAnyH_take (i := 8) (oi := ⟨some 91, _, _, _, _, _⟩) (v := ?v9) rfl (by kernel_rfl) (by kernel_rfl) (by kernel_rfl) (fun _ _ _ h => h) (Or.inl ⟨by rfl, ?y9⟩) (by assumption) ?r9
              case y9 => (intro wx hSx; (try dsimp only at hSx); go_simp; (try with_reducible rfl))
              try simp only [Act.put, List.setIfInBounds_toArray, List.set_cons_zero, List.set_cons_succ]
              refine wpAnyH_take (i := 9) (oi := ⟨some 92, _, _, _, _, _⟩) (v := ?v10) rfl (by kernel_rfl) (by kernel_rfl) (by kernel_rfl) (fun _ _ _ h => h) (Or.inl ⟨by rfl, ?y10⟩) (by assumption) ?r10
              case y10 => (intro wx hSx; (try dsimp only at hSx); go_simp; (try with_reducible rfl))
              try simp only [Act.put, List.setIfInBounds_toArray, List.set_cons_zero, List.set_cons_succ]
              refine wpAnyH_take (i := 10) (oi := ⟨some 93, _, _, _, _, _⟩) (v := ?v11) rfl (by kernel_rfl) (by kernel_rfl) (by kernel_rfl) (fun _ _ _ h => h) (Or.inl ⟨by rfl, ?y11⟩) (by assumption) ?r11
              case y11 => (intro wx hSx; (try dsimp only at hSx); go_simp; (try with_reducible rfl))
              try simp only [Act.put, List.setIfInBounds_toArray, List.set_cons_zero, List.set_cons_succ]
              refine wpAnyH_take (i := 12) (oi := ⟨some 95, _, _, _, _, _⟩) (v := ?v12) rfl (by kernel_rfl) (by kernel_rfl) (by kernel_rfl) (fun _ _ _ h => h) (Or.inl ⟨by rfl, ?y12⟩) (by assumption) ?r12
              case y12 => (intro wx hSx; (try dsimp only at hSx); go_simp; (try with_reducible rfl))
              try simp only [Act.put, List.setIfInBounds_toArray, List.set_cons_zero, List.set_cons_succ]
              refine wpAnyH_take (i := 13) (oi := ⟨some 96, _, _, _, _, _⟩) (v := ?v13) rfl (by kernel_rfl) (by kernel_rfl) (by kernel_rfl) (fun _ _ _ h => h) (Or.inl ⟨by rfl, ?y13⟩) (by assumption) ?r13
              case y13 => (intro wx hSx; (try dsimp only at hSx); go_simp; (try with_reducible rfl))
              try simp only [Act.put, List.setIfInBounds_toArray, List.set_cons_zero, List.set_cons_succ]
              refine wpAnyH_take (i := 14) (oi := ⟨some 97, _, _, _, _, _⟩) (v := ?v14) rfl (by kernel_rfl) (by kernel_rfl) (by kernel_rfl) (fun _ _ _ h => h) (Or.inl ⟨by rfl, ?y14⟩) (by assumption) ?r14
              case y14 => (intro wx hSx; (try dsimp only at hSx); go_simp; (try with_reducible rfl))
              try simp only [Act.put, List.setIfInBounds_toArray, List.set_cons_zero, List.set_cons_succ]
              refine wpAnyH_take (i := 15) (oi := ⟨some 98, _, _, _, _, _⟩) (v := ?v15) rfl (by kernel_rfl) (by kernel_rfl) (by kernel_rfl) (fun _ _ _ h => h) (Or.inl ⟨by rfl, ?y15⟩) (by assumption) ?r15
              case y15 => (intro wx hSx; (try dsimp only at hSx); go_simp; (try with_reducible rfl))
              try simp only [Act.put, List.setIfInBounds_toArray, List.set_cons_zero, List.set_cons_succ]
              refine wpAnyH_take (i := 16) (oi := ⟨some 99, _, _, _, _, _⟩) (v := ?v16) rfl (by kernel_rfl) (by kernel_rfl) (by kernel_rfl) (fun _ _ _ h => h) (Or.inl ⟨by rfl, ?y16⟩) (by assumption) ?r16
              case y16 => (intro wx hSx; (try dsimp only at hSx); go_simp; (try with_reducible rfl))
              try simp only [Act.put, List.setIfInBounds_toArray, List.set_cons_zero, List.set_cons_succ]
              refine wpAnyH_take (i := 17) (oi := ⟨some 100, _, _, _, _, _⟩) (v := ?v17) rfl (by kernel_rfl) (by kernel_rfl) (by kernel_rfl) (fun _ _ _ h => h) (Or.inl ⟨by rfl, ?y17⟩) (by assumption) ?r17
              case y17 => (intro wx hSx; (try dsimp only at hSx); go_simp; (try with_reducible rfl))
              try simp only [Act.put, List.setIfInBounds_toArray, List.set_cons_zero, List.set_cons_succ]
              refine wpAnyH_take (i := 18) (oi := ⟨some 101, _, _, _, _, _⟩) (v := ?v18) rfl (by kernel_rfl) (by kernel_rfl) (by kernel_rfl) (fun _ _ _ h => h) (Or.inl ⟨by rfl, ?y18⟩) (by assumption) ?r18
              case y18 => (intro wx hSx; (try dsimp only at hSx); go_simp; (try with_reducible rfl))
              try simp only [Act.put, List.setIfInBounds_toArray, List.set_cons_zero, List.set_cons_succ]
              refine wpAnyH_ready (rs := [11]) (by kernel_rfl) (by simp) ?_
              refine AllReadyH.cons (o := ⟨some 94, _, _, _, _, _⟩) rfl (fun K hK => ?_) AllReadyH.nil
              go_simp
              go_wp2_with ((go_at_call 19; (with_reducible refine (Leaf_calls (p : Int) z2.length ((hx_at H2.out HF.out).frm HD.out (fun _ _ h => h)) rfl HZ2.out Lf HLF.out).mono ?_); rintro e w' ⟨rfl, f'⟩; have HD2 := hid (HD.out.trans f'); clear HD f'; have HD := HD2; clear HD2; have s0 := (HD.out.cell (p := ⟨ub, uo + k, none⟩) HUB.out (fun h => h)).trans HR0.out; have s1 := (HD.out.cell (p := ⟨gs2, p, none⟩) HGL.out (fun h => h)).trans HR1.out))
              refine hK.out _ _ ?_ (fun hHeld2 => ?_)
              · ((try dsimp only); exact ⟨s0, s1⟩)
              clear hK K hHeld; have hHeld := hHeld2; clear hHeld2
              try simp only [Act.put, List.setIfInBounds_toArray, List.set_cons_zero, List.set_cons_succ]
              refine wpAnyH_take (i := 19) (oi := ⟨some 102, _, _, _, _, _⟩) (v := ?v19) rfl (by kernel_rfl) (by kernel_rfl) (by kernel_rfl) (fun _ _ _ h => h) (Or.inl ⟨by rfl, ?y19⟩) (by assumption) ?r19
              case y19 => (intro wx hSx; (try dsimp only at hSx); go_simp; (try with_reducible rfl))
              try simp only [Act.put, List.setIfInBounds_toArray, List.set_cons_zero, List.set_cons_succ]
              refine wpAnyH_take (i := 20) (oi := ⟨some 103, _, _, _, _, _⟩) (v := ?v20) rfl (by kernel_rfl) (by kernel_rfl) (by kernel_rfl) (fun _ _ _ h => h) (Or.inl ⟨by rfl, ?y20⟩) (by assumption) ?r20
              case y20 => (intro wx hSx; (try dsimp only at hSx); go_simp; (try with_reducible rfl))
              try simp only [Act.put, List.setIfInBounds_toArray, List.set_cons_zero, List.set_cons_succ]
              refine wpAnyH_take (i := 21) (oi := ⟨some 104, _, _, _, _, _⟩) (v := ?v21) rfl (by kernel_rfl) (by kernel_rfl) (by kernel_rfl) (fun _ _ _ h => h) (Or.inl ⟨by rfl, ?y21⟩) (by assumption) ?r21
              case y21 => (intro wx hSx; (try dsimp only at hSx); go_simp; (try with_reducible rfl))
              try simp only [Act.put, List.setIfInBounds_toArray, List.set_cons_zero, List.set_cons_succ]
              refine wpAnyH_take (i := 22) (oi := ⟨some 105, _, _, _, _, _⟩) (v := undef) rfl (by kernel_rfl) (by kernel_rfl) (by kernel_rfl) (fun _ _ _ h => h) (Or.inr ⟨by rfl, rfl⟩) (by assumption) ?_
              try simp only [Act.put, List.setIfInBounds_toArray, List.set_cons_zero, List.set_cons_succ]
              refine wpAnyH_take (i := 23) (oi := ⟨some 106, _, _, _, _, _⟩) (v := undef) rfl (by kernel_rfl) (by kernel_rfl) (by kernel_rfl) (fun _ _ _ h => h) (Or.inr ⟨by rfl, rfl⟩) (by assumption) ?_
              try simp only [Act.put, List.setIfInBounds_toArray, List.set_cons_zero, List.set_cons_succ]
              refine wpAnyH_take (i := 24) (oi := ⟨some 107, _, _, _, _, _⟩) (v := undef) rfl (by kernel_rfl) (by kernel_rfl) (by kernel_rfl) (fun _ _ _ h => h) (Or.inr ⟨by rfl, rfl⟩) (by assumption) ?_
              try simp only [Act.put, List.setIfInBounds_toArray, List.set_cons_zero, List.set_cons_succ]
              refine wpAnyH_take (i := 25) (oi := ⟨some 108, _, _, _, _, _⟩) (v := undef) rfl (by kernel_rfl) (by kernel_rfl) (by kernel_rfl) (fun _ _ _ h => h) (Or.inr ⟨by rfl, rfl⟩) (by assumption) ?_
              try simp only [Act.put, List.setIfInBounds_toArray, List.set_cons_zero, List.set_cons_succ]
              refine wpAnyH_take (i := 26) (oi := ⟨some 109, _, _, _, _, _⟩) (v := undef) rfl (by kernel_rfl) (by kernel_rfl) (by kernel_rfl) (fun _ _ _ h => h) (Or.inr ⟨by rfl, rfl⟩) (by assumption) ?_
              try simp only [Act.put, List.setIfInBounds_toArray, List.set_cons_zero, List.set_cons_succ]
              refine wpAnyH_take (i := 27) (oi := ⟨some 110, _, _, _, _, _⟩) (v := undef) rfl (by kernel_rfl) (by kernel_rfl) (by kernel_rfl) (fun _ _ _ h => h) (Or.inr ⟨by rfl, rfl⟩) (by assumption) ?_
              try simp only [Act.put, List.setIfInBounds_toArray, List.set_cons_zero, List.set_cons_succ]
              refine wpAnyH_take (i := 28) (oi := ⟨some 111, _, _, _, _, _⟩) (v := undef) rfl (by kernel_rfl) (by kernel_rfl) (by kernel_rfl) (fun _ _ _ h => h) (Or.inr ⟨by rfl, rfl⟩) (by assumption) ?_
              try simp only [Act.put, List.setIfInBounds_toArray, List.set_cons_zero, List.set_cons_succ]
              refine wpAnyH_take (i := 29) (oi := ⟨some 112, _, _, _, _, _⟩) (v := undef) rfl (by kernel_rfl) (by kernel_rfl) (by kernel_rfl) (fun _ _ _ h => h) (Or.inr ⟨by rfl, rfl⟩) (by assumption) ?_
              try simp only [Act.put, List.setIfInBounds_toArray, List.set_cons_zero, List.set_cons_succ]
              refine wpAnyH_take (i := 30) (oi := ⟨some 113, _, _, _, _, _⟩) (v := undef) rfl (by kernel_rfl) (by kernel_rfl) (by kernel_rfl) (fun _ _ _ h => h) (Or.inr ⟨by rfl, rfl⟩) (by assumption) ?_
              try simp only [Act.put, List.setIfInBounds_toArray, List.set_cons_zero, List.set_cons_succ]
              refine wpAnyH_take (i := 31) (oi := ⟨some 114, _, _, _, _, _⟩) (v := ?v22) rfl (by kernel_rfl) (by kernel_rfl) (by kernel_rfl) (fun _ _ _ h => h) (Or.inl ⟨by rfl, ?y22⟩) (by assumption) ?r22
              case y22 => (intro wx hSx; (try dsimp only at hSx); go_simp; (try with_reducible rfl))
              try simp only [Act.put, List.setIfInBounds_toArray, List.set_cons_zero, List.set_cons_succ]
              refine wpAnyH_done (by kernel_rfl) ?_ _
              go_wp2_with (fail)
              go_roundw
              case rel => exact ⟨k + 1, by have := HLT.out; omega, by go_num, HE1.out.quiet HD.out, HLI.out.frm HD.out (fun _ _ h => h), HSI.out.frm HD.out (fun _ _ h => h), below_frm0 HF.out HD.out⟩
              case measure => simp [intOf]; omega
            · have y0 : (Lf == Sp) = false := beq_eq_false_iff_ne.2 hLS
              have y1 : (Lf != Sp) = true := by rw [bne, y0]; rfl
              have HLS := hid (show Lf ≠ S.getD p 0 by rw [HSP.out]; exact hLS)
              clear hLS
              go_wp2_with (fail)
              go_region_held3 (fun wx => wx.cell? ⟨ub, uo + k, none⟩ = some (.int .i64 (p : Int)) ∧ wx.cell? ⟨gs2, p, none⟩ = some (.int .u64 Sp)) (first | go_keep | exact ⟨s0, s1⟩) (first
                | (go_at_call 19; (with_reducible refine (Leaf_calls (p : Int) z2.length ((hx_at H2.out HF.out).frm HD.out (fun _ _ h => h)) rfl HZ2.out Lf HLF.out).mono ?_); rintro e w' ⟨rfl, f'⟩; have HD2 := hid (HD.out.trans f'); clear HD f'; have HD := HD2; clear HD2; have s0 := (HD.out.cell (p := ⟨ub, uo + k, none⟩) HUB.out (fun h => h)).trans HR0.out; have s1 := (HD.out.cell (p := ⟨gs2, p, none⟩) HGL.out (fun h => h)).trans HR1.out)
                | (go_at_call 11; (with_reducible refine (FPage_bad (HE1.out.quiet HD.out) p HP8.out HWP.out ((hx_at H2.out HF.out).frm HD.out (fun _ _ h => h)) rfl HZ2.out Lf HLF.out HLS.out).mono ?_); rintro e w' ⟨rfl, f'⟩; clear s0 s1; have HD2 := hid (HD.out.trans f'); clear HD f'; have HD := HD2; clear HD2; have s0 := (HD.out.cell (p := ⟨ub, uo + k, none⟩) HUB.out (fun h => h)).trans HR0.out; have s1 := (HD.out.cell (p := ⟨gs2, p, none⟩) HGL.out (fun h => h)).trans HR1.out))
              go_wp2_with (fail)
              go_roundw
              case rel => exact ⟨k + 1, by have := HLT.out; omega, by go_num, HE1.out.quiet HD.out, HLI.out.frm HD.out (fun _ _ h => h), HSI.out.frm HD.out (fun _ _ h => h), below_frm0 HF.out HD.out⟩
              case measure => simp [intOf]; omega
          · have hkl : ((wants wl).length : Int) ≤ (k : Int) := by omega
            obtain ⟨NU, hNU⟩ : ∃ n, (wants wl).length = n := ⟨_, rfl⟩
            have HNU := hid hNU
            rw [hNU] at hkl ⊢
            clear hlt hk hNU
            go_wp2_with (first
              | (go_at_call 16; (with_reducible refine (Wants1_calls HE1.out).mono ?_); rintro e w' ⟨a9, c9, rfl, hi, f'⟩; (rw [HNU.out]); have n0_ := hid (below_frm0 HF.out f'); clear HF; have HF := n0_; clear n0_; clear f' hi)
              | (go_at_call 11; (with_reducible refine (FPage_no 8 (by decide) _ _ _).mono ?_); rintro e w' ⟨rfl, rfl⟩; skip))
            go_ret
            exact ⟨rfl, HF.out⟩
      · have z0 : (T == R) = false := beq_eq_false_iff_ne.2 hTR
        have z4 : (T != R) = true := by rw [bne, z0]; rfl
        have HBAD := hid (show z1.length ≠ 8 ∨ T ≠ R from .inr hTR); clear hTR
        go_wp2_with (first
          | (go_at_call 10; (with_reducible refine (Of_calls HM.out R HRR.out).mono ?_); rintro e w' ⟨rfl, f'⟩; have n0_ := hid (HA.out.frm f' (fun h => h)); have n1_ := hid (HM.out.frm f' (fun h => h)); have n2_ := hid (HE.out.quiet f'); have n3_ := hid (below_frm0 HF.out f'); clear HA HM HE HF; have HA := n0_; clear n0_; have HM := n1_; clear n1_; have HE := n2_; clear n2_; have HF := n3_; clear n3_; clear f')
          | (go_at_call 10; (with_reducible refine (Of_calls HM.out R HRR.out).mono ?_); rintro e w' ⟨rfl, f'⟩; have n0_ := hid (HA.out.frm f' (fun h => h)); have n1_ := hid (HM.out.frm f' (fun h => h)); have n2_ := hid (below_frm0 HF.out f'); clear HA HM HF; have HA := n0_; clear n0_; have HM := n1_; clear n1_; have HF := n2_; clear n2_; clear f')
          | (go_at_call 9; (with_reducible refine (FNew_calls HA.out 0 R).mono ?_); rintro e w' ⟨fb, mb, rfl, hfb, hmb, he, f'⟩; have HFB := hid (Nat.le_trans HF.out.size hfb); have HMB := hid (Nat.le_trans HF.out.size hmb); have HE := hid he; have HFM := hid (show fb ≠ bb from fun e => by have := HM.out.blk.lt; omega); have n0_ := hid (HA.out.frm (frm0_of f') (fun h => h)); have n1_ := hid (HM.out.frm (frm0_of f') (fun h => h)); have n2_ := hid (below_next HF.out f'); clear HA HM HF; have HA := n0_; clear n0_; have HM := n1_; clear n1_; have HF := n2_; clear n2_; clear f' he hfb hmb)
          | (go_at_call 18; (with_reducible refine (Root_calls _ (H1.out.frm (frm0_of HF.out) (fun _ _ h => h)) rfl T HT.out).mono ?_); rintro e w' ⟨rfl, f'⟩; have n0_ := hid (HA.out.frm f' (fun h => h)); have n1_ := hid (HM.out.frm f' (fun h => h)); have n2_ := hid (HE.out.quiet f'); have n3_ := hid (below_frm0 HF.out f'); clear HA HM HE HF; have HA := n0_; clear n0_; have HM := n1_; clear n1_; have HE := n2_; clear n2_; have HF := n3_; clear n3_; clear f')
          | (go_at_call 13; (with_reducible refine (FSums_bad HE.out (H1.out.frm (frm0_of HF.out) (fun _ _ h => h)) rfl T HT.out HBAD.out).mono ?_); rintro e w' ⟨rfl, f'⟩; have n0_ := hid (HA.out.frm f' (fun h => h)); have n1_ := hid (HM.out.frm f' (fun h => h)); have n2_ := hid (HE.out.quiet f'); have n3_ := hid (below_frm0 HF.out f'); clear HA HM HE HF; have HA := n0_; clear n0_; have HM := n1_; clear n1_; have HE := n2_; clear n2_; have HF := n3_; clear n3_; clear f')
          | (go_at_call 16; (with_reducible refine (Wants0_calls HE.out).mono ?_); rintro e w' ⟨rfl, _, f'⟩; have n0_ := hid (HA.out.frm f' (fun h => h)); have n1_ := hid (HM.out.frm f' (fun h => h)); have n2_ := hid (HE.out.quiet f'); have n3_ := hid (below_frm0 HF.out f'); clear HA HM HE HF; have HA := n0_; clear n0_; have HM := n1_; clear n1_; have HE := n2_; clear n2_; have HF := n3_; clear n3_; clear f')
          | (go_at_call 14; (with_reducible refine (Sums_calls HM.out S HS.out).mono ?_); rintro e w' ⟨gs, rfl, hg, hI, f'⟩; have HIB := hid hI; have n0_ := hid (HA.out.frm f' (fun h => h)); have n1_ := hid (HM.out.frm f' (fun h => h)); have n2_ := hid (HE.out.quiet f'); have n3_ := hid (below_frm0 HF.out f'); clear HA HM HE HF; have HA := n0_; clear n0_; have HM := n1_; clear n1_; have HE := n2_; clear n2_; have HF := n3_; clear n3_; clear f'; clear hg hI)
          | (go_at_call 13; (with_reducible refine (FSums_ok HE.out HIB.out HS8.out rfl HR.out X HX.out).mono ?_); rintro e w' ⟨g, c, rfl, he, f', hg⟩; (rw [HWL.out] at he); have HE1 := hid he; have n0_ := hid (HM.out.frm f' (fun e => HFM.out e.symm)); have n1_ := hid (below_frm1 HF.out f' HFB.out); clear HM HF; have HM := n0_; clear n0_; have HF := n1_; clear n1_; clear f' he hg HE HA)
          | (go_at_call 16; (with_reducible refine (Wants1_calls HE1.out).mono ?_); rintro e w' ⟨la, lc, rfl, hi, f'⟩; have HLI := hid hi; have n0_ := hid (HM.out.frm f' (fun h => h)); have n1_ := hid (HE1.out.quiet f'); have n2_ := hid (below_frm0 HF.out f'); clear HM HE1 HF; have HM := n0_; clear n0_; have HE1 := n1_; clear n1_; have HF := n2_; clear n2_; clear f'; clear hi)
          | (go_at_call 14; (with_reducible refine (Sums_calls HM.out S HS.out).mono ?_); rintro e w' ⟨gs2, rfl, hg, hI, f'⟩; have HSI := hid hI; have n0_ := hid (HLI.out.frm f' (fun _ _ h => h)); clear HLI; have HLI := n0_; clear n0_; have n0_ := hid (HM.out.frm f' (fun h => h)); have n1_ := hid (HE1.out.quiet f'); have n2_ := hid (below_frm0 HF.out f'); clear HM HE1 HF; have HM := n0_; clear n0_; have HE1 := n1_; clear n1_; have HF := n2_; clear n2_; clear f'; clear hg hI))
        have HW8 := hid (wants_len wl)
        go_loopw [13] (fun i wr => ∃ (k : Nat), k ≤ (wants wl).length ∧ i = .int .i64 k ∧ IsFe1 wr fb mb g c 0 R (List.replicate 64 0) cs S wl ∧ IsInts .i64 wr la lc (wants wl) ∧ IsInts .u64 wr (some ⟨gs2, 0, none⟩) 8 S ∧ Below w.heap.size w wr) (fun i _ => (wants wl).length - (intOf i).toNat)
        case atStart => exact ⟨0, by omega, rfl, HE1.out, HLI.out, HSI.out, HF.out⟩
        case round =>
          clear HE1 HLI HSI HF HM
          obtain ⟨k, hk, rfl, he, hl, hs, hf⟩ := hrel
          have HE1 := hid he; have HLI := hid hl; have HSI := hid hs; have HF := hid hf; clear he hl hs hf
          by_cases hlt : k < (wants wl).length
          · obtain ⟨ub, uo, rfl, hub, hcell⟩ := HLI.out.at_ (by omega)
            have r0 := hcell k hlt
            obtain ⟨p, hpe, hp8, hwp⟩ := wants_mem (list_getD_mem hlt)
            rw [hpe] at r0
            have HWP := hid hwp; have HP8 := hid hp8
            obtain ⟨Sp, hSp⟩ : ∃ s, S.getD p 0 = s := ⟨_, rfl⟩
            have r1 := ints_cell HSI.out (p := p) (by rw [HS8.out]; exact hp8)
            rw [hSp] at r1
            have HSP := hid hSp
            obtain ⟨Lf, hLf⟩ : ∃ s, leafS (p : Int) z2 = s := ⟨_, rfl⟩
            have HLF := hid hLf
            have hkl : (k : Int) < ((wants wl).length : Int) := by omega
            have hk8 : (k : Int) ≤ 8 := by have := HW8.out; omega
            have hpi : (p : Int) < 8 := by omega
            have hp0 : 0 ≤ (p : Int) := by omega
            have e1 : IntKind.u8.wrap (p : Int) = (p : Int) := by simp only [IntKind.wrap, IntKind.bits, IntKind.signed]; simp; omega
            have HUB := hid hub; have HGL := hid (World.block_lt_of_cell? _ _ r1)
            have HR0 := hid r0; have HR1 := hid r1
            have HLT := hid hlt
            have HD := hid (frm_drew wr)
            clear hcell hpe hwp hSp hLf hub hk hlt
            by_cases hLS : Lf = Sp
            · have y0 : (Lf == Sp) = true := by rw [hLS]; exact beq_self_eq_true _
              have y1 : (Lf != Sp) = false := by rw [hLS]; simp
              clear hLS
              go_wp2_with (fail)
              refine wp_region_held_drew (S := fun wx => wx.cell? ⟨ub, uo + k, none⟩ = some (.int .i64 (p : Int)) ∧ wx.cell? ⟨gs2, p, none⟩ = some (.int .u64 Sp)) (by kernel_rfl) (by exact ⟨r0, r1⟩) (fun hHeld => ?_)
              refine wpAnyH_take (i := 0) (oi := ⟨some 83, _, _, _, _, _⟩) (v := ?v23) rfl (by kernel_rfl) (by kernel_rfl) (by kernel_rfl) (fun _ _ _ h => h) (Or.inl ⟨by rfl, ?y23⟩) (by assumption) ?r23
              case y23 => (intro wx hSx; (try dsimp only at hSx); go_simp; (try with_reducible rfl))
              try simp only [Act.put, List.setIfInBounds_toArray, List.set_cons_zero, List.set_cons_succ]
              refine wpAnyH_take (i := 1) (oi := ⟨some 84, _, _, _, _, _⟩) (v := ?v24) rfl (by kernel_rfl) (by kernel_rfl) (by kernel_rfl) (fun _ _ _ h => h) (Or.inl ⟨by rfl, ?y24⟩) (by assumption) ?r24
              case y24 => (intro wx hSx; (try dsimp only at hSx); go_simp; (try with_reducible rfl))
              try simp only [Act.put, List.setIfInBounds_toArray, List.set_cons_zero, List.set_cons_succ]
              refine wpAnyH_take (i := 2) (oi := ⟨some 85, _, _, _, _, _⟩) (v := ?v25) rfl (by kernel_rfl) (by kernel_rfl) (by kernel_rfl) (fun _ _ _ h => h) (Or.inl ⟨by rfl, ?y25⟩) (by assumption) ?r25
              case y25 => (intro wx hSx; (try dsimp only at hSx); go_simp; (try with_reducible rfl))
              try simp only [Act.put, List.setIfInBounds_toArray, List.set_cons_zero, List.set_cons_succ]
              refine wpAnyH_take (i := 3) (oi := ⟨some 86, _, _, _, _, _⟩) (v := ?v26) rfl (by kernel_rfl) (by kernel_rfl) (by kernel_rfl) (fun _ _ _ h => h) (Or.inl ⟨by rfl, ?y26⟩) (by assumption) ?r26
              case y26 => (intro wx hSx; (try dsimp only at hSx); go_simp; (try with_reducible rfl))
              try simp only [Act.put, List.setIfInBounds_toArray, List.set_cons_zero, List.set_cons_succ]
              refine wpAnyH_take (i := 4) (oi := ⟨some 87, _, _, _, _, _⟩) (v := ?v27) rfl (by kernel_rfl) (by kernel_rfl) (by kernel_rfl) (fun _ _ _ h => h) (Or.inl ⟨by rfl, ?y27⟩) (by assumption) ?r27
              case y27 => (intro wx hSx; (try dsimp only at hSx); go_simp; (try with_reducible rfl))
              try simp only [Act.put, List.setIfInBounds_toArray, List.set_cons_zero, List.set_cons_succ]
              refine wpAnyH_take (i := 5) (oi := ⟨some 88, _, _, _, _, _⟩) (v := ?v28) rfl (by kernel_rfl) (by kernel_rfl) (by kernel_rfl) (fun _ _ _ h => h) (Or.inl ⟨by rfl, ?y28⟩) (by assumption) ?r28
              case y28 => (intro wx hSx; (try dsimp only at hSx); go_simp; (try with_reducible rfl))
              try simp only [Act.put, List.setIfInBounds_toArray, List.set_cons_zero, List.set_cons_succ]
              refine wpAnyH_take (i := 6) (oi := ⟨some 89, _, _, _, _, _⟩) (v := ?v29) rfl (by kernel_rfl) (by kernel_rfl) (by kernel_rfl) (fun _ _ _ h => h) (Or.inl ⟨by rfl, ?y29⟩) (by assumption) ?r29
              case y29 => (intro wx hSx; (try dsimp only at hSx); go_simp; (try with_reducible rfl))
              try simp only [Act.put, List.setIfInBounds_toArray, List.set_cons_zero, List.set_cons_succ]
              refine wpAnyH_take (i := 7) (oi := ⟨some 90, _, _, _, _, _⟩) (v := ?v30) rfl (by kernel_rfl) (by kernel_rfl) (by kernel_rfl) (fun _ _ _ h => h) (Or.inl ⟨by rfl, ?y30⟩) (by assumption) ?r30
              case y30 => (intro wx hSx; (try dsimp only at hSx); go_simp; (try with_reducible rfl))
              try simp only [Act.put, List.setIfInBounds_toArray, List.set_cons_zero, List.set_cons_succ]
              refine wpAnyH_take (i := 8) (oi := ⟨some 91, _, _, _, _, _⟩) (v := ?v31) rfl (by kernel_rfl) (by kernel_rfl) (by kernel_rfl) (fun _ _ _ h => h) (Or.inl ⟨by rfl, ?y31⟩) (by assumption) ?r31
              case y31 => (intro wx hSx; (try dsimp only at hSx); go_simp; (try with_reducible rfl))
              try simp only [Act.put, List.setIfInBounds_toArray, List.set_cons_zero, List.set_cons_succ]
              refine wpAnyH_take (i := 9) (oi := ⟨some 92, _, _, _, _, _⟩) (v := ?v32) rfl (by kernel_rfl) (by kernel_rfl) (by kernel_rfl) (fun _ _ _ h => h) (Or.inl ⟨by rfl, ?y32⟩) (by assumption) ?r32
              case y32 => (intro wx hSx; (try dsimp only at hSx); go_simp; (try with_reducible rfl))
              try simp only [Act.put, List.setIfInBounds_toArray, List.set_cons_zero, List.set_cons_succ]
              refine wpAnyH_take (i := 10) (oi := ⟨some 93, _, _, _, _, _⟩) (v := ?v33) rfl (by kernel_rfl) (by kernel_rfl) (by kernel_rfl) (fun _ _ _ h => h) (Or.inl ⟨by rfl, ?y33⟩) (by assumption) ?r33
              case y33 => (intro wx hSx; (try dsimp only at hSx); go_simp; (try with_reducible rfl))
              try simp only [Act.put, List.setIfInBounds_toArray, List.set_cons_zero, List.set_cons_succ]
              refine wpAnyH_take (i := 12) (oi := ⟨some 95, _, _, _, _, _⟩) (v := ?v34) rfl (by kernel_rfl) (by kernel_rfl) (by kernel_rfl) (fun _ _ _ h => h) (Or.inl ⟨by rfl, ?y34⟩) (by assumption) ?r34
              case y34 => (intro wx hSx; (try dsimp only at hSx); go_simp; (try with_reducible rfl))
              try simp only [Act.put, List.setIfInBounds_toArray, List.set_cons_zero, List.set_cons_succ]
              refine wpAnyH_take (i := 13) (oi := ⟨some 96, _, _, _, _, _⟩) (v := ?v35) rfl (by kernel_rfl) (by kernel_rfl) (by kernel_rfl) (fun _ _ _ h => h) (Or.inl ⟨by rfl, ?y35⟩) (by assumption) ?r35
              case y35 => (intro wx hSx; (try dsimp only at hSx); go_simp; (try with_reducible rfl))
              try simp only [Act.put, List.setIfInBounds_toArray, List.set_cons_zero, List.set_cons_succ]
              refine wpAnyH_take (i := 14) (oi := ⟨some 97, _, _, _, _, _⟩) (v := ?v36) rfl (by kernel_rfl) (by kernel_rfl) (by kernel_rfl) (fun _ _ _ h => h) (Or.inl ⟨by rfl, ?y36⟩) (by assumption) ?r36
              case y36 => (intro wx hSx; (try dsimp only at hSx); go_simp; (try with_reducible rfl))
              try simp only [Act.put, List.setIfInBounds_toArray, List.set_cons_zero, List.set_cons_succ]
              refine wpAnyH_take (i := 15) (oi := ⟨some 98, _, _, _, _, _⟩) (v := ?v37) rfl (by kernel_rfl) (by kernel_rfl) (by kernel_rfl) (fun _ _ _ h => h) (Or.inl ⟨by rfl, ?y37⟩) (by assumption) ?r37
              case y37 => (intro wx hSx; (try dsimp only at hSx); go_simp; (try with_reducible rfl))
              try simp only [Act.put, List.setIfInBounds_toArray, List.set_cons_zero, List.set_cons_succ]
              refine wpAnyH_take (i := 16) (oi := ⟨some 99, _, _, _, _, _⟩) (v := ?v38) rfl (by kernel_rfl) (by kernel_rfl) (by kernel_rfl) (fun _ _ _ h => h) (Or.inl ⟨by rfl, ?y38⟩) (by assumption) ?r38
              case y38 => (intro wx hSx; (try dsimp only at hSx); go_simp; (try with_reducible rfl))
              try simp only [Act.put, List.setIfInBounds_toArray, List.set_cons_zero, List.set_cons_succ]
              refine wpAnyH_take (i := 17) (oi := ⟨some 100, _, _, _, _, _⟩) (v := ?v39) rfl (by kernel_rfl) (by kernel_rfl) (by kernel_rfl) (fun _ _ _ h => h) (Or.inl ⟨by rfl, ?y39⟩) (by assumption) ?r39
              case y39 => (intro wx hSx; (try dsimp only at hSx); go_simp; (try with_reducible rfl))
              try simp only [Act.put, List.setIfInBounds_toArray, List.set_cons_zero, List.set_cons_succ]
              refine wpAnyH_take (i := 18) (oi := ⟨some 101, _, _, _, _, _⟩) (v := ?v40) rfl (by kernel_rfl) (by kernel_rfl) (by kernel_rfl) (fun _ _ _ h => h) (Or.inl ⟨by rfl, ?y40⟩) (by assumption) ?r40
              case y40 => (intro wx hSx; (try dsimp only at hSx); go_simp; (try with_reducible rfl))
              try simp only [Act.put, List.setIfInBounds_toArray, List.set_cons_zero, List.set_cons_succ]
              refine wpAnyH_ready (rs := [11]) (by kernel_rfl) (by simp) ?_
              refine AllReadyH.cons (o := ⟨some 94, _, _, _, _, _⟩) rfl (fun K hK => ?_) AllReadyH.nil
              go_simp
              go_wp2_with ((go_at_call 19; (with_reducible refine (Leaf_calls (p : Int) z2.length ((hx_at H2.out HF.out).frm HD.out (fun _ _ h => h)) rfl HZ2.out Lf HLF.out).mono ?_); rintro e w' ⟨rfl, f'⟩; have HD2 := hid (HD.out.trans f'); clear HD f'; have HD := HD2; clear HD2; have s0 := (HD.out.cell (p := ⟨ub, uo + k, none⟩) HUB.out (fun h => h)).trans HR0.out; have s1 := (HD.out.cell (p := ⟨gs2, p, none⟩) HGL.out (fun h => h)).trans HR1.out))
              refine hK.out _ _ ?_ (fun hHeld2 => ?_)
              · ((try dsimp only); exact ⟨s0, s1⟩)
              clear hK K hHeld; have hHeld := hHeld2; clear hHeld2
              try simp only [Act.put, List.setIfInBounds_toArray, List.set_cons_zero, List.set_cons_succ]
              refine wpAnyH_take (i := 19) (oi := ⟨some 102, _, _, _, _, _⟩) (v := ?v41) rfl (by kernel_rfl) (by kernel_rfl) (by kernel_rfl) (fun _ _ _ h => h) (Or.inl ⟨by rfl, ?y41⟩) (by assumption) ?r41
              case y41 => (intro wx hSx; (try dsimp only at hSx); go_simp; (try with_reducible rfl))
              try simp only [Act.put, List.setIfInBounds_toArray, List.set_cons_zero, List.set_cons_succ]
              refine wpAnyH_take (i := 20) (oi := ⟨some 103, _, _, _, _, _⟩) (v := ?v42) rfl (by kernel_rfl) (by kernel_rfl) (by kernel_rfl) (fun _ _ _ h => h) (Or.inl ⟨by rfl, ?y42⟩) (by assumption) ?r42
              case y42 => (intro wx hSx; (try dsimp only at hSx); go_simp; (try with_reducible rfl))
              try simp only [Act.put, List.setIfInBounds_toArray, List.set_cons_zero, List.set_cons_succ]
              refine wpAnyH_take (i := 21) (oi := ⟨some 104, _, _, _, _, _⟩) (v := ?v43) rfl (by kernel_rfl) (by kernel_rfl) (by kernel_rfl) (fun _ _ _ h => h) (Or.inl ⟨by rfl, ?y43⟩) (by assumption) ?r43
              case y43 => (intro wx hSx; (try dsimp only at hSx); go_simp; (try with_reducible rfl))
              try simp only [Act.put, List.setIfInBounds_toArray, List.set_cons_zero, List.set_cons_succ]
              refine wpAnyH_take (i := 22) (oi := ⟨some 105, _, _, _, _, _⟩) (v := undef) rfl (by kernel_rfl) (by kernel_rfl) (by kernel_rfl) (fun _ _ _ h => h) (Or.inr ⟨by rfl, rfl⟩) (by assumption) ?_
              try simp only [Act.put, List.setIfInBounds_toArray, List.set_cons_zero, List.set_cons_succ]
              refine wpAnyH_take (i := 23) (oi := ⟨some 106, _, _, _, _, _⟩) (v := undef) rfl (by kernel_rfl) (by kernel_rfl) (by kernel_rfl) (fun _ _ _ h => h) (Or.inr ⟨by rfl, rfl⟩) (by assumption) ?_
              try simp only [Act.put, List.setIfInBounds_toArray, List.set_cons_zero, List.set_cons_succ]
              refine wpAnyH_take (i := 24) (oi := ⟨some 107, _, _, _, _, _⟩) (v := undef) rfl (by kernel_rfl) (by kernel_rfl) (by kernel_rfl) (fun _ _ _ h => h) (Or.inr ⟨by rfl, rfl⟩) (by assumption) ?_
              try simp only [Act.put, List.setIfInBounds_toArray, List.set_cons_zero, List.set_cons_succ]
              refine wpAnyH_take (i := 25) (oi := ⟨some 108, _, _, _, _, _⟩) (v := undef) rfl (by kernel_rfl) (by kernel_rfl) (by kernel_rfl) (fun _ _ _ h => h) (Or.inr ⟨by rfl, rfl⟩) (by assumption) ?_
              try simp only [Act.put, List.setIfInBounds_toArray, List.set_cons_zero, List.set_cons_succ]
              refine wpAnyH_take (i := 26) (oi := ⟨some 109, _, _, _, _, _⟩) (v := undef) rfl (by kernel_rfl) (by kernel_rfl) (by kernel_rfl) (fun _ _ _ h => h) (Or.inr ⟨by rfl, rfl⟩) (by assumption) ?_
              try simp only [Act.put, List.setIfInBounds_toArray, List.set_cons_zero, List.set_cons_succ]
              refine wpAnyH_take (i := 27) (oi := ⟨some 110, _, _, _, _, _⟩) (v := undef) rfl (by kernel_rfl) (by kernel_rfl) (by kernel_rfl) (fun _ _ _ h => h) (Or.inr ⟨by rfl, rfl⟩) (by assumption) ?_
              try simp only [Act.put, List.setIfInBounds_toArray, List.set_cons_zero, List.set_cons_succ]
              refine wpAnyH_take (i := 28) (oi := ⟨some 111, _, _, _, _, _⟩) (v := undef) rfl (by kernel_rfl) (by kernel_rfl) (by kernel_rfl) (fun _ _ _ h => h) (Or.inr ⟨by rfl, rfl⟩) (by assumption) ?_
              try simp only [Act.put, List.setIfInBounds_toArray, List.set_cons_zero, List.set_cons_succ]
              refine wpAnyH_take (i := 29) (oi := ⟨some 112, _, _, _, _, _⟩) (v := undef) rfl (by kernel_rfl) (by kernel_rfl) (by kernel_rfl) (fun _ _ _ h => h) (Or.inr ⟨by rfl, rfl⟩) (by assumption) ?_
              try simp only [Act.put, List.setIfInBounds_toArray, List.set_cons_zero, List.set_cons_succ]
              refine wpAnyH_take (i := 30) (oi := ⟨some 113, _, _, _, _, _⟩) (v := undef) rfl (by kernel_rfl) (by kernel_rfl) (by kernel_rfl) (fun _ _ _ h => h) (Or.inr ⟨by rfl, rfl⟩) (by assumption) ?_
              try simp only [Act.put, List.setIfInBounds_toArray, List.set_cons_zero, List.set_cons_succ]
              refine wpAnyH_take (i := 31) (oi := ⟨some 114, _, _, _, _, _⟩) (v := ?v44) rfl (by kernel_rfl) (by kernel_rfl) (by kernel_rfl) (fun _ _ _ h => h) (Or.inl ⟨by rfl, ?y44⟩) (by assumption) ?r44
              case y44 => (intro wx hSx; (try dsimp only at hSx); go_simp; (try with_reducible rfl))
              try simp only [Act.put, List.setIfInBounds_toArray, List.set_cons_zero, List.set_cons_succ]
              refine wpAnyH_done (by kernel_rfl) ?_ _
              go_wp2_with (fail)
              go_roundw
              case rel => exact ⟨k + 1, by have := HLT.out; omega, by go_num, HE1.out.quiet HD.out, HLI.out.frm HD.out (fun _ _ h => h), HSI.out.frm HD.out (fun _ _ h => h), below_frm0 HF.out HD.out⟩
              case measure => simp [intOf]; omega
            · have y0 : (Lf == Sp) = false := beq_eq_false_iff_ne.2 hLS
              have y1 : (Lf != Sp) = true := by rw [bne, y0]; rfl
              have HLS := hid (show Lf ≠ S.getD p 0 by rw [HSP.out]; exact hLS)
              clear hLS
              go_wp2_with (fail)
              go_region_held3 (fun wx => wx.cell? ⟨ub, uo + k, none⟩ = some (.int .i64 (p : Int)) ∧ wx.cell? ⟨gs2, p, none⟩ = some (.int .u64 Sp)) (first | go_keep | exact ⟨s0, s1⟩) (first
                | (go_at_call 19; (with_reducible refine (Leaf_calls (p : Int) z2.length ((hx_at H2.out HF.out).frm HD.out (fun _ _ h => h)) rfl HZ2.out Lf HLF.out).mono ?_); rintro e w' ⟨rfl, f'⟩; have HD2 := hid (HD.out.trans f'); clear HD f'; have HD := HD2; clear HD2; have s0 := (HD.out.cell (p := ⟨ub, uo + k, none⟩) HUB.out (fun h => h)).trans HR0.out; have s1 := (HD.out.cell (p := ⟨gs2, p, none⟩) HGL.out (fun h => h)).trans HR1.out)
                | (go_at_call 11; (with_reducible refine (FPage_bad (HE1.out.quiet HD.out) p HP8.out HWP.out ((hx_at H2.out HF.out).frm HD.out (fun _ _ h => h)) rfl HZ2.out Lf HLF.out HLS.out).mono ?_); rintro e w' ⟨rfl, f'⟩; clear s0 s1; have HD2 := hid (HD.out.trans f'); clear HD f'; have HD := HD2; clear HD2; have s0 := (HD.out.cell (p := ⟨ub, uo + k, none⟩) HUB.out (fun h => h)).trans HR0.out; have s1 := (HD.out.cell (p := ⟨gs2, p, none⟩) HGL.out (fun h => h)).trans HR1.out))
              go_wp2_with (fail)
              go_roundw
              case rel => exact ⟨k + 1, by have := HLT.out; omega, by go_num, HE1.out.quiet HD.out, HLI.out.frm HD.out (fun _ _ h => h), HSI.out.frm HD.out (fun _ _ h => h), below_frm0 HF.out HD.out⟩
              case measure => simp [intOf]; omega
          · have hkl : ((wants wl).length : Int) ≤ (k : Int) := by omega
            obtain ⟨NU, hNU⟩ : ∃ n, (wants wl).length = n := ⟨_, rfl⟩
            have HNU := hid hNU
            rw [hNU] at hkl ⊢
            clear hlt hk hNU
            go_wp2_with (first
              | (go_at_call 16; (with_reducible refine (Wants1_calls HE1.out).mono ?_); rintro e w' ⟨a9, c9, rfl, hi, f'⟩; (rw [HNU.out]); have n0_ := hid (below_frm0 HF.out f'); clear HF; have HF := n0_; clear n0_; clear f' hi)
              | (go_at_call 11; (with_reducible refine (FPage_no 8 (by decide) _ _ _).mono ?_); rintro e w' ⟨rfl, rfl⟩; skip))
            go_ret
            exact ⟨rfl, HF.out⟩
end Go.Proofs.Ytfdmneefobfldaa
