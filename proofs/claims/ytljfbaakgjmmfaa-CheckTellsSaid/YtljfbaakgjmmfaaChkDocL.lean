/- The document's List, walked. -/
import Derived.Test.YtljfbaakgjmmfaaChkDocP
import Derived.Test.YtljfbaakgjmmfaaHeld
namespace Go.Proofs.Ytljfbaakgjmmfaa
open Go.RowKit Go.ChangeShapes
set_option linter.unusedVariables false
set_option linter.unusedSimpArgs false
set_option maxRecDepth 100000
theorem OwnR.frz {w : World} {A : Nat → Prop} {g n c : Nat} {l : List Rq} (h : OwnR w A (.slice (some ⟨g, 0, none⟩) n c) l) (j : Nat) : w.frozen? ⟨g, j, none⟩ = false := by
  obtain ⟨a, c', e⟩ := h.slice
  injection e with e1 e2 e3
  subst e2
  exact h.own.frozenAt j
theorem OwnT.frz {w : World} {A : Nat → Prop} {g n c : Nat} {l : List Bool} (h : OwnT w A (.slice (some ⟨g, 0, none⟩) n c) l) (j : Nat) : w.frozen? ⟨g, j, none⟩ = false := by
  obtain ⟨a, c', e⟩ := h.slice
  injection e with e1 e2 e3
  subst e2
  exact h.own.frozenAt j
theorem alloc_lt {w a : World} (h : Below w.heap.size w a) : ∀ (o : Obj) (q : Nat), q < w.heap.size → q < (a.alloc o).heap.size := fun o q hq => by rw [World.size_alloc]; have := h.size; omega
def lenV : Value → Nat
  | .slice _ n _ => n
  | _ => 0
set_option maxHeartbeats 32000000 in
theorem RList_calls {w : World} {a : Option Addr} {ca N : Nat} {ls : List (List Dn)} (h : IsDss w a ca ls) (hN : ls.length = N) (hok : ∀ l ∈ ls, ∀ d ∈ l, DnOk d) (hlen : ∀ l ∈ ls, l.length ≤ 60) (hls : N ≤ 6) (z : Option (List Rq)) (hz : totF (fun _ => none) 0 0 ls = z) :
    Calls Try.prog 16 #[.slice a N ca] w fun e w' => LRes w.heap.size w' e z ∧ Below w.heap.size w w' := by
  have hle := h.le
  have hsm := h.small
  rw [hN] at hle
  have H0 := hid h; have HN := hid hN; have HOK := hid hok; have HLE := hid hlen; have HZ := hid hz
  have hN6 : (N : Int) ≤ 6 := by omega
  clear h hN hok hlen hls hz
  go_enter Try.func16, Try.ntmps16
  go_wp2
  go_loopw [4, 5, 6] (fun ov tv iv wr => ∃ (i : Nat) (D : List (Option Rq)) (g : Int → Option Rq) (m : Int) (n : Nat), i ≤ N ∧ iv = .int .i64 i ∧ totF g m n (ls.drop i) = z ∧ GD g m n D ∧ D.length ≤ 2000 ∧ OwnR wr (fun k => k < w.heap.size) ov (outD D) ∧ OwnT wr (fun k => k < w.heap.size) tv (thD D) ∧ Below w.heap.size w wr) (fun _ _ iv _ => N - (intOf iv).toNat)
  case atStart => exact ⟨0, [], _, _, _, Nat.zero_le _, rfl, HZ.out, GD.nil, by decide, OwnR.nil _ _, OwnT.nil _ _, Below.refl _ _⟩
  case round =>
    obtain ⟨i, D, g, m, n, hi, rfl, hrz, hgd, hdl, ho, ht, hf⟩ := hrel
    generalize wr = wx at *
    have HRZ := hid hrz; have HGD := hid hgd; have HDL := hid hdl; have HO := hid ho; have HT := hid ht; have HF := hid hf
    clear hrz hgd hdl ho ht hf
    by_cases hlt : i < N
    · have hil : (i : Int) < (N : Int) := by omega
      obtain ⟨ga, oa, rfl, hga, hca⟩ := H0.out.at_ (by rw [HN.out]; omega)
      obtain ⟨l, hl⟩ : ∃ l, ls[i]? = some l := ⟨ls[i]'(by rw [HN.out]; exact hlt), List.getElem?_eq_getElem _⟩
      obtain ⟨aj, cj, q0, hd⟩ := hca i l hl
      have HLO := hid (HOK.out l (List.mem_of_getElem? hl))
      have hl60 := HLE.out l (List.mem_of_getElem? hl)
      have HZ1 := hid (show goF g m n 0 l (ls.drop (i + 1)) = z from by have h := HRZ.out; rw [drop_cons hl] at h; exact h)
      obtain ⟨nl, hnl⟩ : ∃ nl, l.length = nl := ⟨_, rfl⟩
      have hdle := hd.le
      have hdsm := hd.small
      rw [hnl] at q0 hdle hl60
      have hl60i : (nl : Int) ≤ 60 := by omega
      have HL := hid hd; have HNL := hid hnl; have HQ0 := hid q0; have HGA := hid hga; have HLT := hid hlt
      clear q0 hca hl hd hnl HRZ hga hlt hi
      go_wp2
      go_loopw [4, 5, 7, 8] (fun ov tv lv kv wy => ∃ (k : Nat) (D : List (Option Rq)) (g : Int → Option Rq) (m : Int) (n : Nat) (last : Int), k ≤ nl ∧ kv = .int .i64 k ∧ lv = .int .u32 last ∧ 0 ≤ last ∧ goF g m n last (l.drop k) (ls.drop (i + 1)) = z ∧ GD g m n D ∧ D.length ≤ 2000 ∧ OwnR wy (fun k => k < w.heap.size) ov (outD D) ∧ OwnT wy (fun k => k < w.heap.size) tv (thD D) ∧ Below w.heap.size w wy) (fun _ _ _ kv _ => nl - (intOf kv).toNat)
      case atStart => exact ⟨0, D, g, m, n, 0, Nat.zero_le _, rfl, rfl, Int.le_refl _, HZ1.out, HGD.out, HDL.out, HO.out, HT.out, HF.out⟩
      case round =>
        clear HO HT HF HGD HDL HZ1 D g m n
        obtain ⟨k, D, g, m, n, last, hk, rfl, rfl, hl0, hrz, hgd, hdl, ho, ht, hf⟩ := hrel
        generalize wr = wy at *
        have HRZ := hid hrz; have HGD := hid hgd; have HDL := hid hdl; have HO := hid ho; have HT := hid ht; have HF := hid hf
        clear hrz hgd hdl ho ht hf
        have q0 := (HF.out.cell (p := ⟨ga, oa + i, none⟩) HGA.out).trans HQ0.out
        by_cases hkn : k < nl
        · have hki : (k : Int) < (nl : Int) := by omega
          obtain ⟨gb, ob, rfl, hgb, hcb⟩ := HL.out.at_ (by rw [HNL.out]; omega)
          obtain ⟨d, hd⟩ : ∃ d, l[k]? = some d := ⟨l[k]'(by rw [HNL.out]; exact hkn), List.getElem?_eq_getElem _⟩
          have hdo := HLO.out d (List.mem_of_getElem? hd)
          have b0 := (HF.out.cell (p := ⟨gb, ob + k * 7 + 0, none⟩) hgb).trans (hcb k d hd 0 (by decide)); have b1 := (HF.out.cell (p := ⟨gb, ob + k * 7 + 1, none⟩) hgb).trans (hcb k d hd 1 (by decide)); have b2 := (HF.out.cell (p := ⟨gb, ob + k * 7 + 2, none⟩) hgb).trans (hcb k d hd 2 (by decide)); have b3 := (HF.out.cell (p := ⟨gb, ob + k * 7 + 3, none⟩) hgb).trans (hcb k d hd 3 (by decide)); have b4 := (HF.out.cell (p := ⟨gb, ob + k * 7 + 4, none⟩) hgb).trans (hcb k d hd 4 (by decide)); have b5 := (HF.out.cell (p := ⟨gb, ob + k * 7 + 5, none⟩) hgb).trans (hcb k d hd 5 (by decide)); have b6 := (HF.out.cell (p := ⟨gb, ob + k * 7 + 6, none⟩) hgb).trans (hcb k d hd 6 (by decide))
          have hs := HRZ.out
          rw [drop_cons hd] at hs
          have HS := hid hs
          clear hs hd hcb hgb HRZ
          obtain ⟨s, ⟨c, t, kk, y, v⟩, x⟩ := d
          simp only [dnC, List.getElem?_cons_succ, List.getElem?_cons_zero, Nat.add_zero] at b0 b1 b2 b3 b4 b5 b6
          obtain ⟨⟨hs0, hs2⟩, hro⟩ := hdo
          dsimp only at hs0 hs2 hro
          have HKN := hid hkn
          by_cases hsl : s ≤ last
          · have HZF := hid (show none = z from by rw [← HS.out]; exact (goF_bad (bad_le (g := g) (d := ⟨s, ⟨c, t, kk, y, v⟩, x⟩) hsl) _ _).symm)
            clear HS hkn hk
            go_wp2
            go_ret2
            exact ⟨LRes_none HZF.out, HF.out.alloc HF.out.size _⟩
          · obtain ⟨j, rfl⟩ : ∃ j : Nat, s = (j : Int) + 1 := ⟨(s - 1).toNat, by omega⟩
            have hsl2 : last < (j : Int) + 1 := by omega
            have hs3 : ¬ (100000 : Int) < (j : Int) + 1 := by omega
            have HSL := hid hsl2
            have HJ2 := hid (show j + 1 ≤ 2000 by omega)
            have HJ0 := hid hl0
            have HRO := hid hro
            clear hsl hkn hk hl0 hro
            go_wp2
            have HB := hid (blkn wy _ rfl (dnC ⟨(j : Int) + 1, ⟨c, t, kk, y, v⟩, x⟩) TDn)
            have HO0 := hid (HO.out.quiet (frm_box wy (.cells (dnC ⟨(j : Int) + 1, ⟨c, t, kk, y, v⟩, x⟩).toArray TDn)))
            have HT0 := hid (HT.out.quiet (frm_box wy (.cells (dnC ⟨(j : Int) + 1, ⟨c, t, kk, y, v⟩, x⟩).toArray TDn)))
            have HF0 := hid (HF.out.alloc HF.out.size (.cells (dnC ⟨(j : Int) + 1, ⟨c, t, kk, y, v⟩, x⟩).toArray TDn))
            have HDB := hid (show w.heap.size ≤ wy.heap.size from HF.out.size)
            clear HO HT HF q0 b0 b1 b2 b3 b4 b5 b6
            obtain ⟨db, hdb⟩ : ∃ db, wy.heap.size = db := ⟨_, rfl⟩
            rw [hdb]
            rw [hdb] at HB HDB
            clear hdb
            go_loopw [4, 5] (fun ov tv wz => ∃ e : Nat, D.length + e ≤ max D.length (j + 1) ∧ OwnR wz (fun k => k < w.heap.size) ov (outD (D ++ List.replicate e none)) ∧ OwnT wz (fun k => k < w.heap.size) tv (thD (D ++ List.replicate e none)) ∧ Blk wz db (dnC ⟨(j : Int) + 1, ⟨c, t, kk, y, v⟩, x⟩) TDn ∧ Below w.heap.size w wz) (fun ov _ _ => j + 1 - lenV ov)
            case atStart => exact ⟨0, by omega, by rw [List.replicate_zero, List.append_nil]; exact HO0.out, by rw [List.replicate_zero, List.append_nil]; exact HT0.out, HB.out, HF0.out⟩
            case round =>
              clear HO0 HT0 HB HF0
              obtain ⟨e, he, ho, ht, hb, hf⟩ := hrel
              generalize wr = wz at *
              obtain ⟨oa1, oc1, hov⟩ := ho.slice
              subst hov
              obtain ⟨ta1, tc1, htv⟩ := ht.slice
              subst htv
              have hLe : (outD (D ++ List.replicate e none)).length = D.length + e := by rw [outD_len, List.length_append, List.length_replicate]
              have hTe : (thD (D ++ List.replicate e none)).length = D.length + e := by rw [thD_len, List.length_append, List.length_replicate]
              rw [hLe, hTe]
              rw [hLe] at ho
              rw [hTe] at ht
              obtain ⟨LL, hLL⟩ : ∃ LL, D.length + e = LL := ⟨_, rfl⟩
              rw [hLL]
              rw [hLL] at ho ht
              have HLL := hid hLL; have HLE1 := hid hLe; have HTE1 := hid hTe
              have HO := hid ho; have HT := hid ht; have HB := hid hb; have HF := hid hf
              have hLL2 : LL ≤ 2000 := by have := HDL.out; have := HJ2.out; omega
              have e32 : IntKind.u32.wrap (LL : Int) = (LL : Int) := by simp [IntKind.wrap, IntKind.bits, IntKind.signed]; omega
              have HLL2 := hid hLL2
              have HDE := hid he
              have d0 := HB.out.cell 0; have d1 := HB.out.cell 1; have d2 := HB.out.cell 2; have d3 := HB.out.cell 3; have d4 := HB.out.cell 4; have d5 := HB.out.cell 5; have d6 := HB.out.cell 6
              simp only [dnC, List.getElem?_cons_succ, List.getElem?_cons_zero] at d0 d1 d2 d3 d4 d5 d6
              clear hLL hLe hTe ho ht hb hf he
              by_cases hlj : LL < j + 1
              · have hlji : (LL : Int) < (j : Int) + 1 := by omega
                have HLJ := hid hlj
                clear hlj
                have HAW := hid (alloc_lt HF.out)
                have HL1 := hid (show (outD (D ++ List.replicate e none)).length ≤ 100000 by rw [HLE1.out, HLL.out]; have := HLL2.out; omega)
                have HT1 := hid (show (thD (D ++ List.replicate e none)).length ≤ 100000 by rw [HTE1.out, HLL.out]; have := HLL2.out; omega)
                go_wp2_with (first
                  | (at_builtin; refine wpList_moreR ⟨0, 0, 0, 0, 0⟩ rfl _ _ rfl rfl (HO.out.quiet (frm_box wz _)) (fun q hq => HAW.out _ q hq) (Blk.new wz (rqC ⟨0, 0, 0, 0, 0⟩) TRq) HL1.out rfl rfl ?_; intro u7 w7 ho' hf' hat'; clear d0 d1 d2 d3 d4 d5 d6; have nT := hid ((HT.out.quiet (frm_box wz _)).frm hf' (fun q hq e => own_RT HO.out HT.out e hq)); have nB := hid ((HB.out.alloc _).frm hf' (fun e => (HO.out.not_blk HB.out (by decide) e) rfl)); have nF := hid ((HF.out.alloc HF.out.size _).trans (hf'.below (Nat.le_trans HF.out.size (Nat.le_of_lt (by rw [World.size_alloc]; exact Nat.lt_succ_self _))) (fun q hq hn => HO.out.off q hn hq))); clear HO HT HB HF hf' hat'; obtain ⟨oa2, oc2, hov2⟩ := ho'.slice; (rw [List.length_append, HLE1.out, HLL.out] at hov2); subst hov2; have HO := hid ho'; have HT := nT; have HB := nB; have HF := nF; clear nT nB nF ho'; have HAW7 := hid (alloc_lt HF.out); have d0 := HB.out.cell 0; have d1 := HB.out.cell 1; have d2 := HB.out.cell 2; have d3 := HB.out.cell 3; have d4 := HB.out.cell 4; have d5 := HB.out.cell 5; have d6 := HB.out.cell 6; (simp only [dnC, List.getElem?_cons_succ, List.getElem?_cons_zero] at d0 d1 d2 d3 d4 d5 d6))
                  | (at_builtin; refine wpList_moreT false rfl _ _ rfl rfl (HT.out.quiet (frm_box w7 _)) (fun q hq => HAW7.out _ q hq) (Blk.new w7 (btC false) 4) HT1.out rfl rfl ?_; intro u8 w8 ht' hf' hat'; clear d0 d1 d2 d3 d4 d5 d6; have nO := hid ((HO.out.quiet (frm_box w7 _)).frm hf' (fun q hq e => own_RT HO.out HT.out hq e)); have nB := hid ((HB.out.alloc _).frm hf' (fun e => (HT.out.not_blk HB.out (by decide) e) rfl)); have nF := hid ((HF.out.alloc HF.out.size _).trans (hf'.below (Nat.le_trans HF.out.size (Nat.le_of_lt (by rw [World.size_alloc]; exact Nat.lt_succ_self _))) (fun q hq hn => HT.out.off q hn hq))); clear HO HT HB HF hf' hat'; have HO := nO; have HT := hid ht'; have HB := nB; have HF := nF; clear nO nB nF ht'; have d0 := HB.out.cell 0; have d1 := HB.out.cell 1; have d2 := HB.out.cell 2; have d3 := HB.out.cell 3; have d4 := HB.out.cell 4; have d5 := HB.out.cell 5; have d6 := HB.out.cell 6; (simp only [dnC, List.getElem?_cons_succ, List.getElem?_cons_zero] at d0 d1 d2 d3 d4 d5 d6)))
                go_roundw
                case rel => exact ⟨e + 1, by have := HLL.out; have := HLJ.out; omega, by rw [outD_grow]; exact HO.out, by rw [thD_grow]; exact HT.out, HB.out, HF.out⟩
                case measure => (show j + 1 - (LL + 1) < j + 1 - LL; have := HLJ.out; omega)
              · have hlji : (j : Int) + 1 ≤ (LL : Int) := by omega
                have HMX := hid (show D.length + e = max D.length (j + 1) by have := HLL.out; have := HDE.out; omega)
                have hjLL : (j : Int) < (LL : Int) := by omega
                have HJL := hid (show j < LL by omega)
                have e33 : IntKind.u32.wrap ((j : Int) + 1 - 1) = (j : Int) := by simp [IntKind.wrap, IntKind.bits, IntKind.signed]; have := HJ2.out; omega
                have e34 : IntKind.u32.wrap (j : Int) = (j : Int) := by simp [IntKind.wrap, IntKind.bits, IntKind.signed]; have := HJ2.out; omega
                obtain ⟨o, hoj⟩ : ∃ o, (D ++ List.replicate e none)[j]? = some o := ⟨_, List.getElem?_eq_getElem (by rw [List.length_append, List.length_replicate, HLL.out]; exact HJL.out)⟩
                have HOJ := hid hoj
                have HGJ := hid (show g ((j : Int) + 1) = o by rw [HGD.out.g1 j, ← grow_at D e j, hoj]; rfl)
                obtain ⟨g1, c1, hov, hc1, hc2, hcell⟩ := HO.out.at_ (by rw [HLE1.out, HLL.out]; have := HJL.out; omega)
                rw [HLE1.out, HLL.out] at hov hc1
                injection hov with hv1 hv2 hv3
                subst hv1 hv3
                obtain ⟨g2, c2, htv, hc3, hc4, htell⟩ := HT.out.at_ (by rw [HTE1.out, HLL.out]; have := HJL.out; omega)
                rw [HTE1.out, HLL.out] at htv hc3
                injection htv with hv4 hv5 hv6
                subst hv4 hv6
                have hg12 : ¬ g1 = g2 := fun e => own_RT HO.out HT.out (k := g1) rfl (by rw [e]; rfl)
                have hg1d : ¬ g1 = db := HO.out.not_blk HB.out (by decide) rfl
                have hg2d : ¬ g2 = db := HT.out.not_blk HB.out (by decide) rfl
                have hgl1 : g1 < wz.heap.size := HO.out.lt rfl
                have hgl2 : g2 < wz.heap.size := HT.out.lt rfl
                have hgl3 := HB.out.lt
                have HCL := hid hcell; have HTLL := hid htell
                have HG12 := hid hg12
                have hnl : ¬ (LL : Int) < (j : Int) + 1 := by omega
                clear hcell htell hoj hv2 hv5 hlj hlji hjLL hs0 hs2 hsl2 hs3 hLL2
                go_wp2_with (fail)
                clear hnl
                have hjLL : (j : Int) < (LL : Int) := by have := HJL.out; omega
                have z0 := HO.out.frz (j * 5); have z1 := HO.out.frz (j * 5 + 1); have z2 := HO.out.frz (j * 5 + 2); have z3 := HO.out.frz (j * 5 + 3); have z4 := HO.out.frz (j * 5 + 4)
                have y0 := HT.out.frz j
                have t0 : wz.cell? ⟨g2, j, none⟩ = some (.bool o.isSome) := by
                  have h := HTLL.out j o.isSome (thD_at HOJ.out) 0 (by decide)
                  rw [Nat.mul_one, Nat.add_zero] at h
                  exact h
                cases o with
                | none =>
                  have HBD := hid (show badD g last ⟨(j : Int) + 1, ⟨c, t, kk, y, v⟩, x⟩ = false from bad_none (Int.not_le.2 HSL.out) HGJ.out)
                  have t0 : wz.cell? ⟨g2, j, none⟩ = some (.bool false) := t0
                  refine wp_region_held_drew (S := fun wx => wx.cell? ⟨g2, j, none⟩ = some (.bool false) ∧ wx.cell? ⟨db, 0, none⟩ = some (.int .u32 ((j : Int) + 1))) (by kernel_rfl) ?_ (fun hHeld => ?_)
                  · exact ⟨t0, d0⟩
                  refine wpAnyH_take (i := 0) (oi := ⟨some 57, _, _, _, _, _⟩) (v := ?v1) rfl (by kernel_rfl) (by kernel_rfl) (by kernel_rfl) (fun _ _ _ h => h) (Or.inl ⟨by rfl, ?y1⟩) (by assumption) ?r1
                  case y1 => (intro wx hSx; (try dsimp only at hSx); go_simp; (try with_reducible rfl))
                  try simp only [Act.put, List.setIfInBounds_toArray, List.set_cons_zero, List.set_cons_succ]
                  refine wpAnyH_take (i := 1) (oi := ⟨some 58, _, _, _, _, _⟩) (v := ?v2) rfl (by kernel_rfl) (by kernel_rfl) (by kernel_rfl) (fun _ _ _ h => h) (Or.inl ⟨by rfl, ?y2⟩) (by assumption) ?r2
                  case y2 => (intro wx hSx; (try dsimp only at hSx); go_simp; (try with_reducible rfl))
                  try simp only [Act.put, List.setIfInBounds_toArray, List.set_cons_zero, List.set_cons_succ]
                  refine wpAnyH_take (i := 2) (oi := ⟨some 59, _, _, _, _, _⟩) (v := ?v3) rfl (by kernel_rfl) (by kernel_rfl) (by kernel_rfl) (fun _ _ _ h => h) (Or.inl ⟨by rfl, ?y3⟩) (by assumption) ?r3
                  case y3 => (intro wx hSx; (try dsimp only at hSx); go_simp; (try with_reducible rfl))
                  try simp only [Act.put, List.setIfInBounds_toArray, List.set_cons_zero, List.set_cons_succ]
                  refine wpAnyH_take (i := 3) (oi := ⟨some 60, _, _, _, _, _⟩) (v := ?v4) rfl (by kernel_rfl) (by kernel_rfl) (by kernel_rfl) (fun _ _ _ h => h) (Or.inl ⟨by rfl, ?y4⟩) (by assumption) ?r4
                  case y4 => (intro wx hSx; (try dsimp only at hSx); go_simp; (try with_reducible rfl))
                  try simp only [Act.put, List.setIfInBounds_toArray, List.set_cons_zero, List.set_cons_succ]
                  refine wpAnyH_take (i := 4) (oi := ⟨some 61, _, _, _, _, _⟩) (v := ?v5) rfl (by kernel_rfl) (by kernel_rfl) (by kernel_rfl) (fun _ _ _ h => h) (Or.inl ⟨by rfl, ?y5⟩) (by assumption) ?r5
                  case y5 => (intro wx hSx; (try dsimp only at hSx); go_simp; (try with_reducible rfl))
                  try simp only [Act.put, List.setIfInBounds_toArray, List.set_cons_zero, List.set_cons_succ]
                  refine wpAnyH_take (i := 5) (oi := ⟨some 62, _, _, _, _, _⟩) (v := ?v6) rfl (by kernel_rfl) (by kernel_rfl) (by kernel_rfl) (fun _ _ _ h => h) (Or.inl ⟨by rfl, ?y6⟩) (by assumption) ?r6
                  case y6 => (intro wx hSx; (try dsimp only at hSx); go_simp; (try with_reducible rfl))
                  try simp only [Act.put, List.setIfInBounds_toArray, List.set_cons_zero, List.set_cons_succ]
                  refine wpAnyH_take (i := 6) (oi := ⟨some 63, _, _, _, _, _⟩) (v := ?v7) rfl (by kernel_rfl) (by kernel_rfl) (by kernel_rfl) (fun _ _ _ h => h) (Or.inl ⟨by rfl, ?y7⟩) (by assumption) ?r7
                  case y7 => (intro wx hSx; (try dsimp only at hSx); go_simp; (try with_reducible rfl))
                  try simp only [Act.put, List.setIfInBounds_toArray, List.set_cons_zero, List.set_cons_succ]
                  refine wpAnyH_take (i := 7) (oi := ⟨some 64, _, _, _, _, _⟩) (v := undef) rfl (by kernel_rfl) (by kernel_rfl) (by kernel_rfl) (fun _ _ _ h => h) (Or.inr ⟨by rfl, rfl⟩) (by assumption) ?_
                  try simp only [Act.put, List.setIfInBounds_toArray, List.set_cons_zero, List.set_cons_succ]
                  refine wpAnyH_take (i := 8) (oi := ⟨some 65, _, _, _, _, _⟩) (v := undef) rfl (by kernel_rfl) (by kernel_rfl) (by kernel_rfl) (fun _ _ _ h => h) (Or.inr ⟨by rfl, rfl⟩) (by assumption) ?_
                  try simp only [Act.put, List.setIfInBounds_toArray, List.set_cons_zero, List.set_cons_succ]
                  refine wpAnyH_take (i := 9) (oi := ⟨some 66, _, _, _, _, _⟩) (v := undef) rfl (by kernel_rfl) (by kernel_rfl) (by kernel_rfl) (fun _ _ _ h => h) (Or.inr ⟨by rfl, rfl⟩) (by assumption) ?_
                  try simp only [Act.put, List.setIfInBounds_toArray, List.set_cons_zero, List.set_cons_succ]
                  refine wpAnyH_take (i := 10) (oi := ⟨some 67, _, _, _, _, _⟩) (v := undef) rfl (by kernel_rfl) (by kernel_rfl) (by kernel_rfl) (fun _ _ _ h => h) (Or.inr ⟨by rfl, rfl⟩) (by assumption) ?_
                  try simp only [Act.put, List.setIfInBounds_toArray, List.set_cons_zero, List.set_cons_succ]
                  refine wpAnyH_take (i := 11) (oi := ⟨some 68, _, _, _, _, _⟩) (v := undef) rfl (by kernel_rfl) (by kernel_rfl) (by kernel_rfl) (fun _ _ _ h => h) (Or.inr ⟨by rfl, rfl⟩) (by assumption) ?_
                  try simp only [Act.put, List.setIfInBounds_toArray, List.set_cons_zero, List.set_cons_succ]
                  refine wpAnyH_take (i := 12) (oi := ⟨some 69, _, _, _, _, _⟩) (v := undef) rfl (by kernel_rfl) (by kernel_rfl) (by kernel_rfl) (fun _ _ _ h => h) (Or.inr ⟨by rfl, rfl⟩) (by assumption) ?_
                  try simp only [Act.put, List.setIfInBounds_toArray, List.set_cons_zero, List.set_cons_succ]
                  refine wpAnyH_take (i := 13) (oi := ⟨some 70, _, _, _, _, _⟩) (v := undef) rfl (by kernel_rfl) (by kernel_rfl) (by kernel_rfl) (fun _ _ _ h => h) (Or.inr ⟨by rfl, rfl⟩) (by assumption) ?_
                  try simp only [Act.put, List.setIfInBounds_toArray, List.set_cons_zero, List.set_cons_succ]
                  refine wpAnyH_take (i := 14) (oi := ⟨some 71, _, _, _, _, _⟩) (v := undef) rfl (by kernel_rfl) (by kernel_rfl) (by kernel_rfl) (fun _ _ _ h => h) (Or.inr ⟨by rfl, rfl⟩) (by assumption) ?_
                  try simp only [Act.put, List.setIfInBounds_toArray, List.set_cons_zero, List.set_cons_succ]
                  refine wpAnyH_take (i := 15) (oi := ⟨some 72, _, _, _, _, _⟩) (v := undef) rfl (by kernel_rfl) (by kernel_rfl) (by kernel_rfl) (fun _ _ _ h => h) (Or.inr ⟨by rfl, rfl⟩) (by assumption) ?_
                  try simp only [Act.put, List.setIfInBounds_toArray, List.set_cons_zero, List.set_cons_succ]
                  refine wpAnyH_take (i := 16) (oi := ⟨some 73, _, _, _, _, _⟩) (v := ?v8) rfl (by kernel_rfl) (by kernel_rfl) (by kernel_rfl) (fun _ _ _ h => h) (Or.inl ⟨by rfl, ?y8⟩) (by assumption) ?r8
                  case y8 => (intro wx hSx; (try dsimp only at hSx); go_simp; (try with_reducible rfl))
                  try simp only [Act.put, List.setIfInBounds_toArray, List.set_cons_zero, List.set_cons_succ]
                  refine wpAnyH_done (by kernel_rfl) ?_ _
                  have o0 : wz.cell? ⟨g1, j * 5, none⟩ = some (.int .u8 0) := HCL.out j _ (outD_at HOJ.out) 0 (by decide); have o1 : wz.cell? ⟨g1, j * 5 + 1, none⟩ = some (.int .u32 0) := HCL.out j _ (outD_at HOJ.out) 1 (by decide); have o2 : wz.cell? ⟨g1, j * 5 + 2, none⟩ = some (.int .u8 0) := HCL.out j _ (outD_at HOJ.out) 2 (by decide); have o3 : wz.cell? ⟨g1, j * 5 + 3, none⟩ = some (.int .u8 0) := HCL.out j _ (outD_at HOJ.out) 3 (by decide); have o4 : wz.cell? ⟨g1, j * 5 + 4, none⟩ = some (.int .u16 0) := HCL.out j _ (outD_at HOJ.out) 4 (by decide)
                  have hs4 := HS.out
                  rw [goF_ok HBD.out] at hs4
                  dsimp only at hs4
                  have HS4 := hid hs4
                  clear hs4
                  have HLN2 := hid (show LL = (outD (D ++ List.replicate e none)).length from (HLE1.out.trans HLL.out).symm)
                  have HLN3 := hid (show LL = (thD (D ++ List.replicate e none)).length from (HTE1.out.trans HLL.out).symm)
                  have HG1B := hid (show w.heap.size ≤ g1 from Nat.le_of_not_lt (HO.out.off g1 rfl))
                  have HG2B := hid (show w.heap.size ≤ g2 from Nat.le_of_not_lt (HT.out.off g2 rfl))
                  go_wp2
                  go_region
                  go_wp2
                  go_roundw
                  case rel => exact ⟨k + 1, (D ++ List.replicate e none).set j (some ⟨c, t, kk, y, v⟩), _, _, _, (j : Int) + 1, by have := HKN.out; omega, by go_num, rfl, by have := HJ0.out; omega, HS4.out, HGD.out.step e j _ _ HOJ.out HMX.out, by rw [List.length_set, List.length_append, List.length_replicate, HLL.out]; exact HLL2.out,
                    by rw [outD_set]; exact ((HO.out.set HLN2.out j (by rw [← HLN2.out]; exact HJL.out) ⟨c, t, kk, y, v⟩).frm ((Frm.refl (· = g2) _).setCell ⟨g2, j, none⟩ _ (.inr rfl)) (fun q hq e => HG12.out (by injection hq with hq; exact hq.trans e))).quiet (Frm.refl _ _).drew.drew,
                    by rw [thD_set]; exact ((HT.out.frm ((((((Frm.refl (· = g1) wz).setCell ⟨g1, j * 5, none⟩ _ (.inr rfl)).setCell ⟨g1, j * 5 + 1, none⟩ _ (.inr rfl)).setCell ⟨g1, j * 5 + 2, none⟩ _ (.inr rfl)).setCell ⟨g1, j * 5 + 3, none⟩ _ (.inr rfl)).setCell ⟨g1, j * 5 + 4, none⟩ _ (.inr rfl)) (fun q hq e => HG12.out (by injection hq with hq; exact (hq.trans e).symm))).set HLN3.out j true).quiet (Frm.refl _ _).drew.drew,
                    bdrew (bdrew (below_frm (S := fun b => w.heap.size ≤ b) HF.out (((((((Frm.refl _ wz).setCell ⟨g1, j * 5, none⟩ _ (.inr HG1B.out)).setCell ⟨g1, j * 5 + 1, none⟩ _ (.inr HG1B.out)).setCell ⟨g1, j * 5 + 2, none⟩ _ (.inr HG1B.out)).setCell ⟨g1, j * 5 + 3, none⟩ _ (.inr HG1B.out)).setCell ⟨g1, j * 5 + 4, none⟩ _ (.inr HG1B.out)).setCell ⟨g2, j, none⟩ _ (.inr HG2B.out)) (fun q hq h => Nat.lt_irrefl _ (Nat.lt_of_lt_of_le hq h))))⟩
                  case measure => simp [intOf]; have := HKN.out; omega
                | some r =>
                  obtain ⟨rc, rt, rk, ry, rv⟩ := r
                  have t0 : wz.cell? ⟨g2, j, none⟩ = some (.bool true) := t0
                  have o0 : wz.cell? ⟨g1, j * 5, none⟩ = some (.int .u8 rc) := HCL.out j _ (outD_at HOJ.out) 0 (by decide); have o1 : wz.cell? ⟨g1, j * 5 + 1, none⟩ = some (.int .u32 rt) := HCL.out j _ (outD_at HOJ.out) 1 (by decide); have o2 : wz.cell? ⟨g1, j * 5 + 2, none⟩ = some (.int .u8 rk) := HCL.out j _ (outD_at HOJ.out) 2 (by decide); have o3 : wz.cell? ⟨g1, j * 5 + 3, none⟩ = some (.int .u8 ry) := HCL.out j _ (outD_at HOJ.out) 3 (by decide); have o4 : wz.cell? ⟨g1, j * 5 + 4, none⟩ = some (.int .u16 rv) := HCL.out j _ (outD_at HOJ.out) 4 (by decide)
                  obtain ⟨qe, hqe⟩ : ∃ qe, (rc == c && (rt == t && (rk == kk && (ry == y && rv == v)))) = qe := ⟨_, rfl⟩
                  have hqr := fun w => neqRq w rc rt rk ry rv c t kk y v qe hqe
                  have HBD := hid (show badD g last ⟨(j : Int) + 1, ⟨c, t, kk, y, v⟩, x⟩ = !qe from bad_some (r := ⟨rc, rt, rk, ry, rv⟩) (Int.not_le.2 HSL.out) HGJ.out qe (show Rq.eqb ⟨rc, rt, rk, ry, rv⟩ ⟨c, t, kk, y, v⟩ = qe from hqe))
                  clear hqe
                  cases qe
                  · have HZF := hid (show none = z from by rw [← HS.out]; exact (goF_bad HBD.out _ _).symm)
                    go_region_held3 (fun wx => wx.cell? ⟨g2, j, none⟩ = some (.bool true) ∧ wx.cell? ⟨db, 0, none⟩ = some (.int .u32 ((j : Int) + 1)) ∧ wx.cell? ⟨db, 1, none⟩ = some (.int .u8 c) ∧ wx.cell? ⟨db, 2, none⟩ = some (.int .u32 t) ∧ wx.cell? ⟨db, 3, none⟩ = some (.int .u8 kk) ∧ wx.cell? ⟨db, 4, none⟩ = some (.int .u8 y) ∧ wx.cell? ⟨db, 5, none⟩ = some (.int .u16 v) ∧ wx.cell? ⟨g1, j * 5, none⟩ = some (.int .u8 rc) ∧ wx.cell? ⟨g1, j * 5 + 1, none⟩ = some (.int .u32 rt) ∧ wx.cell? ⟨g1, j * 5 + 2, none⟩ = some (.int .u8 rk) ∧ wx.cell? ⟨g1, j * 5 + 3, none⟩ = some (.int .u8 ry) ∧ wx.cell? ⟨g1, j * 5 + 4, none⟩ = some (.int .u16 rv)) (first | go_keep | exact ⟨t0, d0, d1, d2, d3, d4, d5, o0, o1, o2, o3, o4⟩) (fail)
                    go_wp2
                    go_ret2
                    exact ⟨LRes_none HZF.out, bdrew HF.out⟩
                  · go_region_held3 (fun wx => wx.cell? ⟨g2, j, none⟩ = some (.bool true) ∧ wx.cell? ⟨db, 0, none⟩ = some (.int .u32 ((j : Int) + 1)) ∧ wx.cell? ⟨db, 1, none⟩ = some (.int .u8 c) ∧ wx.cell? ⟨db, 2, none⟩ = some (.int .u32 t) ∧ wx.cell? ⟨db, 3, none⟩ = some (.int .u8 kk) ∧ wx.cell? ⟨db, 4, none⟩ = some (.int .u8 y) ∧ wx.cell? ⟨db, 5, none⟩ = some (.int .u16 v) ∧ wx.cell? ⟨g1, j * 5, none⟩ = some (.int .u8 rc) ∧ wx.cell? ⟨g1, j * 5 + 1, none⟩ = some (.int .u32 rt) ∧ wx.cell? ⟨g1, j * 5 + 2, none⟩ = some (.int .u8 rk) ∧ wx.cell? ⟨g1, j * 5 + 3, none⟩ = some (.int .u8 ry) ∧ wx.cell? ⟨g1, j * 5 + 4, none⟩ = some (.int .u16 rv)) (first | go_keep | exact ⟨t0, d0, d1, d2, d3, d4, d5, o0, o1, o2, o3, o4⟩) (fail)
                    have hs4 := HS.out
                    rw [goF_ok HBD.out] at hs4
                    dsimp only at hs4
                    have HS4 := hid hs4
                    clear hs4
                    have HLN2 := hid (show LL = (outD (D ++ List.replicate e none)).length from (HLE1.out.trans HLL.out).symm)
                    have HLN3 := hid (show LL = (thD (D ++ List.replicate e none)).length from (HTE1.out.trans HLL.out).symm)
                    have HG1B := hid (show w.heap.size ≤ g1 from Nat.le_of_not_lt (HO.out.off g1 rfl))
                    have HG2B := hid (show w.heap.size ≤ g2 from Nat.le_of_not_lt (HT.out.off g2 rfl))
                    go_wp2
                    go_region
                    go_wp2
                    go_roundw
                    case rel => exact ⟨k + 1, (D ++ List.replicate e none).set j (some ⟨c, t, kk, y, v⟩), _, _, _, (j : Int) + 1, by have := HKN.out; omega, by go_num, rfl, by have := HJ0.out; omega, HS4.out, HGD.out.step e j _ _ HOJ.out HMX.out, by rw [List.length_set, List.length_append, List.length_replicate, HLL.out]; exact HLL2.out,
                      by rw [outD_set]; exact ((HO.out.set HLN2.out j (by rw [← HLN2.out]; exact HJL.out) ⟨c, t, kk, y, v⟩).frm ((Frm.refl (· = g2) _).setCell ⟨g2, j, none⟩ _ (.inr rfl)) (fun q hq e => HG12.out (by injection hq with hq; exact hq.trans e))).quiet (Frm.refl _ _).drew.drew,
                      by rw [thD_set]; exact ((HT.out.frm ((((((Frm.refl (· = g1) wz).setCell ⟨g1, j * 5, none⟩ _ (.inr rfl)).setCell ⟨g1, j * 5 + 1, none⟩ _ (.inr rfl)).setCell ⟨g1, j * 5 + 2, none⟩ _ (.inr rfl)).setCell ⟨g1, j * 5 + 3, none⟩ _ (.inr rfl)).setCell ⟨g1, j * 5 + 4, none⟩ _ (.inr rfl)) (fun q hq e => HG12.out (by injection hq with hq; exact (hq.trans e).symm))).set HLN3.out j true).quiet (Frm.refl _ _).drew.drew,
                      bdrew (bdrew (below_frm (S := fun b => w.heap.size ≤ b) HF.out (((((((Frm.refl _ wz).setCell ⟨g1, j * 5, none⟩ _ (.inr HG1B.out)).setCell ⟨g1, j * 5 + 1, none⟩ _ (.inr HG1B.out)).setCell ⟨g1, j * 5 + 2, none⟩ _ (.inr HG1B.out)).setCell ⟨g1, j * 5 + 3, none⟩ _ (.inr HG1B.out)).setCell ⟨g1, j * 5 + 4, none⟩ _ (.inr HG1B.out)).setCell ⟨g2, j, none⟩ _ (.inr HG2B.out)) (fun q hq h => Nat.lt_irrefl _ (Nat.lt_of_lt_of_le hq h))))⟩
                    case measure => simp [intOf]; have := HKN.out; omega
        · have hki : (nl : Int) ≤ (k : Int) := by omega
          have HZ2 := hid (show totF g m n (ls.drop (i + 1)) = z from by have h := HRZ.out; rw [List.drop_eq_nil_of_le (show l.length ≤ k by rw [HNL.out]; omega)] at h; exact h)
          clear hkn hk HRZ
          go_wp2
          go_roundw
          case rel => exact ⟨i + 1, D, g, m, n, by have := HLT.out; omega, by go_num, HZ2.out, HGD.out, HDL.out, HO.out, HT.out, HF.out⟩
          case measure => simp [intOf]; have := HLT.out; omega
    · have hil : (N : Int) ≤ (i : Int) := by omega
      have hz0 : totF g m n [] = z := by have h := HRZ.out; rw [List.drop_eq_nil_of_le (by rw [HN.out]; omega)] at h; exact h
      rw [HGD.out.fin] at hz0
      have HZF := hid hz0
      obtain ⟨oa1, oc1, hov⟩ := HO.out.slice
      subst hov
      obtain ⟨ta1, tc1, htv⟩ := HT.out.slice
      subst htv
      obtain ⟨DL, hDL⟩ : ∃ DL, (thD D).length = DL := ⟨_, rfl⟩
      rw [hDL]
      rw [hDL] at HT
      have HDN := hid hDL
      have HDD := hid (show D.length = DL by rw [← hDL, thD_len])
      have hDL0 : 0 ≤ (DL : Int) := by omega
      clear hlt hi hz0 HRZ hDL
      go_wp2
      go_loopw [10] (fun jv wz => ∃ q : Nat, q ≤ DL ∧ jv = .int .i64 q ∧ (D.take q).all Option.isSome = true ∧ wx = wz) (fun jv _ => DL - (intOf jv).toNat)
      case atStart => exact ⟨0, Nat.zero_le _, rfl, rfl, rfl⟩
      case round =>
        obtain ⟨q, hq, rfl, hall, hww⟩ := hrel
        subst hww
        have HALL := hid hall
        clear hall
        by_cases hql : q < DL
        · have hqi : (q : Int) < (DL : Int) := by omega
          have hq2k : (q : Int) ≤ 2000 := by have := HDL.out; rw [HDD.out] at this; omega
          obtain ⟨g2, c2, htv, hc3, hc4, htell⟩ := HT.out.at_ (by rw [HDN.out]; omega)
          rw [HDN.out] at htv
          injection htv with hv4 hv5 hv6
          subst hv4 hv6
          obtain ⟨o, hoj⟩ : ∃ o, D[q]? = some o := ⟨D[q]'(by rw [HDD.out]; exact hql), List.getElem?_eq_getElem _⟩
          have t0 : wx.cell? ⟨g2, q, none⟩ = some (.bool o.isSome) := by
            have h := htell q o.isSome (thD_at hoj) 0 (by decide)
            rw [Nat.mul_one, Nat.add_zero] at h
            exact h
          have HQL := hid hql
          have HOJ := hid hoj
          clear htell hv5 hql hq hoj hc3 hc4
          cases o with
          | none =>
            have t0 : wx.cell? ⟨g2, q, none⟩ = some (.bool false) := t0
            have HZ2 := hid (show none = z by
              rw [← HZF.out, if_neg]
              intro h
              have := List.all_eq_true.1 h none (List.mem_of_getElem? HOJ.out)
              simp at this)
            go_wp2
            go_ret2
            exact ⟨LRes_none HZ2.out, HF.out⟩
          | some r =>
            have t0 : wx.cell? ⟨g2, q, none⟩ = some (.bool true) := t0
            have HA2 := hid (show (D.take (q + 1)).all Option.isSome = true by rw [List.take_add_one, HOJ.out, List.all_append, HALL.out]; rfl)
            go_wp2
            go_roundw
            case rel => exact ⟨q + 1, by have := HQL.out; omega, by go_num, HA2.out, by first | rfl | trivial⟩
            case measure => simp [intOf]; have := HQL.out; omega
        · have hqi : (DL : Int) ≤ (q : Int) := by omega
          have HZ2 := hid (show some (outD D) = z by rw [← HZF.out, if_pos (by have h := HALL.out; rw [List.take_of_length_le (by rw [HDD.out]; omega)] at h; exact h)])
          clear hql hq
          go_wp2
          go_ret2
          refine ⟨?_, HF.out⟩
          rw [← HZ2.out]
          exact ⟨_, rfl, HO.out⟩
end Go.Proofs.Ytljfbaakgjmmfaa
