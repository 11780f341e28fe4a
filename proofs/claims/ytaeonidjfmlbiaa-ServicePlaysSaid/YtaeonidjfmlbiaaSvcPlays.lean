/- ServicePlays, walked: every row of requests. -/
import Derived.Test.YtaeonidjfmlbiaaSvcOuts
namespace Go.Proofs.Ytaeonidjfmlbiaa
open Go.RowKit Go.ChangeShapes
set_option linter.unusedVariables false
set_option linter.unusedSimpArgs false
set_option maxRecDepth 100000
theorem IsRqs.bel {w w' : World} {a : Option Addr} {cap : Nat} {l : List Rq} (h : IsRqs w a cap l) (f : Below w.heap.size w w') : IsRqs w' a cap l :=
  ⟨h.le, h.small, fun hn => by
    obtain ⟨b, o, e, hb, hc⟩ := h.at_ hn
    exact ⟨b, o, e, Nat.lt_of_lt_of_le hb f.size, fun j r hj i hi => by rw [f.cell (p := ⟨b, o + j * 5 + i, none⟩) hb]; exact hc j r hj i hi⟩, h.ok⟩
theorem zeroRM (w : World) : (zeroValue TRM).run Try.prog w = .ok (.agg (rcells (List.replicate 64 0) (List.replicate 10 0)).toArray) w := by kernel_rfl
theorem RM_new (w : World) : IsRM (w.alloc (.cells (rcells SV0 SC0).toArray TRM)) w.heap.size SV0 SC0 := ⟨Blk.new w (rcells SV0 SC0) TRM, by decide, by decide, by decide, by decide⟩
set_option maxHeartbeats 32000000 in
theorem ServicePlays_core (a0 : Option Addr) (c0 n : Nat) (l : List Rq) (w : World) (h0 : IsRqs w a0 c0 l) (hn : l.length = n) :
    Calls Try.prog 7 #[.slice a0 n c0] w fun e w' => e = .returned (.bool true) ∧ Below w.heap.size w w' := by
  have hle := h0.le
  have hsm := h0.small
  rw [hn] at hle
  by_cases hlen : n > 80
  · go_enter Try.func7, Try.ntmps7
    go_wp2_with (go_at_call 8; (with_reducible refine (known_calls _).mono ?_); rintro e w1 ⟨rfl, f1⟩)
    go_ret
    exact ⟨rfl, f1⟩
  have H0 := hid h0; have HN := hid hn
  have hn80 : (n : Int) ≤ 80 := by omega
  have HLN := hid (show n ≤ 80 by omega)
  have HLN2 := hid (show n ≤ 2000 by omega)
  obtain ⟨vs', cs', hrun⟩ : ∃ vs' cs', runM SV0 SC0 l = (vs', cs') := ⟨_, _, rfl⟩
  obtain ⟨outs, houts⟩ : ∃ outs, outM SV0 SC0 l = outs := ⟨_, rfl⟩
  have HRUN := hid hrun; have HOUTS := hid houts
  have HOL := hid (show outs.length = n by rw [← houts, outM_len, hn])
  obtain ⟨ZV, hZV⟩ : ∃ Z, (rcells (List.replicate 64 0) (List.replicate 10 0)).toArray = Z := ⟨_, rfl⟩
  have hz := zeroRM
  rw [hZV] at hz
  have HZV := hid hZV
  clear h0 hn hlen hrun houts hZV
  go_enter Try.func7, Try.ntmps7
  go_wp2_with (first
    | (go_at_call 8; (with_reducible refine (known_calls w).mono ?_); rintro e w1 ⟨rfl, f'⟩; have HF := hid f'; clear f')
    | (go_at_call 9; (with_reducible refine (PNew_calls w1).mono ?_); rintro e w2 ⟨rfl, h', f'⟩; have HMB := hid HF.out.size; have HM := hid h'; have HF2 := hid (below_next HF.out f'); clear HF h' f'; have HF := HF2; clear HF2))
  have HR0 := hid (show IsRM (w2.alloc (.cells ZV TRM)) w2.heap.size SV0 SC0 from HZV.out ▸ RM_new w2)
  have HM0 := hid (HM.out.frm (frm_box w2 (.cells ZV TRM)) (fun h => h))
  have HF0 := hid (HF.out.alloc HF.out.size (.cells ZV TRM))
  have HRB := hid (show w.heap.size ≤ w2.heap.size from HF.out.size)
  have HMR := hid (show w1.heap.size < w2.heap.size from HM.out.blk.lt)
  clear HM HF
  generalize hmb : w1.heap.size = mb at *
  generalize hrb : w2.heap.size = rb at *
  clear hmb hrb
  have HRM := hid (show ¬ rb = mb from fun e => by have := HMR.out; omega)
  have HMN := hid (show ¬ mb = rb from fun e => by have := HMR.out; omega)
  go_loopw [5, 6] (fun lv iv wr => ∃ (i : Nat) (vs cs told : List Int), i ≤ n ∧ iv = .int .i64 i ∧ told.length = i ∧ runM vs cs (l.drop i) = (vs', cs') ∧ told ++ outM vs cs (l.drop i) = outs ∧ cs.getD 0 0 = 0 ∧ IsMap wr mb vs cs ∧ IsRM wr rb vs cs ∧ OwnBW wr (fun k => k ≤ rb) lv told ∧ Below w.heap.size w wr) (fun _ i _ => n - (intOf i).toNat)
  case atStart => exact ⟨0, _, _, [], by omega, rfl, rfl, HRUN.out, HOUTS.out, by decide, HM0.out, HR0.out, OwnBW.nil _ _, HF0.out⟩
  case round =>
    clear HM0 HR0 HF0
    obtain ⟨i, vs, cs, told, hi, rfl, htl, hrz, hro, h00, hm, hr, ho, hf⟩ := hrel
    have HRZ := hid hrz; have HRO := hid hro; have HF := hid hf; have HM := hid hm; have HR := hid hr; have HO := hid ho; have HTL := hid htl; have H00o := hid h00
    clear hrz hro hf hm hr ho htl h00
    obtain ⟨la, lc, hla, -, -⟩ := HO.out.ints
    subst hla
    by_cases hlt : i < n
    · obtain ⟨ga, oa, rfl, hga, hca⟩ := H0.out.at_ (by have := HN.out; omega)
      obtain ⟨r, hr⟩ : ∃ r, l[i]? = some r := ⟨l[i]'(by rw [HN.out]; exact hlt), List.getElem?_eq_getElem _⟩
      have hok := H0.out.ok r (List.mem_of_getElem? hr)
      have q0 := hca i r hr 0 (by decide); have q1 := hca i r hr 1 (by decide); have q2 := hca i r hr 2 (by decide); have q3 := hca i r hr 3 (by decide); have q4 := hca i r hr 4 (by decide)
      have hs := HRZ.out
      rw [sdrop_cons hr, runM] at hs
      have HS := hid hs
      have hso := HRO.out
      rw [sdrop_cons hr, outM] at hso
      have HSO := hid hso
      clear hs hso HRZ HRO hr hca
      obtain ⟨c, t, k, y, v⟩ := r
      obtain ⟨hc0, ht0, hk0, hy0, hv0⟩ := hok
      dsimp only at hc0 ht0 hk0 hy0 hv0
      simp only [rqC, List.getElem?_cons_succ, List.getElem?_cons_zero] at q0 q1 q2 q3 q4
      have HC0 := hid q0; have HC1 := hid q1; have HC2 := hid q2; have HC3 := hid q3; have HC4 := hid q4
      have HGA := hid hga
      clear q0 q1 q2 q3 q4
      have q0 := (HF.out.cell (p := ⟨ga, oa + i * 5 + 0, none⟩) HGA.out).trans HC0.out; have q1 := (HF.out.cell (p := ⟨ga, oa + i * 5 + 1, none⟩) HGA.out).trans HC1.out; have q2 := (HF.out.cell (p := ⟨ga, oa + i * 5 + 2, none⟩) HGA.out).trans HC2.out; have q3 := (HF.out.cell (p := ⟨ga, oa + i * 5 + 3, none⟩) HGA.out).trans HC3.out; have q4 := (HF.out.cell (p := ⟨ga, oa + i * 5 + 4, none⟩) HGA.out).trans HC4.out; (simp only [Nat.add_zero] at q0)
      obtain ⟨X, ok, vs2, cs2, hX⟩ : ∃ X ok vs2 cs2, applyM vs cs c t k y v = (X, ok, vs2, cs2) := ⟨_, _, _, _, rfl⟩
      obtain ⟨z, hz'⟩ : ∃ z, isNew cs c t k y v = z := ⟨_, rfl⟩
      have HZ := hid hz'
      have HCC := hid hc0; have HTT := hid ht0; have HYY := hid hy0; have HVV := hid hv0; have HX := hid hX
      have H00 := hid (apply_00 hX H00o.out)
      have HS2 := hid (show runM vs2 cs2 (l.drop (i + 1)) = (vs', cs') by have h := HS.out; dsimp only at h; rw [HX.out] at h; exact h)
      have HSO2 := hid (show (told ++ [X]) ++ outM vs2 cs2 (l.drop (i + 1)) = outs by have h := HSO.out; dsimp only at h; rw [HX.out] at h; rw [List.append_assoc]; exact h)
      have HXB := hid (show (Lit.int .u32 X).wf = true by have h := apply_bds HM.out.bv HM.out.bc (c := c) (t := t) (k := k) (y := y) HVV.out; rw [HX.out] at h; exact swf32 h)
      have hil : (i : Int) < (n : Int) := by omega
      have HLT := hid hlt
      have HTI := hid (show i ≤ 80 by omega)
      clear HS HSO hlt hc0 ht0 hk0 hy0 hv0 hX hga hz' H00o hi
      cases ok
      · have hX0 := apply_no HX.out
        subst hX0
        go_wp2_with (first
          | (go_at_call 13; (with_reducible refine (SNew_calls HM.out c t k y v HCC.out.1 z HZ.out).mono ?_); rintro e w4 ⟨rfl, f'⟩; clear q0 q1 q2 q3 q4; have n0_ := hid (HM.out.frm f' (fun h => h)); have n1_ := hid (HR.out.frm f' (fun h => h)); have n2_ := hid (HO.out.frm0 f'); have n3_ := hid (below_frm0 HF.out f'); clear HM HR HO HF; have HM := n0_; clear n0_; have HR := n1_; clear n1_; have HO := n2_; clear n2_; have HF := n3_; clear n3_; clear f'; have q0 := (HF.out.cell (p := ⟨ga, oa + i * 5 + 0, none⟩) HGA.out).trans HC0.out; have q1 := (HF.out.cell (p := ⟨ga, oa + i * 5 + 1, none⟩) HGA.out).trans HC1.out; have q2 := (HF.out.cell (p := ⟨ga, oa + i * 5 + 2, none⟩) HGA.out).trans HC2.out; have q3 := (HF.out.cell (p := ⟨ga, oa + i * 5 + 3, none⟩) HGA.out).trans HC3.out; have q4 := (HF.out.cell (p := ⟨ga, oa + i * 5 + 4, none⟩) HGA.out).trans HC4.out; (simp only [Nat.add_zero] at q0))
          | (go_at_call 16; (with_reducible refine (Peek_any HM.out c t k y v HCC.out.1 HYY.out.1 HVV.out 0 false vs2 cs2 HX.out).mono ?_); rintro e w5 ⟨rfl, f'⟩; clear q0 q1 q2 q3 q4; have n0_ := hid (HM.out.frm f' (fun h => h)); have n1_ := hid (HR.out.frm f' (fun h => h)); have n2_ := hid (HO.out.frm0 f'); have n3_ := hid (below_frm0 HF.out f'); clear HM HR HO HF; have HM := n0_; clear n0_; have HR := n1_; clear n1_; have HO := n2_; clear n2_; have HF := n3_; clear n3_; clear f'; have q0 := (HF.out.cell (p := ⟨ga, oa + i * 5 + 0, none⟩) HGA.out).trans HC0.out; have q1 := (HF.out.cell (p := ⟨ga, oa + i * 5 + 1, none⟩) HGA.out).trans HC1.out; have q2 := (HF.out.cell (p := ⟨ga, oa + i * 5 + 2, none⟩) HGA.out).trans HC2.out; have q3 := (HF.out.cell (p := ⟨ga, oa + i * 5 + 3, none⟩) HGA.out).trans HC3.out; have q4 := (HF.out.cell (p := ⟨ga, oa + i * 5 + 4, none⟩) HGA.out).trans HC4.out; (simp only [Nat.add_zero] at q0))
          | (go_at_call 17; (with_reducible refine (RNew_any HR.out c t k y v HCC.out.1 z HZ.out).mono ?_); rintro e w6 ⟨rfl, f'⟩; clear q0 q1 q2 q3 q4; have n0_ := hid (HM.out.frm f' (fun h => h)); have n1_ := hid (HR.out.frm f' (fun h => h)); have n2_ := hid (HO.out.frm0 f'); have n3_ := hid (below_frm0 HF.out f'); clear HM HR HO HF; have HM := n0_; clear n0_; have HR := n1_; clear n1_; have HO := n2_; clear n2_; have HF := n3_; clear n3_; clear f'; have q0 := (HF.out.cell (p := ⟨ga, oa + i * 5 + 0, none⟩) HGA.out).trans HC0.out; have q1 := (HF.out.cell (p := ⟨ga, oa + i * 5 + 1, none⟩) HGA.out).trans HC1.out; have q2 := (HF.out.cell (p := ⟨ga, oa + i * 5 + 2, none⟩) HGA.out).trans HC2.out; have q3 := (HF.out.cell (p := ⟨ga, oa + i * 5 + 3, none⟩) HGA.out).trans HC3.out; have q4 := (HF.out.cell (p := ⟨ga, oa + i * 5 + 4, none⟩) HGA.out).trans HC4.out; (simp only [Nat.add_zero] at q0))
          | (go_at_call 11; (with_reducible refine (Apply_any HM.out c t k y v HCC.out.1 HTT.out HYY.out.1 HVV.out 0 false vs2 cs2 HX.out).mono ?_); rintro e w7 ⟨rfl, h', f'⟩; clear q0 q1 q2 q3 q4; have n0_ := hid (HR.out.frm f' HRM.out); have n1_ := hid (HO.out.frm f' (fun k hk e => HO.out.off k hk (Nat.le_of_lt (Nat.lt_of_le_of_lt (Nat.le_of_eq e) HMR.out)))); have n2_ := hid (below_frm1 HF.out f' HMB.out); clear HR HO HF; have HR := n0_; clear n0_; have HO := n1_; clear n1_; have HF := n2_; clear n2_; clear HM; have HM := hid h'; clear h' f'; have q0 := (HF.out.cell (p := ⟨ga, oa + i * 5 + 0, none⟩) HGA.out).trans HC0.out; have q1 := (HF.out.cell (p := ⟨ga, oa + i * 5 + 1, none⟩) HGA.out).trans HC1.out; have q2 := (HF.out.cell (p := ⟨ga, oa + i * 5 + 2, none⟩) HGA.out).trans HC2.out; have q3 := (HF.out.cell (p := ⟨ga, oa + i * 5 + 3, none⟩) HGA.out).trans HC3.out; have q4 := (HF.out.cell (p := ⟨ga, oa + i * 5 + 4, none⟩) HGA.out).trans HC4.out; (simp only [Nat.add_zero] at q0))
          | (go_at_call 18; (with_reducible refine (RApply_any HR.out c t k y v HCC.out.1 HTT.out HYY.out.1 HVV.out 0 false vs2 cs2 HX.out).mono ?_); rintro e w8 ⟨rfl, h', f'⟩; clear q0 q1 q2 q3 q4; have n0_ := hid (HM.out.frm f' HMN.out); have n1_ := hid (HO.out.frm f' (fun k hk e => HO.out.off k hk (Nat.le_of_eq e))); have n2_ := hid (below_frm1 HF.out f' HRB.out); clear HM HO HF; have HM := n0_; clear n0_; have HO := n1_; clear n1_; have HF := n2_; clear n2_; clear HR; have HR := hid h'; clear h' f'))
        go_loopw [14] (fun kv wr => ∃ p : Nat, p ≤ 8 ∧ kv = .int .i64 p ∧ IsMap wr mb vs2 cs2 ∧ IsRM wr rb vs2 cs2 ∧ OwnBW wr (fun k => k ≤ rb) (.slice la told.length lc) told ∧ Below w.heap.size w wr) (fun kv _ => 8 - (intOf kv).toNat)
        case atStart => exact ⟨0, by omega, rfl, HM.out, HR.out, HO.out, HF.out⟩
        case round =>
          clear HM HR HO HF
          obtain ⟨p, hp, rfl, hm, hr, ho, hf⟩ := hrel
          have HM := hid hm; have HR := hid hr; have HO := hid ho; have HF := hid hf
          clear hm hr ho hf
          by_cases hpl : p < 8
          · have hpi : (p : Int) < 8 := by omega
            have HP7 := hid (show p ≤ 7 by omega)
            have HPL := hid hpl
            clear hpl hp
            go_wp2_with (fail)
            have HM2 := hid (HM.out.frm (frm_drew wr) (fun h => h)); have HR2 := hid (HR.out.drew); have HO2 := hid (HO.out.frm0 (frm_drew wr)); have HF2 := hid (bdrew HF.out)
            clear HM HR HO HF
            have HM := HM2; have HR := HR2; have HO := HO2; have HF := HF2; clear HM2 HR2 HO2 HF2
            refine wp_region_held_drew (S := fun wx => True) (by kernel_rfl) (by trivial) (fun hHeld => ?_)
            refine wpAnyH_take (i := 0) (oi := ⟨some 95, _, _, _, _, _⟩) (v := ?v8) rfl (by kernel_rfl) (by kernel_rfl) (by kernel_rfl) (fun _ _ _ h => h) (Or.inl ⟨by rfl, ?y8⟩) (by assumption) ?r8
            case y8 => (intro wx hSx; (try dsimp only at hSx); go_simp; (try with_reducible rfl))
            try simp only [Act.put, List.setIfInBounds_toArray, List.set_cons_zero, List.set_cons_succ]
            refine wpAnyH_take (i := 1) (oi := ⟨some 96, _, _, _, _, _⟩) (v := ?v9) rfl (by kernel_rfl) (by kernel_rfl) (by kernel_rfl) (fun _ _ _ h => h) (Or.inl ⟨by rfl, ?y9⟩) (by assumption) ?r9
            case y9 => (intro wx hSx; (try dsimp only at hSx); go_simp; (try with_reducible rfl))
            try simp only [Act.put, List.setIfInBounds_toArray, List.set_cons_zero, List.set_cons_succ]
            refine wpAnyH_take (i := 4) (oi := ⟨some 99, _, _, _, _, _⟩) (v := ?v10) rfl (by kernel_rfl) (by kernel_rfl) (by kernel_rfl) (fun _ _ _ h => h) (Or.inl ⟨by rfl, ?y10⟩) (by assumption) ?r10
            case y10 => (intro wx hSx; (try dsimp only at hSx); go_simp; (try with_reducible rfl))
            try simp only [Act.put, List.setIfInBounds_toArray, List.set_cons_zero, List.set_cons_succ]
            refine wpAnyH_take (i := 5) (oi := ⟨some 100, _, _, _, _, _⟩) (v := ?v11) rfl (by kernel_rfl) (by kernel_rfl) (by kernel_rfl) (fun _ _ _ h => h) (Or.inl ⟨by rfl, ?y11⟩) (by assumption) ?r11
            case y11 => (intro wx hSx; (try dsimp only at hSx); go_simp; (try with_reducible rfl))
            try simp only [Act.put, List.setIfInBounds_toArray, List.set_cons_zero, List.set_cons_succ]
            refine wpAnyH_ready (rs := [2]) (by kernel_rfl) (by simp) ?_
            refine AllReadyH.cons (o := ⟨some 97, _, _, _, _, _⟩) rfl (fun K hK => ?_) AllReadyH.nil
            go_simp
            go_wp2_with ((go_at_call 19; (with_reducible refine (Page_bs HM.out p HP7.out).mono ?_); rintro e w9 ⟨a1, c1, rfl, hi, f'⟩; have HI := hid hi; have n0_ := hid (HM.out.frm f' (fun h => h)); have n1_ := hid (HR.out.frm f' (fun h => h)); have n2_ := hid (HO.out.frm0 f'); have n3_ := hid (below_frm0 HF.out f'); clear HM HR HO HF; have HM := n0_; clear n0_; have HR := n1_; clear n1_; have HO := n2_; clear n2_; have HF := n3_; clear n3_; clear f' hi))
            refine hK.out _ _ ?_ (fun hHeld2 => ?_)
            · ((try dsimp only); (try trivial))
            clear hK K hHeld; have hHeld := hHeld2; clear hHeld2
            try simp only [Act.put, List.setIfInBounds_toArray, List.set_cons_zero, List.set_cons_succ]
            refine wpAnyH_to (S' := fun wx => (convert 22 9 (.slice a1 (pageB vs2 cs2 p).length c1)).run Try.prog wx = .ok (.string (strOfNums (pageB vs2 cs2 p))) wx) (fun _ h => trivial) _ _ _ _ ?_
            have hHeld2 : (fun wx => (convert 22 9 (.slice a1 (pageB vs2 cs2 p).length c1)).run Try.prog wx = .ok (.string (strOfNums (pageB vs2 cs2 p))) wx) _ := conv_of HI.out rfl
            clear hHeld; have hHeld := hHeld2; clear hHeld2; (try dsimp only at hHeld)
            refine wpAnyH_take (i := 3) (oi := ⟨some 98, _, _, _, _, _⟩) (v := ?v12) rfl (by kernel_rfl) (by kernel_rfl) (by kernel_rfl) (fun _ _ _ h => h) (Or.inl ⟨by rfl, ?y12⟩) (by assumption) ?r12
            case y12 => (intro wx hSx; (try dsimp only at hSx); go_simp; (try with_reducible rfl))
            try simp only [Act.put, List.setIfInBounds_toArray, List.set_cons_zero, List.set_cons_succ]
            refine wpAnyH_ready (rs := [6]) (by kernel_rfl) (by simp) ?_
            refine AllReadyH.cons (o := ⟨some 101, _, _, _, _, _⟩) rfl (fun K hK => ?_) AllReadyH.nil
            go_simp
            go_wp2_with ((go_at_call 20; (with_reducible refine (RPage_bs HR.out H00.out p HP7.out).mono ?_); rintro e w10 ⟨a2, c2, rfl, hi, f'⟩; have HI2 := hid hi; have n0_ := hid (HI.out.below f' (Nat.le_refl _)); have n1_ := hid (HM.out.frm (frm0_of f') (fun h => h)); have n2_ := hid (HR.out.frm (frm0_of f') (fun h => h)); have n3_ := hid (HO.out.frm0 (frm0_of f')); have n4_ := hid (below_next HF.out f'); clear HI HM HR HO HF; have HI := n0_; clear n0_; have HM := n1_; clear n1_; have HR := n2_; clear n2_; have HO := n3_; clear n3_; have HF := n4_; clear n4_; clear f' hi))
            refine hK.out _ _ ?_ (fun hHeld2 => ?_)
            · ((try dsimp only); exact conv_of HI.out rfl)
            clear hK K hHeld; have hHeld := hHeld2; clear hHeld2
            try simp only [Act.put, List.setIfInBounds_toArray, List.set_cons_zero, List.set_cons_succ]
            refine wpAnyH_to (S' := fun wx => (convert 22 9 (.slice a1 (pageB vs2 cs2 p).length c1)).run Try.prog wx = .ok (.string (strOfNums (pageB vs2 cs2 p))) wx ∧ (convert 22 9 (.slice a2 (pageB vs2 cs2 p).length c2)).run Try.prog wx = .ok (.string (strOfNums (pageB vs2 cs2 p))) wx) (fun _ h => h.1) _ _ _ _ ?_
            have hHeld2 : (fun wx => (convert 22 9 (.slice a1 (pageB vs2 cs2 p).length c1)).run Try.prog wx = .ok (.string (strOfNums (pageB vs2 cs2 p))) wx ∧ (convert 22 9 (.slice a2 (pageB vs2 cs2 p).length c2)).run Try.prog wx = .ok (.string (strOfNums (pageB vs2 cs2 p))) wx) _ := ⟨conv_of HI.out rfl, conv_of HI2.out rfl⟩
            clear hHeld; have hHeld := hHeld2; clear hHeld2; (try dsimp only at hHeld)
            refine wpAnyH_take (i := 7) (oi := ⟨some 102, _, _, _, _, _⟩) (v := ?v13) rfl (by kernel_rfl) (by kernel_rfl) (by kernel_rfl) (fun _ _ _ h => h) (Or.inl ⟨by rfl, ?y13⟩) (by assumption) ?r13
            case y13 => (intro wx hSx; (try dsimp only at hSx); go_simp; (try with_reducible rfl))
            try simp only [Act.put, List.setIfInBounds_toArray, List.set_cons_zero, List.set_cons_succ]
            refine wpAnyH_take (i := 8) (oi := ⟨some 103, _, _, _, _, _⟩) (v := ?v14) rfl (by kernel_rfl) (by kernel_rfl) (by kernel_rfl) (fun _ _ _ h => h) (Or.inl ⟨by rfl, ?y14⟩) (by assumption) ?r14
            case y14 => (intro wx hSx; (try dsimp only at hSx); go_simp; (try with_reducible rfl))
            try simp only [Act.put, List.setIfInBounds_toArray, List.set_cons_zero, List.set_cons_succ]
            refine wpAnyH_done (by kernel_rfl) ?_ _
            go_wp2
            go_roundw
            case rel => exact ⟨p + 1, by have := HPL.out; omega, by go_num, HM.out, HR.out, HO.out, HF.out⟩
            case measure => simp [intOf]; have := HPL.out; omega
          · have hpi : (8 : Int) ≤ (p : Int) := by omega
            clear hpl hp
            go_wp2_with (first
              | (at_builtin; refine wpList_moreW rfl _ _ rfl rfl (HO.out.frm0 (frm_box _ _)) (fun k hk => by have := HR.out.blk.lt; simp; omega) (sone32 wr 0 TU8W HXB.out) (show ([0] : List Int).length = 1 from rfl) (by have := HTL.out; have := HLT.out; have := HLN.out; omega) rfl rfl ?_; intro a' l' c' w11 ho' hf' hat'; have HM2 := hid ((HM.out.frm (frm_box wr _) (fun h => h)).frm hf' (fun e => HO.out.off _ e (Nat.le_of_lt HMR.out))); have HR2 := hid ((HR.out.frm (frm_box wr _) (fun h => h)).frm hf' (fun e => HO.out.off _ e (Nat.le_refl _))); have HF2 := hid ((HF.out.alloc HF.out.size _).trans (hf'.below (by have := HF.out.size; simp; omega) (fun k hk hn => HO.out.off k hn (Nat.le_of_lt (Nat.lt_of_lt_of_le hk HRB.out))))); clear HF HO HM HR hf' hat'; have HF := HF2; have HM := HM2; have HR := HR2; have HO := hid ho'; clear ho' HF2 HM2 HR2))
            go_roundw
            case rel => exact ⟨i + 1, vs2, cs2, told ++ [0], by have := HLT.out; omega, by go_num, by rw [List.length_append, HTL.out]; rfl, HS2.out, HSO2.out, H00.out, HM.out, HR.out, HO.out, HF.out⟩
            case measure => simp [intOf]; have := HLT.out; omega
      · skip
        go_wp2_with (first
          | (go_at_call 13; (with_reducible refine (SNew_calls HM.out c t k y v HCC.out.1 z HZ.out).mono ?_); rintro e w4 ⟨rfl, f'⟩; clear q0 q1 q2 q3 q4; have n0_ := hid (HM.out.frm f' (fun h => h)); have n1_ := hid (HR.out.frm f' (fun h => h)); have n2_ := hid (HO.out.frm0 f'); have n3_ := hid (below_frm0 HF.out f'); clear HM HR HO HF; have HM := n0_; clear n0_; have HR := n1_; clear n1_; have HO := n2_; clear n2_; have HF := n3_; clear n3_; clear f'; have q0 := (HF.out.cell (p := ⟨ga, oa + i * 5 + 0, none⟩) HGA.out).trans HC0.out; have q1 := (HF.out.cell (p := ⟨ga, oa + i * 5 + 1, none⟩) HGA.out).trans HC1.out; have q2 := (HF.out.cell (p := ⟨ga, oa + i * 5 + 2, none⟩) HGA.out).trans HC2.out; have q3 := (HF.out.cell (p := ⟨ga, oa + i * 5 + 3, none⟩) HGA.out).trans HC3.out; have q4 := (HF.out.cell (p := ⟨ga, oa + i * 5 + 4, none⟩) HGA.out).trans HC4.out; (simp only [Nat.add_zero] at q0))
          | (go_at_call 16; (with_reducible refine (Peek_any HM.out c t k y v HCC.out.1 HYY.out.1 HVV.out X true vs2 cs2 HX.out).mono ?_); rintro e w5 ⟨rfl, f'⟩; clear q0 q1 q2 q3 q4; have n0_ := hid (HM.out.frm f' (fun h => h)); have n1_ := hid (HR.out.frm f' (fun h => h)); have n2_ := hid (HO.out.frm0 f'); have n3_ := hid (below_frm0 HF.out f'); clear HM HR HO HF; have HM := n0_; clear n0_; have HR := n1_; clear n1_; have HO := n2_; clear n2_; have HF := n3_; clear n3_; clear f'; have q0 := (HF.out.cell (p := ⟨ga, oa + i * 5 + 0, none⟩) HGA.out).trans HC0.out; have q1 := (HF.out.cell (p := ⟨ga, oa + i * 5 + 1, none⟩) HGA.out).trans HC1.out; have q2 := (HF.out.cell (p := ⟨ga, oa + i * 5 + 2, none⟩) HGA.out).trans HC2.out; have q3 := (HF.out.cell (p := ⟨ga, oa + i * 5 + 3, none⟩) HGA.out).trans HC3.out; have q4 := (HF.out.cell (p := ⟨ga, oa + i * 5 + 4, none⟩) HGA.out).trans HC4.out; (simp only [Nat.add_zero] at q0))
          | (go_at_call 17; (with_reducible refine (RNew_any HR.out c t k y v HCC.out.1 z HZ.out).mono ?_); rintro e w6 ⟨rfl, f'⟩; clear q0 q1 q2 q3 q4; have n0_ := hid (HM.out.frm f' (fun h => h)); have n1_ := hid (HR.out.frm f' (fun h => h)); have n2_ := hid (HO.out.frm0 f'); have n3_ := hid (below_frm0 HF.out f'); clear HM HR HO HF; have HM := n0_; clear n0_; have HR := n1_; clear n1_; have HO := n2_; clear n2_; have HF := n3_; clear n3_; clear f'; have q0 := (HF.out.cell (p := ⟨ga, oa + i * 5 + 0, none⟩) HGA.out).trans HC0.out; have q1 := (HF.out.cell (p := ⟨ga, oa + i * 5 + 1, none⟩) HGA.out).trans HC1.out; have q2 := (HF.out.cell (p := ⟨ga, oa + i * 5 + 2, none⟩) HGA.out).trans HC2.out; have q3 := (HF.out.cell (p := ⟨ga, oa + i * 5 + 3, none⟩) HGA.out).trans HC3.out; have q4 := (HF.out.cell (p := ⟨ga, oa + i * 5 + 4, none⟩) HGA.out).trans HC4.out; (simp only [Nat.add_zero] at q0))
          | (go_at_call 11; (with_reducible refine (Apply_any HM.out c t k y v HCC.out.1 HTT.out HYY.out.1 HVV.out X true vs2 cs2 HX.out).mono ?_); rintro e w7 ⟨rfl, h', f'⟩; clear q0 q1 q2 q3 q4; have n0_ := hid (HR.out.frm f' HRM.out); have n1_ := hid (HO.out.frm f' (fun k hk e => HO.out.off k hk (Nat.le_of_lt (Nat.lt_of_le_of_lt (Nat.le_of_eq e) HMR.out)))); have n2_ := hid (below_frm1 HF.out f' HMB.out); clear HR HO HF; have HR := n0_; clear n0_; have HO := n1_; clear n1_; have HF := n2_; clear n2_; clear HM; have HM := hid h'; clear h' f'; have q0 := (HF.out.cell (p := ⟨ga, oa + i * 5 + 0, none⟩) HGA.out).trans HC0.out; have q1 := (HF.out.cell (p := ⟨ga, oa + i * 5 + 1, none⟩) HGA.out).trans HC1.out; have q2 := (HF.out.cell (p := ⟨ga, oa + i * 5 + 2, none⟩) HGA.out).trans HC2.out; have q3 := (HF.out.cell (p := ⟨ga, oa + i * 5 + 3, none⟩) HGA.out).trans HC3.out; have q4 := (HF.out.cell (p := ⟨ga, oa + i * 5 + 4, none⟩) HGA.out).trans HC4.out; (simp only [Nat.add_zero] at q0))
          | (go_at_call 18; (with_reducible refine (RApply_any HR.out c t k y v HCC.out.1 HTT.out HYY.out.1 HVV.out X true vs2 cs2 HX.out).mono ?_); rintro e w8 ⟨rfl, h', f'⟩; clear q0 q1 q2 q3 q4; have n0_ := hid (HM.out.frm f' HMN.out); have n1_ := hid (HO.out.frm f' (fun k hk e => HO.out.off k hk (Nat.le_of_eq e))); have n2_ := hid (below_frm1 HF.out f' HRB.out); clear HM HO HF; have HM := n0_; clear n0_; have HO := n1_; clear n1_; have HF := n2_; clear n2_; clear HR; have HR := hid h'; clear h' f'))
        go_loopw [14] (fun kv wr => ∃ p : Nat, p ≤ 8 ∧ kv = .int .i64 p ∧ IsMap wr mb vs2 cs2 ∧ IsRM wr rb vs2 cs2 ∧ OwnBW wr (fun k => k ≤ rb) (.slice la told.length lc) told ∧ Below w.heap.size w wr) (fun kv _ => 8 - (intOf kv).toNat)
        case atStart => exact ⟨0, by omega, rfl, HM.out, HR.out, HO.out, HF.out⟩
        case round =>
          clear HM HR HO HF
          obtain ⟨p, hp, rfl, hm, hr, ho, hf⟩ := hrel
          have HM := hid hm; have HR := hid hr; have HO := hid ho; have HF := hid hf
          clear hm hr ho hf
          by_cases hpl : p < 8
          · have hpi : (p : Int) < 8 := by omega
            have HP7 := hid (show p ≤ 7 by omega)
            have HPL := hid hpl
            clear hpl hp
            go_wp2_with (fail)
            have HM2 := hid (HM.out.frm (frm_drew wr) (fun h => h)); have HR2 := hid (HR.out.drew); have HO2 := hid (HO.out.frm0 (frm_drew wr)); have HF2 := hid (bdrew HF.out)
            clear HM HR HO HF
            have HM := HM2; have HR := HR2; have HO := HO2; have HF := HF2; clear HM2 HR2 HO2 HF2
            refine wp_region_held_drew (S := fun wx => True) (by kernel_rfl) (by trivial) (fun hHeld => ?_)
            refine wpAnyH_take (i := 0) (oi := ⟨some 95, _, _, _, _, _⟩) (v := ?v1) rfl (by kernel_rfl) (by kernel_rfl) (by kernel_rfl) (fun _ _ _ h => h) (Or.inl ⟨by rfl, ?y1⟩) (by assumption) ?r1
            case y1 => (intro wx hSx; (try dsimp only at hSx); go_simp; (try with_reducible rfl))
            try simp only [Act.put, List.setIfInBounds_toArray, List.set_cons_zero, List.set_cons_succ]
            refine wpAnyH_take (i := 1) (oi := ⟨some 96, _, _, _, _, _⟩) (v := ?v2) rfl (by kernel_rfl) (by kernel_rfl) (by kernel_rfl) (fun _ _ _ h => h) (Or.inl ⟨by rfl, ?y2⟩) (by assumption) ?r2
            case y2 => (intro wx hSx; (try dsimp only at hSx); go_simp; (try with_reducible rfl))
            try simp only [Act.put, List.setIfInBounds_toArray, List.set_cons_zero, List.set_cons_succ]
            refine wpAnyH_take (i := 4) (oi := ⟨some 99, _, _, _, _, _⟩) (v := ?v3) rfl (by kernel_rfl) (by kernel_rfl) (by kernel_rfl) (fun _ _ _ h => h) (Or.inl ⟨by rfl, ?y3⟩) (by assumption) ?r3
            case y3 => (intro wx hSx; (try dsimp only at hSx); go_simp; (try with_reducible rfl))
            try simp only [Act.put, List.setIfInBounds_toArray, List.set_cons_zero, List.set_cons_succ]
            refine wpAnyH_take (i := 5) (oi := ⟨some 100, _, _, _, _, _⟩) (v := ?v4) rfl (by kernel_rfl) (by kernel_rfl) (by kernel_rfl) (fun _ _ _ h => h) (Or.inl ⟨by rfl, ?y4⟩) (by assumption) ?r4
            case y4 => (intro wx hSx; (try dsimp only at hSx); go_simp; (try with_reducible rfl))
            try simp only [Act.put, List.setIfInBounds_toArray, List.set_cons_zero, List.set_cons_succ]
            refine wpAnyH_ready (rs := [2]) (by kernel_rfl) (by simp) ?_
            refine AllReadyH.cons (o := ⟨some 97, _, _, _, _, _⟩) rfl (fun K hK => ?_) AllReadyH.nil
            go_simp
            go_wp2_with ((go_at_call 19; (with_reducible refine (Page_bs HM.out p HP7.out).mono ?_); rintro e w9 ⟨a1, c1, rfl, hi, f'⟩; have HI := hid hi; have n0_ := hid (HM.out.frm f' (fun h => h)); have n1_ := hid (HR.out.frm f' (fun h => h)); have n2_ := hid (HO.out.frm0 f'); have n3_ := hid (below_frm0 HF.out f'); clear HM HR HO HF; have HM := n0_; clear n0_; have HR := n1_; clear n1_; have HO := n2_; clear n2_; have HF := n3_; clear n3_; clear f' hi))
            refine hK.out _ _ ?_ (fun hHeld2 => ?_)
            · ((try dsimp only); (try trivial))
            clear hK K hHeld; have hHeld := hHeld2; clear hHeld2
            try simp only [Act.put, List.setIfInBounds_toArray, List.set_cons_zero, List.set_cons_succ]
            refine wpAnyH_to (S' := fun wx => (convert 22 9 (.slice a1 (pageB vs2 cs2 p).length c1)).run Try.prog wx = .ok (.string (strOfNums (pageB vs2 cs2 p))) wx) (fun _ h => trivial) _ _ _ _ ?_
            have hHeld2 : (fun wx => (convert 22 9 (.slice a1 (pageB vs2 cs2 p).length c1)).run Try.prog wx = .ok (.string (strOfNums (pageB vs2 cs2 p))) wx) _ := conv_of HI.out rfl
            clear hHeld; have hHeld := hHeld2; clear hHeld2; (try dsimp only at hHeld)
            refine wpAnyH_take (i := 3) (oi := ⟨some 98, _, _, _, _, _⟩) (v := ?v5) rfl (by kernel_rfl) (by kernel_rfl) (by kernel_rfl) (fun _ _ _ h => h) (Or.inl ⟨by rfl, ?y5⟩) (by assumption) ?r5
            case y5 => (intro wx hSx; (try dsimp only at hSx); go_simp; (try with_reducible rfl))
            try simp only [Act.put, List.setIfInBounds_toArray, List.set_cons_zero, List.set_cons_succ]
            refine wpAnyH_ready (rs := [6]) (by kernel_rfl) (by simp) ?_
            refine AllReadyH.cons (o := ⟨some 101, _, _, _, _, _⟩) rfl (fun K hK => ?_) AllReadyH.nil
            go_simp
            go_wp2_with ((go_at_call 20; (with_reducible refine (RPage_bs HR.out H00.out p HP7.out).mono ?_); rintro e w10 ⟨a2, c2, rfl, hi, f'⟩; have HI2 := hid hi; have n0_ := hid (HI.out.below f' (Nat.le_refl _)); have n1_ := hid (HM.out.frm (frm0_of f') (fun h => h)); have n2_ := hid (HR.out.frm (frm0_of f') (fun h => h)); have n3_ := hid (HO.out.frm0 (frm0_of f')); have n4_ := hid (below_next HF.out f'); clear HI HM HR HO HF; have HI := n0_; clear n0_; have HM := n1_; clear n1_; have HR := n2_; clear n2_; have HO := n3_; clear n3_; have HF := n4_; clear n4_; clear f' hi))
            refine hK.out _ _ ?_ (fun hHeld2 => ?_)
            · ((try dsimp only); exact conv_of HI.out rfl)
            clear hK K hHeld; have hHeld := hHeld2; clear hHeld2
            try simp only [Act.put, List.setIfInBounds_toArray, List.set_cons_zero, List.set_cons_succ]
            refine wpAnyH_to (S' := fun wx => (convert 22 9 (.slice a1 (pageB vs2 cs2 p).length c1)).run Try.prog wx = .ok (.string (strOfNums (pageB vs2 cs2 p))) wx ∧ (convert 22 9 (.slice a2 (pageB vs2 cs2 p).length c2)).run Try.prog wx = .ok (.string (strOfNums (pageB vs2 cs2 p))) wx) (fun _ h => h.1) _ _ _ _ ?_
            have hHeld2 : (fun wx => (convert 22 9 (.slice a1 (pageB vs2 cs2 p).length c1)).run Try.prog wx = .ok (.string (strOfNums (pageB vs2 cs2 p))) wx ∧ (convert 22 9 (.slice a2 (pageB vs2 cs2 p).length c2)).run Try.prog wx = .ok (.string (strOfNums (pageB vs2 cs2 p))) wx) _ := ⟨conv_of HI.out rfl, conv_of HI2.out rfl⟩
            clear hHeld; have hHeld := hHeld2; clear hHeld2; (try dsimp only at hHeld)
            refine wpAnyH_take (i := 7) (oi := ⟨some 102, _, _, _, _, _⟩) (v := ?v6) rfl (by kernel_rfl) (by kernel_rfl) (by kernel_rfl) (fun _ _ _ h => h) (Or.inl ⟨by rfl, ?y6⟩) (by assumption) ?r6
            case y6 => (intro wx hSx; (try dsimp only at hSx); go_simp; (try with_reducible rfl))
            try simp only [Act.put, List.setIfInBounds_toArray, List.set_cons_zero, List.set_cons_succ]
            refine wpAnyH_take (i := 8) (oi := ⟨some 103, _, _, _, _, _⟩) (v := ?v7) rfl (by kernel_rfl) (by kernel_rfl) (by kernel_rfl) (fun _ _ _ h => h) (Or.inl ⟨by rfl, ?y7⟩) (by assumption) ?r7
            case y7 => (intro wx hSx; (try dsimp only at hSx); go_simp; (try with_reducible rfl))
            try simp only [Act.put, List.setIfInBounds_toArray, List.set_cons_zero, List.set_cons_succ]
            refine wpAnyH_done (by kernel_rfl) ?_ _
            go_wp2
            go_roundw
            case rel => exact ⟨p + 1, by have := HPL.out; omega, by go_num, HM.out, HR.out, HO.out, HF.out⟩
            case measure => simp [intOf]; have := HPL.out; omega
          · have hpi : (8 : Int) ≤ (p : Int) := by omega
            clear hpl hp
            go_wp2_with (first
              | (at_builtin; refine wpList_moreW rfl _ _ rfl rfl (HO.out.frm0 (frm_box _ _)) (fun k hk => by have := HR.out.blk.lt; simp; omega) (sone32 wr X TU8W HXB.out) (show ([X] : List Int).length = 1 from rfl) (by have := HTL.out; have := HLT.out; have := HLN.out; omega) rfl rfl ?_; intro a' l' c' w11 ho' hf' hat'; have HM2 := hid ((HM.out.frm (frm_box wr _) (fun h => h)).frm hf' (fun e => HO.out.off _ e (Nat.le_of_lt HMR.out))); have HR2 := hid ((HR.out.frm (frm_box wr _) (fun h => h)).frm hf' (fun e => HO.out.off _ e (Nat.le_refl _))); have HF2 := hid ((HF.out.alloc HF.out.size _).trans (hf'.below (by have := HF.out.size; simp; omega) (fun k hk hn => HO.out.off k hn (Nat.le_of_lt (Nat.lt_of_lt_of_le hk HRB.out))))); clear HF HO HM HR hf' hat'; have HF := HF2; have HM := HM2; have HR := HR2; have HO := hid ho'; clear ho' HF2 HM2 HR2))
            go_roundw
            case rel => exact ⟨i + 1, vs2, cs2, told ++ [X], by have := HLT.out; omega, by go_num, by rw [List.length_append, HTL.out]; rfl, HS2.out, HSO2.out, H00.out, HM.out, HR.out, HO.out, HF.out⟩
            case measure => simp [intOf]; have := HLT.out; omega
    · have hil : (n : Int) ≤ (i : Int) := by omega
      have hdn : l.drop i = [] := List.drop_eq_nil_of_le (by rw [HN.out]; omega)
      have HZF := hid (show (vs, cs) = (vs', cs') from by have h := HRZ.out; rw [hdn] at h; exact h)
      have HZO := hid (show told = outs from by have h := HRO.out; rw [hdn, outM, List.append_nil] at h; exact h)
      have h1 := congrArg Prod.fst HZF.out
      have h2 := congrArg Prod.snd HZF.out
      dsimp only at h1 h2
      rw [h1, h2] at HM
      rw [HZO.out]
      rw [HZO.out] at HO
      obtain ⟨O, hO⟩ : ∃ O, outs.length = O := ⟨_, rfl⟩
      rw [hO]
      rw [hO] at HO
      have HOO := hid hO
      have hOn : O = n := by rw [← hO]; exact HOL.out
      have hO0 : 0 ≤ (O : Int) := by omega
      clear hlt hdn h1 h2 hO HR
      go_wp2_with (first
        | (go_at_call 21; (with_reducible refine (Play_outs (H0.out.bel HF.out) HN.out HLN2.out vs' cs' HRUN.out outs HOUTS.out).mono ?_); rintro e w12 ⟨nb, v9, rfl, hb', h', ho', f'⟩; obtain ⟨la9, lc9, hla9, -, -⟩ := ho'.ints; subst hla9; (rw [HOO.out] at ho' ⊢); have HNM := hid h'; have HOO9 := hid ho'; have n0_ := hid (HM.out.frm (frm0_of f') (fun h => h)); have n1_ := hid (HO.out.frm0 (frm0_of f')); have n2_ := hid (below_next HF.out f'); clear HM HO HF; have HM := n0_; clear n0_; have HO := n1_; clear n1_; have HF := n2_; clear n2_; clear f' hb' h' ho')
        | (go_at_call 15; (with_reducible refine (PSame_calls HNM.out HM.out true (by simp)).mono ?_); rintro e w13 ⟨rfl, f'⟩; have n0_ := hid (HO.out.frm0 f'); have n1_ := hid (HOO9.out.frm0 f'); have n2_ := hid (below_frm0 HF.out f'); clear HO HOO9 HF; have HO := n0_; clear n0_; have HOO9 := n1_; clear n1_; have HF := n2_; clear n2_; clear f' HM HNM))
      obtain ⟨a1, c1, e1, hA, -⟩ := HO.out.ints
      injection e1 with e1 _ e2
      subst e1 e2
      obtain ⟨a1, c1, e1, hB, -⟩ := HOO9.out.ints
      injection e1 with e1 _ e2
      subst e1 e2
      have HA := hid hA; have HB := hid hB
      clear hA hB HO HOO9 HOL
      go_loopw [17] (fun jv wr => ∃ j : Nat, j ≤ O ∧ jv = .int .i64 j ∧ IsInts .u32 wr la lc outs ∧ IsInts .u32 wr la9 lc9 outs ∧ Below w.heap.size w wr) (fun jv _ => O - (intOf jv).toNat)
      case atStart => exact ⟨0, by omega, rfl, HA.out, HB.out, HF.out⟩
      case round =>
        clear HA HB HF
        obtain ⟨j, hj, rfl, hA, hB, hf⟩ := hrel
        have HF := hid hf; have HA := hid hA; have HB := hid hB
        clear hf hA hB
        by_cases hjl : j < O
        · have hji : (j : Int) < (O : Int) := by omega
          obtain ⟨gc, oc, rfl, hgc, hcc⟩ := HA.out.at_ (by rw [HOO.out]; omega)
          obtain ⟨gd, od, rfl, hgd, hcd⟩ := HB.out.at_ (by rw [HOO.out]; omega)
          have q0 := hcc j (by rw [HOO.out]; exact hjl)
          have q1 := hcd j (by rw [HOO.out]; exact hjl)
          have HJL := hid hjl
          clear hcc hcd hjl
          go_wp2
          go_region
          go_wp2
          go_roundw
          case rel => exact ⟨j + 1, by have := HJL.out; omega, by go_num, HA.out.below (bdrew (Below.refl _ _)) (Nat.le_refl _), HB.out.below (bdrew (Below.refl _ _)) (Nat.le_refl _), bdrew HF.out⟩
          case measure => simp [intOf]; have := HJL.out; omega
        · have hji : (O : Int) ≤ (j : Int) := by omega
          clear hjl
          go_wp2
          go_ret
          exact ⟨rfl, HF.out⟩
theorem ServicePlays_walk (a0 : Option Addr) (c0 : Nat) (z0 : List RqX) (w : World) (h0 : SlK c35 w a0 c0 z0) :
    Calls Try.prog 7 #[.slice a0 z0.length c0] w fun e w' => e = .returned (.bool true) ∧ Below w.heap.size w w' :=
  ServicePlays_core a0 c0 z0.length (z0.map toRq) w (IsRqs.of_slk h0) (List.length_map ..)
end Go.Proofs.Ytaeonidjfmlbiaa
