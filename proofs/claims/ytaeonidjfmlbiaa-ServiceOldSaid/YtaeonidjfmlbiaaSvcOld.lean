/- ServiceOld, walked: an elder request tells nothing and does nothing; a younger one is done. -/
import Derived.Test.YtaeonidjfmlbiaaSvcPure
namespace Go.Proofs.Ytaeonidjfmlbiaa
open Go.RowKit Go.ChangeShapes
set_option linter.unusedVariables false
set_option linter.unusedSimpArgs false
set_option maxHeartbeats 8000000 in
theorem ServiceOld_walk (a c key : Int) (w : World) (w0 : (Lit.int .u32 a).wf = true) (w1 : (Lit.int .u32 c).wf = true) (w2 : (Lit.int .u8 key).wf = true) :
    Calls Try.prog 5 #[.int .u32 a, .int .u32 c, .int .u8 key] w fun e w' => e = .returned (.bool true) ∧ Below w.heap.size w w' := by
  have ha := bounds_u32 w0
  have hc := bounds_u32 w1
  have hy := bounds_u8 w2
  clear w0 w1 w2
  by_cases ha0 : a = 0
  · subst ha0
    go_enter Try.func5, Try.ntmps5
    go_wp2_with (go_at_call 8; (with_reducible refine (known_calls _).mono ?_); rintro e w' ⟨rfl, f1⟩)
    go_ret
    exact ⟨rfl, f1⟩
  by_cases hc0 : c = 0
  · subst hc0
    go_enter Try.func5, Try.ntmps5
    go_wp2_with (go_at_call 8; (with_reducible refine (known_calls _).mono ?_); rintro e w' ⟨rfl, f1⟩)
    go_ret
    exact ⟨rfl, f1⟩
  have qa : (a == 0) = false := beq_eq_false_iff_ne.2 ha0
  have qc : (c == 0) = false := beq_eq_false_iff_ne.2 hc0
  obtain ⟨y, hy'⟩ : ∃ y, key % 64 = y := ⟨_, rfl⟩
  have hy0 : 0 ≤ y := by omega
  have hy1 : y < 64 := by omega
  have hr1 : isReal 3 a 1 y 7 = true := decide_eq_true (by omega)
  have hr2 : isReal 3 c 1 y 8 = true := decide_eq_true (by omega)
  have HY0 := hid hy0
  have HA := hid (show 0 ≤ a ∧ a ≤ 4294967295 from ha)
  have HC := hid (show 0 ≤ c ∧ c ≤ 4294967295 from hc)
  have hN1 := hid (isNew_of (cs := List.replicate 10 0) hr1 (by rw [getT_zero]; omega))
  have hx1 := hid (show doesR 1 (getV (List.replicate 64 0) y) 7 = 0 by rw [doesR_put, getV_zero])
  have hz1 := hid (doesV_put (getV (List.replicate 64 0) y) 7)
  obtain ⟨V1, hV1⟩ : ∃ V, putV (List.replicate 64 0) y 7 = V := ⟨_, rfl⟩
  obtain ⟨C1, hC1⟩ : ∃ V, setC (List.replicate 10 0) 3 a 0 = V := ⟨_, rfl⟩
  have hgV : getV V1 y = 7 := by rw [← hV1]; exact getV_put_eq (by decide) hy0 hy1 7
  have hgT : getT C1 3 = a := by rw [← hC1]; exact getT_set_eq (by decide) (by decide) (by decide) a 0
  have hgR : getR C1 3 = 0 := by rw [← hC1]; exact getR_set_eq (by decide) (by decide) (by decide) ha0 0
  have hl1 : V1.length = 64 := by rw [← hV1, putV, if_pos hy1, List.length_set]; decide
  have hc1 : C1.length = 10 := by rw [← hC1, setC, if_pos (by decide), List.length_set, List.length_set]; decide
  have HV1 := hid hV1; have HC1 := hid hC1; clear hV1 hC1
  have HGV := hid hgV; have HGT := hid hgT; have HGR := hid hgR; clear hgV hgT hgR
  rcases Int.lt_trichotomy a c with hac | rfl | hac
  · have hN2 := hid (isNew_of hr2 (by rw [HGT.out]; exact hac))
    have hx2 := hid (show doesR 1 (getV V1 y) 8 = 7 by rw [doesR_put, HGV.out])
    have hz2 := hid (doesV_put (getV V1 y) 8)
    have HT2 := hid (getT_set_eq hc1 (i := 3) (by decide) (by decide) c 7)
    have HG2 := hid (getV_put_eq hl1 hy0 hy1 8)
    go_enter Try.func5, Try.ntmps5
    go_wp2_with (first
      | (go_at_call 8; (with_reducible refine (known_calls _).mono ?_); rintro e w1 ⟨rfl, f1⟩; have HF := hid f1; clear f1)
      | (go_at_call 9; (with_reducible refine (PNew_calls _).mono ?_); rintro e w2 ⟨rfl, h', f'⟩; have HB := hid HF.out.size; have HM := hid h'; have n0_ := hid (below_next HF.out f'); clear HF; have HF := n0_; clear n0_; clear f' h')
      | (go_at_call 11; (with_reducible refine (Apply_new HM.out 3 a 1 y 7 (by decide) HA.out HY0.out (by decide) hN1.out 0 7 hx1.out hz1.out).mono ?_); rintro e w' ⟨rfl, h', f'⟩; (rw [HV1.out, HC1.out] at h'); have n0_ := hid (h'); have n1_ := hid (below_frm1 HF.out f' HB.out); clear HM HF; have HM := n0_; clear n0_; have HF := n1_; clear n1_; clear f' h')
      | (go_at_call 11; (with_reducible refine (Apply_new HM.out 3 c 1 y 8 (by decide) HC.out HY0.out (by decide) hN2.out 7 8 hx2.out hz2.out).mono ?_); rintro e w' ⟨rfl, h', f'⟩; have n0_ := hid (h'); have n1_ := hid (below_frm1 HF.out f' HB.out); clear HM HF; have HM := n0_; clear n0_; have HF := n1_; clear n1_; clear f' h')
      | (go_at_call 12; (with_reducible refine (PClient_calls HM.out 3 (by decide) c _ HT2.out rfl).mono ?_); rintro e w' ⟨rfl, f'⟩; have n0_ := hid (HM.out.frm f' (fun h => h)); have n1_ := hid (below_frm0 HF.out f'); clear HM HF; have HM := n0_; clear n0_; have HF := n1_; clear n1_; clear f')
      | (go_at_call 10; (with_reducible refine (PGet_calls HM.out y HY0.out 8 HG2.out).mono ?_); rintro e w' ⟨rfl, rfl⟩; skip))
    go_ret
    exact ⟨rfl, HF.out⟩
  · have HT2 := HGT
    have HG2 := HGV
    have hR2 := hid hr2
    go_enter Try.func5, Try.ntmps5
    go_wp2_with (first
      | (go_at_call 8; (with_reducible refine (known_calls _).mono ?_); rintro e w1 ⟨rfl, f1⟩; have HF := hid f1; clear f1)
      | (go_at_call 9; (with_reducible refine (PNew_calls _).mono ?_); rintro e w2 ⟨rfl, h', f'⟩; have HB := hid HF.out.size; have HM := hid h'; have n0_ := hid (below_next HF.out f'); clear HF; have HF := n0_; clear n0_; clear f' h')
      | (go_at_call 11; (with_reducible refine (Apply_new HM.out 3 a 1 y 7 (by decide) HA.out HY0.out (by decide) hN1.out 0 7 hx1.out hz1.out).mono ?_); rintro e w' ⟨rfl, h', f'⟩; (rw [HV1.out, HC1.out] at h'); have n0_ := hid (h'); have n1_ := hid (below_frm1 HF.out f' HB.out); clear HM HF; have HM := n0_; clear n0_; have HF := n1_; clear n1_; clear f' h')
      | (go_at_call 11; (with_reducible refine (Apply_same HM.out 3 a 1 y 8 (by decide) HY0.out (by decide) hR2.out HGT.out 0 HGR.out).mono ?_); rintro e w' ⟨rfl, f'⟩; have n0_ := hid (HM.out.frm f' (fun h => h)); have n1_ := hid (below_frm0 HF.out f'); clear HM HF; have HM := n0_; clear n0_; have HF := n1_; clear n1_; clear f')
      | (go_at_call 12; (with_reducible refine (PClient_calls HM.out 3 (by decide) a _ HT2.out rfl).mono ?_); rintro e w' ⟨rfl, f'⟩; have n0_ := hid (HM.out.frm f' (fun h => h)); have n1_ := hid (below_frm0 HF.out f'); clear HM HF; have HM := n0_; clear n0_; have HF := n1_; clear n1_; clear f')
      | (go_at_call 10; (with_reducible refine (PGet_calls HM.out y HY0.out 7 HG2.out).mono ?_); rintro e w' ⟨rfl, rfl⟩; skip))
    go_ret
    exact ⟨rfl, HF.out⟩
  · have hN2 := hid (isNew_not (cs := C1) (c := 3) (t := c) (k := 1) (y := y) (v := 8) (by rw [HGT.out]; omega))
    have hS2 := hid (show ¬ (isReal 3 c 1 y 8 = true ∧ getT C1 3 = c) by rw [HGT.out]; omega)
    have HT2 := HGT
    have HG2 := HGV
    have qca : (c == a) = false := beq_eq_false_iff_ne.2 (by omega)
    go_enter Try.func5, Try.ntmps5
    go_wp2_with (first
      | (go_at_call 8; (with_reducible refine (known_calls _).mono ?_); rintro e w1 ⟨rfl, f1⟩; have HF := hid f1; clear f1)
      | (go_at_call 9; (with_reducible refine (PNew_calls _).mono ?_); rintro e w2 ⟨rfl, h', f'⟩; have HB := hid HF.out.size; have HM := hid h'; have n0_ := hid (below_next HF.out f'); clear HF; have HF := n0_; clear n0_; clear f' h')
      | (go_at_call 11; (with_reducible refine (Apply_new HM.out 3 a 1 y 7 (by decide) HA.out HY0.out (by decide) hN1.out 0 7 hx1.out hz1.out).mono ?_); rintro e w' ⟨rfl, h', f'⟩; (rw [HV1.out, HC1.out] at h'); have n0_ := hid (h'); have n1_ := hid (below_frm1 HF.out f' HB.out); clear HM HF; have HM := n0_; clear n0_; have HF := n1_; clear n1_; clear f' h')
      | (go_at_call 11; (with_reducible refine (Apply_none HM.out 3 c 1 y 8 (by decide) hN2.out hS2.out).mono ?_); rintro e w' ⟨rfl, f'⟩; have n0_ := hid (HM.out.frm f' (fun h => h)); have n1_ := hid (below_frm0 HF.out f'); clear HM HF; have HM := n0_; clear n0_; have HF := n1_; clear n1_; clear f')
      | (go_at_call 12; (with_reducible refine (PClient_calls HM.out 3 (by decide) a _ HT2.out rfl).mono ?_); rintro e w' ⟨rfl, f'⟩; have n0_ := hid (HM.out.frm f' (fun h => h)); have n1_ := hid (below_frm0 HF.out f'); clear HM HF; have HM := n0_; clear n0_; have HF := n1_; clear n1_; clear f')
      | (go_at_call 10; (with_reducible refine (PGet_calls HM.out y HY0.out 7 HG2.out).mono ?_); rintro e w' ⟨rfl, rfl⟩; skip))
    go_ret
    exact ⟨rfl, HF.out⟩
end Go.Proofs.Ytaeonidjfmlbiaa
