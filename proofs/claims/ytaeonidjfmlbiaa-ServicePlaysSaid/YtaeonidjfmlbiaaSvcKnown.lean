/- 'known' of layer 11 returns true. -/
import Derived.Test.YtaeonidjfmlbiaaService
import Derived.Laws.Rows
namespace Go.Proofs.Ytaeonidjfmlbiaa
open Go.RowKit Go.ChangeShapes
set_option linter.unusedVariables false
set_option linter.unusedSimpArgs false
theorem HPut_calls (w : World) (c t y v : Int) : Calls Try.prog 22 #[.int .u8 c, .int .u32 t, .int .u8 y, .int .u16 v] w fun e w' =>
    e = .returned (.agg #[.int .u8 c, .int .u32 t, .int .u8 1, .int .u8 y, .int .u16 v]) ∧ Frm (fun _ => False) w w' := by
  go_enter Try.func22, Try.ntmps22
  go_wp2
  refine bodyPost_ret (results_cell_row (P := Try.prog) rfl _ _ w.heap.size TRq #[.int .u8 c, .int .u32 t, .int .u8 1, .int .u8 y, .int .u16 v] (0, 0) _ rfl (heap_alloc_new w _) Try.underlying35 rfl (by kernel_rfl)) rfl ?_
  exact ⟨rfl, (Frm.refl _ _).alloc _⟩
set_option maxRecDepth 100000 in
set_option maxHeartbeats 8000000 in
theorem known_calls (w : World) : Calls Try.prog 8 #[] w fun e w' => e = .returned (.bool true) ∧ Below w.heap.size w w' := by
  have hN1 := hid (show isNew (List.replicate 10 0) 1 1 1 3 9 = true by decide)
  have hN2 := hid (show isNew (setC (List.replicate 10 0) 1 1 0) 1 2 1 3 4 = true by decide)
  have hN3 := hid (show isNew (setC (setC (List.replicate 10 0) 1 1 0) 1 2 9) 1 1 1 3 9 = false by decide)
  have hN4 := hid (show isNew (setC (setC (List.replicate 10 0) 1 1 0) 1 2 9) 0 0 0 0 0 = false by decide)
  have hS3 := hid (show ¬ (isReal 1 1 1 3 9 = true ∧ getT (setC (setC (List.replicate 10 0) 1 1 0) 1 2 9) 1 = 1) by decide)
  have hT := hid (show getT (setC (setC (List.replicate 10 0) 1 1 0) 1 2 9) 1 = 2 by decide)
  have hR := hid (show getR (setC (setC (List.replicate 10 0) 1 1 0) 1 2 9) 1 = 9 by decide)
  have hL := hid (show isReal 1 2 1 3 7 = true by decide)
  have hG := hid (show getV (putV (putV (List.replicate 64 0) 3 9) 3 4) 3 = 4 by decide)
  have hx1 := hid (show doesR 1 (getV (List.replicate 64 0) 3) 9 = 0 by decide)
  have hz1 := hid (show doesV 1 (getV (List.replicate 64 0) 3) 9 = 9 by decide)
  have hx2 := hid (show doesR 1 (getV (putV (List.replicate 64 0) 3 9) 3) 4 = 9 by decide)
  have hz2 := hid (show doesV 1 (getV (putV (List.replicate 64 0) 3 9) 3) 4 = 4 by decide)
  go_enter Try.func8, Try.ntmps8
  go_wp2_with (first
    | (go_at_call 9; (with_reducible refine (PNew_calls w).mono ?_); rintro e w1 ⟨rfl, h', f'⟩; have HM := hid h'; have HF := hid f'; have HL := hid (h'.blk.lt); clear h' f')
    | (go_at_call 22; (with_reducible refine (HPut_calls _ 1 1 3 9).mono ?_); rintro e w2 ⟨rfl, f'⟩; have HNE := hid (show ¬ w2.heap.size = w.heap.size by have := HL.out; have := f'.size; omega); have n0_ := hid (HM.out.frm f' (fun h => h)); have n1_ := hid (below_frm0 HF.out f'); clear HM HF; have HM := n0_; clear n0_; have HF := n1_; clear n1_; clear f')
    | (go_at_call 11; (with_reducible refine (Apply_new (HM.out.frm (frm_box w2 _) (fun h => h)) 1 1 1 3 9 (by decide) (by decide) (by decide) (by decide) hN1.out 0 9 hx1.out hz1.out).mono ?_); rintro e w3 ⟨rfl, h', f'⟩; have HQ := hid ((Rq_new w2 1 1 1 3 9).frm f' HNE.out); have n0_ := hid (h'); have n1_ := hid (below_frm1 (HF.out.alloc HF.out.size _) f' (Nat.le_refl _)); clear HM HF; have HM := n0_; clear n0_; have HF := n1_; clear n1_; clear f' h'; have q0 := HQ.out.cell 0; have q1 := HQ.out.cell 1; have q2 := HQ.out.cell 2; have q3 := HQ.out.cell 3; have q4 := HQ.out.cell 4; simp only [List.getElem?_cons_succ, List.getElem?_cons_zero] at q0 q1 q2 q3 q4)
    | (go_at_call 22; (with_reducible refine (HPut_calls _ 1 2 3 4).mono ?_); rintro e w' ⟨rfl, f'⟩; clear q0 q1 q2 q3 q4; have n0_ := hid (HM.out.frm f' (fun h => h)); have n1_ := hid (HQ.out.frm f' (fun h => h)); have n2_ := hid (below_frm0 HF.out f'); clear HM HQ HF; have HM := n0_; clear n0_; have HQ := n1_; clear n1_; have HF := n2_; clear n2_; clear f'; have q0 := HQ.out.cell 0; have q1 := HQ.out.cell 1; have q2 := HQ.out.cell 2; have q3 := HQ.out.cell 3; have q4 := HQ.out.cell 4; simp only [List.getElem?_cons_succ, List.getElem?_cons_zero] at q0 q1 q2 q3 q4)
    | (go_at_call 11; (with_reducible refine (Apply_new HM.out 1 2 1 3 4 (by decide) (by decide) (by decide) (by decide) hN2.out 9 4 hx2.out hz2.out).mono ?_); rintro e w' ⟨rfl, h', f'⟩; clear q0 q1 q2 q3 q4; have n0_ := hid (h'); have n1_ := hid (HQ.out.frm f' HNE.out); have n2_ := hid (below_frm1 HF.out f' (Nat.le_refl _)); clear HM HQ HF; have HM := n0_; clear n0_; have HQ := n1_; clear n1_; have HF := n2_; clear n2_; clear f' h'; have q0 := HQ.out.cell 0; have q1 := HQ.out.cell 1; have q2 := HQ.out.cell 2; have q3 := HQ.out.cell 3; have q4 := HQ.out.cell 4; simp only [List.getElem?_cons_succ, List.getElem?_cons_zero] at q0 q1 q2 q3 q4)
    | (go_at_call 22; (with_reducible refine (HPut_calls _ 1 2 3 7).mono ?_); rintro e w' ⟨rfl, f'⟩; clear q0 q1 q2 q3 q4; have n0_ := hid (HM.out.frm f' (fun h => h)); have n1_ := hid (HQ.out.frm f' (fun h => h)); have n2_ := hid (below_frm0 HF.out f'); clear HM HQ HF; have HM := n0_; clear n0_; have HQ := n1_; clear n1_; have HF := n2_; clear n2_; clear f'; have q0 := HQ.out.cell 0; have q1 := HQ.out.cell 1; have q2 := HQ.out.cell 2; have q3 := HQ.out.cell 3; have q4 := HQ.out.cell 4; simp only [List.getElem?_cons_succ, List.getElem?_cons_zero] at q0 q1 q2 q3 q4)
    | (go_at_call 11; (with_reducible refine (Apply_same HM.out 1 2 1 3 7 (by decide) (by decide) (by decide) hL.out hT.out 9 hR.out).mono ?_); rintro e w' ⟨rfl, f'⟩; clear q0 q1 q2 q3 q4; have n0_ := hid (HM.out.frm f' (fun h => h)); have n1_ := hid (HQ.out.frm f' (fun h => h)); have n2_ := hid (below_frm0 HF.out f'); clear HM HQ HF; have HM := n0_; clear n0_; have HQ := n1_; clear n1_; have HF := n2_; clear n2_; clear f'; have q0 := HQ.out.cell 0; have q1 := HQ.out.cell 1; have q2 := HQ.out.cell 2; have q3 := HQ.out.cell 3; have q4 := HQ.out.cell 4; simp only [List.getElem?_cons_succ, List.getElem?_cons_zero] at q0 q1 q2 q3 q4)
    | (go_at_call 11; (with_reducible refine (Apply_none HM.out 1 1 1 3 9 (by decide) hN3.out hS3.out).mono ?_); rintro e w' ⟨rfl, f'⟩; clear q0 q1 q2 q3 q4; have n0_ := hid (HM.out.frm f' (fun h => h)); have n1_ := hid (below_frm0 HF.out f'); clear HM HF; have HM := n0_; clear n0_; have HF := n1_; clear n1_; clear f')
    | (go_at_call 10; (with_reducible refine (PGet_calls HM.out 3 (by decide) 4 hG.out).mono ?_); rintro e w' ⟨rfl, rfl⟩; skip)
    | (go_at_call 13; (with_reducible refine (SNew_calls HM.out 0 0 0 0 0 (by decide) false hN4.out).mono ?_); rintro e w' ⟨rfl, f'⟩; have n0_ := hid (below_frm0 HF.out f'); clear HF; have HF := n0_; clear n0_; clear f'))
  go_ret
  exact ⟨rfl, HF.out⟩
end Go.Proofs.Ytaeonidjfmlbiaa
