/- 'known' of layer 12 returns true. -/
import Derived.Test.YtijomhinfcahpaaSlot7
namespace Go.Proofs.Ytijomhinfcahpaa
open Go.RowKit Go.ChangeShapes
set_option linter.unusedVariables false
set_option linter.unusedSimpArgs false
set_option maxRecDepth 20000
theorem HPut_calls (w : World) (c t y v : Int) : Calls Try.prog 28 #[.int .u8 c, .int .u32 t, .int .u8 y, .int .u16 v] w fun e w' =>
    e = .returned (.agg #[.int .u8 c, .int .u32 t, .int .u8 1, .int .u8 y, .int .u16 v]) ∧ Frm (fun _ => False) w w' := by
  go_enter Try.func28, Try.ntmps28
  go_wp2
  refine bodyPost_ret (results_cell_row (P := Try.prog) rfl _ _ w.heap.size TRq #[.int .u8 c, .int .u32 t, .int .u8 1, .int .u8 y, .int .u16 v] (0, 0) _ rfl (heap_alloc_new w _) Try.underlying27 rfl (by kernel_rfl)) rfl ?_
  exact ⟨rfl, (Frm.refl _ _).alloc _⟩
def K0 : Int → Sl := fun _ => sl0
def K1 : Int → Sl := accX 4 K0 0 5 1 1 1 2 3
def K2 : Int → Sl := accX 4 K1 0 5 0 0 0 0 0
def K3 : Int → Sl := accX 4 K2 0 13 1 1 1 2 3
def K4 : Int → Sl := sayZ 4 K3 1 0 5 1 1 1 2 3
def K5 : Int → Sl := sayZ 4 K4 2 0 5 1 1 1 2 3
set_option maxHeartbeats 8000000 in
theorem known_calls (w : World) : Calls Try.prog 8 #[] w fun e w' => e = .returned (.bool true) ∧ Below w.heap.size w w' := by
  have C1 := hid (show accC 4 K0 0 5 1 1 1 2 3 = 0 by decide)
  have C2 := hid (show accC 4 K1 0 5 0 0 0 0 0 = 121 by decide)
  have C3 := hid (show accC 4 K2 0 13 1 1 1 2 3 = 120 by decide)
  have C4 := hid (show sayC 4 K3 (0 + 1) 0 5 = 0 by decide)
  have C5 := hid (show sayC 4 K4 (0 + 2) 0 5 = 0 by decide)
  have T3 := hid (show toldS 4 K3 rdyS 5 = false by decide)
  have T5 := hid (show toldS 4 K5 rdyS 5 = true by decide)
  have V5 : (K5 5).acc = ⟨true, 0, 1, 1, 1, 2, 3⟩ := rfl
  have HV := hid V5; clear V5
  have HB := hid (Nat.le_refl w.heap.size)
  have X1 := hid (show accX 4 K0 0 5 1 1 1 2 3 = K1 from rfl); have X2 := hid (show accX 4 K1 0 5 0 0 0 0 0 = K2 from rfl); have X3 := hid (show accX 4 K2 0 13 1 1 1 2 3 = K3 from rfl); have X4 := hid (show sayZ 4 K3 (0 + 1) 0 5 1 1 1 2 3 = K4 from rfl); have X5 := hid (show sayZ 4 K4 (0 + 2) 0 5 1 1 1 2 3 = K5 from rfl)
  go_enter Try.func8, Try.ntmps8
  go_wp2_with (first
    | (go_at_call 9; (with_reducible refine (GNew_calls w 4 (by decide)).mono ?_); rintro e w1 ⟨lb, rfl, hl, hlb, f'⟩; have HL0 := hid (show Lg _ _ _ _ _ K0 from hl); have HF := hid f'; clear hl f' hlb)
    | (go_at_call 28; (with_reducible refine (HPut_calls _ 1 1 2 3).mono ?_); rintro e w2 ⟨rfl, f'⟩; have HL00 := hid (HL0.out.quiet f'); have HF2 := hid (below_frm0 HF.out f'); clear HL0 HF f'; have HF := HF2; clear HF2; have HQ := hid (Blk.new w2 [.int .u8 1, .int .u32 1, .int .u8 1, .int .u8 2, .int .u16 3] TRq); have HF2 := hid (HF.out.alloc HF.out.size (.cells #[.int .u8 1, .int .u32 1, .int .u8 1, .int .u8 2, .int .u16 3] TRq)); clear HF; have HF := HF2; clear HF2; have HLa := hid (HL00.out.quiet (frm_box w2 (.cells #[.int .u8 1, .int .u32 1, .int .u8 1, .int .u8 2, .int .u16 3] TRq))); clear HL00)
    | (go_at_call 10; (with_reducible refine (GAccept_calls HLa.out (by decide) 0 5 1 1 1 2 3 (by decide) (by decide) 0 C1.out K1 X1.out).mono ?_); rintro e w3 ⟨rfl, hl, lf⟩; clear HLa; have HQ2 := hid (lf.blk HQ.out (by simp) (by simp)); have HF2 := hid (lf.below HB.out HF.out); clear HQ HF; have HQ := HQ2; have HF := HF2; clear HQ2 HF2; have HL := hid hl; clear hl lf; have q0 := HQ.out.cell 0; have q1 := HQ.out.cell 1; have q2 := HQ.out.cell 2; have q3 := HQ.out.cell 3; have q4 := HQ.out.cell 4; (simp only [List.getElem?_cons_succ, List.getElem?_cons_zero] at q0 q1 q2 q3 q4); have H1 := HL)
    | (go_at_call 10; (with_reducible refine (GAccept_calls HL.out (by decide) 0 5 0 0 0 0 0 (by decide) (by decide) 121 C2.out K2 X2.out).mono ?_); rintro e w4 ⟨rfl, hl, lf⟩; clear q0 q1 q2 q3 q4; clear HL H1; have HQ2 := hid (lf.blk HQ.out (by simp) (by simp)); have HF2 := hid (lf.below HB.out HF.out); clear HQ HF; have HQ := HQ2; have HF := HF2; clear HQ2 HF2; have HL := hid hl; clear hl lf; have q0 := HQ.out.cell 0; have q1 := HQ.out.cell 1; have q2 := HQ.out.cell 2; have q3 := HQ.out.cell 3; have q4 := HQ.out.cell 4; (simp only [List.getElem?_cons_succ, List.getElem?_cons_zero] at q0 q1 q2 q3 q4))
    | (go_at_call 10; (with_reducible refine (GAccept_calls HL.out (by decide) 0 13 1 1 1 2 3 (by decide) (by decide) 120 C3.out K3 X3.out).mono ?_); rintro e w5 ⟨rfl, hl, lf⟩; clear q0 q1 q2 q3 q4; clear HL; have HQ2 := hid (lf.blk HQ.out (by simp) (by simp)); have HF2 := hid (lf.below HB.out HF.out); clear HQ HF; have HQ := HQ2; have HF := HF2; clear HQ2 HF2; have HL := hid hl; clear hl lf; have q0 := HQ.out.cell 0; have q1 := HQ.out.cell 1; have q2 := HQ.out.cell 2; have q3 := HQ.out.cell 3; have q4 := HQ.out.cell 4; (simp only [List.getElem?_cons_succ, List.getElem?_cons_zero] at q0 q1 q2 q3 q4))
    | (go_at_call 15; (with_reducible refine (GPrepared_false HL.out 5 (by decide) T3.out).mono ?_); rintro e w6 ⟨rfl, f'⟩; clear q0 q1 q2 q3 q4; have HQ2 := hid (HQ.out.frm f' (fun h => h)); have HF2 := hid (below_frm0 HF.out f'); have HL2 := hid (HL.out.quiet f'); clear HQ HF HL f'; have HQ := HQ2; have HF := HF2; have HL := HL2; clear HQ2 HF2 HL2; have HQ2 := hid (HQ.out.alloc (.cells #[.int .u32 0, .int .u32 0, .int .u8 0, .int .u32 0, .int .u8 0, .int .u8 0, .int .u16 0] TEn)); have HF2 := hid (HF.out.alloc HF.out.size (.cells #[.int .u32 0, .int .u32 0, .int .u8 0, .int .u32 0, .int .u8 0, .int .u8 0, .int .u16 0] TEn)); have HL2 := hid (HL.out.quiet (frm_box w6 (.cells #[.int .u32 0, .int .u32 0, .int .u8 0, .int .u32 0, .int .u8 0, .int .u8 0, .int .u16 0] TEn))); clear HQ HF HL; have HQ := HQ2; have HF := HF2; have HL := HL2; clear HQ2 HF2 HL2; have q0 := HQ.out.cell 0; have q1 := HQ.out.cell 1; have q2 := HQ.out.cell 2; have q3 := HQ.out.cell 3; have q4 := HQ.out.cell 4; (simp only [List.getElem?_cons_succ, List.getElem?_cons_zero] at q0 q1 q2 q3 q4))
    | (go_at_call 11; (with_reducible refine (GPrepare_calls HL.out (by decide) 1 (by decide) 1 rfl 0 5 1 1 1 2 3 (by decide) 0 C4.out K4 X4.out).mono ?_); rintro e w7 ⟨rfl, hl, lf⟩; clear q0 q1 q2 q3 q4; clear HL; have HQ2 := hid (lf.blk HQ.out (by simp) (by simp)); have HF2 := hid (lf.below HB.out HF.out); clear HQ HF; have HQ := HQ2; have HF := HF2; clear HQ2 HF2; have HL := hid hl; clear hl lf; have q0 := HQ.out.cell 0; have q1 := HQ.out.cell 1; have q2 := HQ.out.cell 2; have q3 := HQ.out.cell 3; have q4 := HQ.out.cell 4; (simp only [List.getElem?_cons_succ, List.getElem?_cons_zero] at q0 q1 q2 q3 q4))
    | (go_at_call 11; (with_reducible refine (GPrepare_calls HL.out (by decide) 2 (by decide) 2 rfl 0 5 1 1 1 2 3 (by decide) 0 C5.out K5 X5.out).mono ?_); rintro e w8 ⟨rfl, hl, lf⟩; clear q0 q1 q2 q3 q4; clear HL; have HQ2 := hid (lf.blk HQ.out (by simp) (by simp)); have HF2 := hid (lf.below HB.out HF.out); clear HQ HF; have HQ := HQ2; have HF := HF2; clear HQ2 HF2; have HL := hid hl; clear hl lf; have q0 := HQ.out.cell 0; have q1 := HQ.out.cell 1; have q2 := HQ.out.cell 2; have q3 := HQ.out.cell 3; have q4 := HQ.out.cell 4; (simp only [List.getElem?_cons_succ, List.getElem?_cons_zero] at q0 q1 q2 q3 q4))
    | (go_at_call 15; (with_reducible refine (GPrepared_true HL.out 5 (by decide) T5.out).mono ?_); rintro e w9 ⟨rfl, f'⟩; (rw [HV.out]); clear q0 q1 q2 q3 q4; have HQ2 := hid (HQ.out.frm f' (fun h => h)); have HF2 := hid (below_frm0 HF.out f'); have HL2 := hid (HL.out.quiet f'); clear HQ HF HL f'; have HQ := HQ2; have HF := HF2; have HL := HL2; clear HQ2 HF2 HL2; have HQ2 := hid (HQ.out.alloc (.cells #[.int .u32 5, .int .u32 0, .int .u8 1, .int .u32 1, .int .u8 1, .int .u8 2, .int .u16 3] TEn)); have HF2 := hid (HF.out.alloc HF.out.size (.cells #[.int .u32 5, .int .u32 0, .int .u8 1, .int .u32 1, .int .u8 1, .int .u8 2, .int .u16 3] TEn)); clear HQ HF; have HQ := HQ2; have HF := HF2; clear HQ2 HF2; have q0 := HQ.out.cell 0; have q1 := HQ.out.cell 1; have q2 := HQ.out.cell 2; have q3 := HQ.out.cell 3; have q4 := HQ.out.cell 4; (simp only [List.getElem?_cons_succ, List.getElem?_cons_zero] at q0 q1 q2 q3 q4))
    | (go_at_call 14; (with_reducible refine (Primary_calls _ 6 2 (by decide) (by decide)).mono ?_); rintro e w' ⟨rfl, rfl⟩; skip))
  go_ret
  exact ⟨rfl, HF.out⟩
end Go.Proofs.Ytijomhinfcahpaa
