/- check.right, check.Right: is an answer what the list tells. -/
import Derived.Test.YtljfbaakgjmmfaaChkReqs
namespace Go.Proofs.Ytljfbaakgjmmfaa
open Go.RowKit Go.ChangeShapes
set_option linter.unusedVariables false
set_option linter.unusedSimpArgs false
set_option maxRecDepth 100000
abbrev TAn : Nat := 44
def rightF (q : Rq) (x : Int) : List Int → List Int → List Rq → Bool
  | _, _, [] => false
  | vs, cs, r :: l => if r.eqb q = true then isNew cs r.c r.t r.k r.y r.v && (applyM vs cs r.c r.t r.k r.y r.v).1 == x else rightF q x (applyM vs cs r.c r.t r.k r.y r.v).2.2.1 (applyM vs cs r.c r.t r.k r.y r.v).2.2.2 l
abbrev V0 : List Int := List.replicate 64 0
abbrev C0 : List Int := List.replicate 10 0
def anC (q : Rq) (x : Int) : List Value := [.int .u8 q.c, .int .u32 q.t, .int .u8 q.k, .int .u8 q.y, .int .u16 q.v, .int .u32 x]
theorem blk_ne {w : World} {b b' T T' : Nat} {cs cs' : List Value} (h : Blk w b cs T) (h' : Blk w b' cs' T') (hT : T ≠ T') : b ≠ b' := by
  rintro rfl
  unfold Blk at h h'
  rw [h] at h'
  injection h' with h'
  injection h' with h1 h2
  exact hT h2
set_option maxHeartbeats 8000000 in
theorem Rt_calls {w : World} {a : Option Addr} {ca : Nat} {l : List Rq} (h : IsRqs w a ca l) (c' t' k' y' v' x : Int) (z : Bool) (hz : rightF ⟨c', t', k', y', v'⟩ x V0 C0 l = z) :
    Calls Try.prog 21 #[.slice a l.length ca, .agg #[.int .u8 c', .int .u32 t', .int .u8 k', .int .u8 y', .int .u16 v', .int .u32 x]] w fun e w' => e = .returned (.bool z) ∧ Below w.heap.size w w' := by
  have hle := h.le
  have hsm := h.small
  have H0 := hid h; have HZ := hid hz
  clear h hz
  go_enter Try.func21, Try.ntmps21
  go_wp2_with (go_at_call 23; (with_reducible refine (PNew_calls _).mono ?_); rintro e w2 ⟨rfl, h', f'⟩)
  have HB0 := hid ((Blk.new w (anC ⟨c', t', k', y', v'⟩ x) TAn).frm (frm0_of f') (fun h => h))
  have HF0 := hid (below_frm0 ((Below.refl w.heap.size w).alloc (Nat.le_refl _) (.cells (anC ⟨c', t', k', y', v'⟩ x).toArray TAn)) (frm0_of f'))
  have HM0 := hid h'
  clear h' f'
  go_loopw [14] (fun iv wr => ∃ (j : Nat) (vs cs : List Int), j ≤ l.length ∧ iv = .int .i64 j ∧ rightF ⟨c', t', k', y', v'⟩ x vs cs (l.drop j) = z ∧ IsMap wr (w.heap.size + 1) vs cs ∧ Blk wr w.heap.size (anC ⟨c', t', k', y', v'⟩ x) TAn ∧ Below w.heap.size w wr) (fun i _ => l.length - (intOf i).toNat)
  case atStart => exact ⟨0, _, _, by omega, rfl, HZ.out, (by have h := HM0.out; rw [World.size_alloc] at h; exact h), HB0.out, HF0.out⟩
  case round =>
    clear HM0 HB0 HF0
    obtain ⟨j, vs, cs, hj, rfl, hrz, hm, hb, hf⟩ := hrel
    have HRZ := hid hrz; have HF := hid hf; have HM := hid hm; have HB := hid hb
    clear hrz hf hm hb
    by_cases hlt : j < l.length
    · obtain ⟨ga, oa, rfl, hga, hca⟩ := H0.out.at_ (by omega)
      obtain ⟨r, hr⟩ : ∃ r, l[j]? = some r := ⟨l[j]'hlt, List.getElem?_eq_getElem hlt⟩
      have hok := H0.out.ok r (List.mem_of_getElem? hr)
      have q0 := (HF.out.cell (p := ⟨ga, oa + j * 5 + 0, none⟩) hga).trans (hca j r hr 0 (by decide)); have q1 := (HF.out.cell (p := ⟨ga, oa + j * 5 + 1, none⟩) hga).trans (hca j r hr 1 (by decide)); have q2 := (HF.out.cell (p := ⟨ga, oa + j * 5 + 2, none⟩) hga).trans (hca j r hr 2 (by decide)); have q3 := (HF.out.cell (p := ⟨ga, oa + j * 5 + 3, none⟩) hga).trans (hca j r hr 3 (by decide)); have q4 := (HF.out.cell (p := ⟨ga, oa + j * 5 + 4, none⟩) hga).trans (hca j r hr 4 (by decide))
      have hs := HRZ.out
      rw [drop_cons hr, rightF] at hs
      have HS := hid hs; clear hs HRZ hr hca
      obtain ⟨c, t, k, y, v⟩ := r
      obtain ⟨hc0, ht0, hk0, hy0, hv0⟩ := hok
      dsimp only at hc0 ht0 hk0 hy0 hv0
      simp only [rqC, List.getElem?_cons_succ, List.getElem?_cons_zero, Nat.add_zero] at q0 q1 q2 q3 q4
      obtain ⟨e, he⟩ : ∃ e, (c == c' && (t == t' && (k == k' && (y == y' && v == v')))) = e := ⟨_, rfl⟩
      have hqe := fun w => eqlRq w c t k y v c' t' k' y' v' e he
      obtain ⟨nw, hnw⟩ : ∃ nw, isNew cs c t k y v = nw := ⟨_, rfl⟩
      obtain ⟨X, ok, vs2, cs2, hX⟩ : ∃ X ok vs2 cs2, applyM vs cs c t k y v = (X, ok, vs2, cs2) := ⟨_, _, _, _, rfl⟩
      have HCC := hid hc0; have HTT := hid ht0; have HYY := hid hy0; have HVV := hid hv0; have HNW := hid hnw; have HX := hid hX
      have HS2 := hid (show (if e = true then nw && X == x else rightF ⟨c', t', k', y', v'⟩ x vs2 cs2 (l.drop (j + 1))) = z by have h := HS.out; dsimp only at h; rw [HX.out, HNW.out] at h; rw [← he]; exact h)
      have hjl : (j : Int) < (l.length : Int) := by omega
      have HLT := hid hlt
      clear HS he hlt hc0 ht0 hk0 hy0 hv0 hnw hX
      have HGA := hid hga
      cases e
      · have HZF := hid (show rightF ⟨c', t', k', y', v'⟩ x vs2 cs2 (l.drop (j + 1)) = z from (if_neg (by decide)).symm.trans HS2.out)
        clear HS2
        go_wp2_with (first
          | (go_at_call 24; (with_reducible refine (SNew_calls (HM.out.frm (frm_box _ _) (fun h => h)) c t k y v HCC.out.1 _ HNW.out).mono ?_); rintro e w3 ⟨rfl, f'⟩; have n0_ := hid (HM.out.frm ((frm_box _ _).trans f') (fun h => h)); have n1_ := hid (HB.out.frm ((frm_box _ _).trans f') (fun h => h)); have n2_ := hid (below_frm0 HF.out ((frm_box _ _).trans f')); clear HM HB HF; have HM := n0_; clear n0_; have HB := n1_; clear n1_; have HF := n2_; clear n2_; have HR := hid ((Rq_new wr c t k y v).frm f' (fun h => h)); clear f' q0 q1 q2 q3 q4; have r0 := HR.out.cell 0; have r1 := HR.out.cell 1; have r2 := HR.out.cell 2; have r3 := HR.out.cell 3; have r4 := HR.out.cell 4; (simp only [List.getElem?_cons_succ, List.getElem?_cons_zero] at r0 r1 r2 r3 r4))
          | (go_at_call 25; (with_reducible refine (Apply_any HM.out c t k y v HCC.out.1 HTT.out HYY.out.1 HVV.out X ok vs2 cs2 HX.out).mono ?_); rintro e w4 ⟨rfl, h', f'⟩; clear r0 r1 r2 r3 r4; have n0_ := hid (HR.out.frm f' (blk_ne HR.out HM.out.blk (by decide))); have n1_ := hid (HB.out.frm f' (blk_ne HB.out HM.out.blk (by decide))); have n2_ := hid (below_frm1 HF.out f' (Nat.le_succ _)); clear HR HB HF; have HR := n0_; clear n0_; have HB := n1_; clear n1_; have HF := n2_; clear n2_; clear HM; have HM := hid h'; clear h' f'; have r0 := HR.out.cell 0; have r1 := HR.out.cell 1; have r2 := HR.out.cell 2; have r3 := HR.out.cell 3; have r4 := HR.out.cell 4; (simp only [List.getElem?_cons_succ, List.getElem?_cons_zero] at r0 r1 r2 r3 r4); have b0 := HB.out.cell 0; have b1 := HB.out.cell 1; have b2 := HB.out.cell 2; have b3 := HB.out.cell 3; have b4 := HB.out.cell 4; have b5 := HB.out.cell 5; (simp only [anC, List.getElem?_cons_succ, List.getElem?_cons_zero] at b0 b1 b2 b3 b4 b5)))
        go_roundw
        case rel => exact ⟨j + 1, _, _, by have := HLT.out; omega, by go_num, HZF.out, HM.out, HB.out, HF.out⟩
        case measure => simp [intOf]; have := HLT.out; omega
      · have HZF := hid (show (nw && X == x) = z from (if_pos rfl).symm.trans HS2.out)
        clear HS2
        cases nw
        · have HZF2 := hid (show false = z from HZF.out)
          clear HZF
          go_wp2_with (first
            | (go_at_call 24; (with_reducible refine (SNew_calls (HM.out.frm (frm_box _ _) (fun h => h)) c t k y v HCC.out.1 _ HNW.out).mono ?_); rintro e w3 ⟨rfl, f'⟩; have n0_ := hid (HM.out.frm ((frm_box _ _).trans f') (fun h => h)); have n1_ := hid (HB.out.frm ((frm_box _ _).trans f') (fun h => h)); have n2_ := hid (below_frm0 HF.out ((frm_box _ _).trans f')); clear HM HB HF; have HM := n0_; clear n0_; have HB := n1_; clear n1_; have HF := n2_; clear n2_; have HR := hid ((Rq_new wr c t k y v).frm f' (fun h => h)); clear f' q0 q1 q2 q3 q4; have r0 := HR.out.cell 0; have r1 := HR.out.cell 1; have r2 := HR.out.cell 2; have r3 := HR.out.cell 3; have r4 := HR.out.cell 4; (simp only [List.getElem?_cons_succ, List.getElem?_cons_zero] at r0 r1 r2 r3 r4))
            | (go_at_call 25; (with_reducible refine (Apply_any HM.out c t k y v HCC.out.1 HTT.out HYY.out.1 HVV.out X ok vs2 cs2 HX.out).mono ?_); rintro e w4 ⟨rfl, h', f'⟩; clear r0 r1 r2 r3 r4; have n0_ := hid (HR.out.frm f' (blk_ne HR.out HM.out.blk (by decide))); have n1_ := hid (HB.out.frm f' (blk_ne HB.out HM.out.blk (by decide))); have n2_ := hid (below_frm1 HF.out f' (Nat.le_succ _)); clear HR HB HF; have HR := n0_; clear n0_; have HB := n1_; clear n1_; have HF := n2_; clear n2_; clear HM; have HM := hid h'; clear h' f'; have r0 := HR.out.cell 0; have r1 := HR.out.cell 1; have r2 := HR.out.cell 2; have r3 := HR.out.cell 3; have r4 := HR.out.cell 4; (simp only [List.getElem?_cons_succ, List.getElem?_cons_zero] at r0 r1 r2 r3 r4); have b0 := HB.out.cell 0; have b1 := HB.out.cell 1; have b2 := HB.out.cell 2; have b3 := HB.out.cell 3; have b4 := HB.out.cell 4; have b5 := HB.out.cell 5; (simp only [anC, List.getElem?_cons_succ, List.getElem?_cons_zero] at b0 b1 b2 b3 b4 b5)))
          go_ret
          exact ⟨ret_bool HZF2.out, HF.out⟩
        · have HZF2 := hid (show (X == x) = z from (Bool.true_and _).symm.trans HZF.out)
          clear HZF
          go_wp2_with (first
            | (go_at_call 24; (with_reducible refine (SNew_calls (HM.out.frm (frm_box _ _) (fun h => h)) c t k y v HCC.out.1 _ HNW.out).mono ?_); rintro e w3 ⟨rfl, f'⟩; have n0_ := hid (HM.out.frm ((frm_box _ _).trans f') (fun h => h)); have n1_ := hid (HB.out.frm ((frm_box _ _).trans f') (fun h => h)); have n2_ := hid (below_frm0 HF.out ((frm_box _ _).trans f')); clear HM HB HF; have HM := n0_; clear n0_; have HB := n1_; clear n1_; have HF := n2_; clear n2_; have HR := hid ((Rq_new wr c t k y v).frm f' (fun h => h)); clear f' q0 q1 q2 q3 q4; have r0 := HR.out.cell 0; have r1 := HR.out.cell 1; have r2 := HR.out.cell 2; have r3 := HR.out.cell 3; have r4 := HR.out.cell 4; (simp only [List.getElem?_cons_succ, List.getElem?_cons_zero] at r0 r1 r2 r3 r4))
            | (go_at_call 25; (with_reducible refine (Apply_any HM.out c t k y v HCC.out.1 HTT.out HYY.out.1 HVV.out X ok vs2 cs2 HX.out).mono ?_); rintro e w4 ⟨rfl, h', f'⟩; clear r0 r1 r2 r3 r4; have n0_ := hid (HR.out.frm f' (blk_ne HR.out HM.out.blk (by decide))); have n1_ := hid (HB.out.frm f' (blk_ne HB.out HM.out.blk (by decide))); have n2_ := hid (below_frm1 HF.out f' (Nat.le_succ _)); clear HR HB HF; have HR := n0_; clear n0_; have HB := n1_; clear n1_; have HF := n2_; clear n2_; clear HM; have HM := hid h'; clear h' f'; have r0 := HR.out.cell 0; have r1 := HR.out.cell 1; have r2 := HR.out.cell 2; have r3 := HR.out.cell 3; have r4 := HR.out.cell 4; (simp only [List.getElem?_cons_succ, List.getElem?_cons_zero] at r0 r1 r2 r3 r4); have b0 := HB.out.cell 0; have b1 := HB.out.cell 1; have b2 := HB.out.cell 2; have b3 := HB.out.cell 3; have b4 := HB.out.cell 4; have b5 := HB.out.cell 5; (simp only [anC, List.getElem?_cons_succ, List.getElem?_cons_zero] at b0 b1 b2 b3 b4 b5)))
          go_ret
          exact ⟨ret_bool HZF2.out, HF.out⟩
    · have hjl : (l.length : Int) ≤ (j : Int) := by omega
      have HZF := hid (show false = z from by have h := HRZ.out; have e := List.drop_eq_nil_of_le (show l.length ≤ j by omega); rw [e] at h; exact h)
      clear hlt
      go_wp2
      go_ret
      exact ⟨ret_bool HZF.out, HF.out⟩
end Go.Proofs.Ytljfbaakgjmmfaa
