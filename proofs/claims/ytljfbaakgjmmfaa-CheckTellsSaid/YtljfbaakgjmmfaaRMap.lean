/- The document's map: New, Apply. -/
import Derived.Test.YtljfbaakgjmmfaaRMapB
import Derived.Test.YtljfbaakgjmmfaaService
import Derived.Test.YtljfbaakgjmmfaaHeld
namespace Go.Proofs.Ytljfbaakgjmmfaa
open Go.RowKit Go.ChangeShapes
set_option linter.unusedVariables false
set_option linter.unusedSimpArgs false
set_option maxRecDepth 20000
set_option maxHeartbeats 4000000 in
theorem RIsReq_calls (w : World) (c t k y v : Int) (z : Bool) (hz : (isNull c t k y v || isReal c t k y v) = z) :
    Calls Try.prog 40 #[.agg #[.int .u8 c, .int .u32 t, .int .u8 k, .int .u8 y, .int .u16 v]] w fun e w' => e = .returned (.bool z) ∧ Frm (fun _ => False) w w' := by
  have HZ := hid hz; clear hz
  go_enter Try.func40, Try.ntmps40
  go_wp2
  all_goals
    go_ret
    refine ⟨ret_bool ?_, by first | exact ((Frm.refl _ _).alloc _).alloc _ | exact (Frm.refl _ _).alloc _⟩
    rw [← HZ.out, Bool.eq_iff_iff]
    simp only [isNull, isReal, Bool.or_eq_true, decide_eq_true_eq, Bool.false_eq_true, true_iff, false_iff, beq_iff_eq, eq_self_iff_true, Bool.and_eq_true, bne_iff_ne]
    omega
theorem RNull_calls (w : World) (c t k y v : Int) (z : Bool) (hz : isNull c t k y v = z) :
    Calls Try.prog 41 #[.agg #[.int .u8 c, .int .u32 t, .int .u8 k, .int .u8 y, .int .u16 v]] w fun e w' => e = .returned (.bool z) ∧ Frm (fun _ => False) w w' := by
  have HZ := hid hz; clear hz
  go_enter Try.func41, Try.ntmps41
  go_wp2
  all_goals
    go_ret
    refine ⟨ret_bool ?_, by first | exact ((Frm.refl _ _).alloc _).alloc _ | exact (Frm.refl _ _).alloc _⟩
    rw [← HZ.out, Bool.eq_iff_iff]
    simp only [isNull, Bool.or_eq_true, decide_eq_true_eq, Bool.false_eq_true, true_iff, false_iff, beq_iff_eq, eq_self_iff_true, Bool.and_eq_true, bne_iff_ne]
    omega
set_option maxHeartbeats 8000000 in
theorem RNew_null {w : World} {b : Nat} {vs cs : List Int} (hm : IsRM w b vs cs) (c t k y v : Int) (hn : isNull c t k y v = true) (hr : isReal c t k y v = false) :
    Calls Try.prog 33 #[.pointer (some ⟨b, 0, none⟩), .agg #[.int .u8 c, .int .u32 t, .int .u8 k, .int .u8 y, .int .u16 v]] w fun e w' => e = .returned (.bool false) ∧ Frm (fun _ => False) w w' := by
  have HQ1 := hid (show (isNull c t k y v || isReal c t k y v) = true by rw [hn, hr]; rfl)
  have HN1 := hid hn
  clear hn hr
  go_enter Try.func33, Try.ntmps33
  go_wp2_with (fail)
  obtain ⟨W1, hW1⟩ : ∃ W1, (w.alloc (.cells #[.int .u8 (c), .int .u32 t, .int .u8 k, .int .u8 y, .int .u16 v] TRq)) = W1 := ⟨_, rfl⟩
  rw [hW1]
  have HQ := hid (show Blk W1.drew w.heap.size [.int .u8 (c), .int .u32 t, .int .u8 k, .int .u8 y, .int .u16 v] TRq from hW1 ▸ (Rq_new w (c) t k y v))
  have HF := hid (show Frm (fun _ => False) w W1.drew from hW1 ▸ (frm_box w _).drew)
  have HM := hid (hm.frm HF.out (fun h => h))
  clear hW1 hm
  generalize w.heap.size = rb at *
  have s0 := HQ.out.cell 0
  have s1 := HQ.out.cell 1
  have s2 := HQ.out.cell 2
  have s3 := HQ.out.cell 3
  have s4 := HQ.out.cell 4
  (simp only [List.getElem?_cons_succ, List.getElem?_cons_zero] at s0 s1 s2 s3 s4)
  refine wp_region_held_drew (S := (fun wx => wx.cell? ⟨rb, 0, none⟩ = some (.int .u8 c) ∧ wx.cell? ⟨rb, 1, none⟩ = some (.int .u32 t) ∧ wx.cell? ⟨rb, 2, none⟩ = some (.int .u8 k) ∧ wx.cell? ⟨rb, 3, none⟩ = some (.int .u8 y) ∧ wx.cell? ⟨rb, 4, none⟩ = some (.int .u16 v))) (by kernel_rfl) ?_ (fun hHeld => ?_)
  · exact ⟨s0, s1, s2, s3, s4⟩
  refine wpAnyH_take (i := 0) (oi := ⟨some 5, _, _, _, _, _⟩) (v := ?v1) rfl (by kernel_rfl) (by kernel_rfl) (by kernel_rfl) (fun _ _ _ h => h) (Or.inl ⟨by rfl, ?y1⟩) (by assumption) ?r1
  case y1 => (intro wx hSx; (try dsimp only at hSx); go_simp; (try with_reducible rfl))
  try simp only [Act.put, List.setIfInBounds_toArray, List.set_cons_zero, List.set_cons_succ]
  refine wpAnyH_ready (rs := [1]) (by kernel_rfl) (by simp) ?_
  refine AllReadyH.cons (o := ⟨some 6, _, _, _, _, _⟩) rfl (fun K hK => ?_) AllReadyH.nil
  go_simp
  go_wp2_with ((go_at_call 40; (with_reducible refine (RIsReq_calls _ c t k y v true HQ1.out).mono ?_); rintro e w9 ⟨rfl, f'⟩; have nQ := hid (HQ.out.frm f' (fun h => h)); have nF := hid (HF.out.trans f'); have nM := hid (HM.out.frm f' (fun h => h)); clear s0 s1 s2 s3 s4; clear f' HQ HF HM; have HQ := nQ; have HF := nF; have HM := nM; clear nQ nF nM; have s0 := HQ.out.cell 0; have s1 := HQ.out.cell 1; have s2 := HQ.out.cell 2; have s3 := HQ.out.cell 3; have s4 := HQ.out.cell 4; (simp only [List.getElem?_cons_succ, List.getElem?_cons_zero] at s0 s1 s2 s3 s4)))
  refine hK.out _ _ ?_ (fun hHeld2 => ?_)
  · ((try dsimp only); first | go_keep | exact ⟨s0, s1, s2, s3, s4⟩)
  clear hK K hHeld; have hHeld := hHeld2; clear hHeld2
  try simp only [Act.put, List.setIfInBounds_toArray, List.set_cons_zero, List.set_cons_succ]
  refine wpAnyH_take (i := 2) (oi := ⟨some 7, _, _, _, _, _⟩) (v := ?v2) rfl (by kernel_rfl) (by kernel_rfl) (by kernel_rfl) (fun _ _ _ h => h) (Or.inl ⟨by rfl, ?y2⟩) (by assumption) ?r2
  case y2 => (intro wx hSx; (try dsimp only at hSx); go_simp; (try with_reducible rfl))
  try simp only [Act.put, List.setIfInBounds_toArray, List.set_cons_zero, List.set_cons_succ]
  refine wpAnyH_take (i := 3) (oi := ⟨some 8, _, _, _, _, _⟩) (v := ?v3) rfl (by kernel_rfl) (by kernel_rfl) (by kernel_rfl) (fun _ _ _ h => h) (Or.inl ⟨by rfl, ?y3⟩) (by assumption) ?r3
  case y3 => (intro wx hSx; (try dsimp only at hSx); go_simp; (try with_reducible rfl))
  try simp only [Act.put, List.setIfInBounds_toArray, List.set_cons_zero, List.set_cons_succ]
  refine wpAnyH_ready (rs := [4]) (by kernel_rfl) (by simp) ?_
  refine AllReadyH.cons (o := ⟨some 9, _, _, _, _, _⟩) rfl (fun K hK => ?_) AllReadyH.nil
  go_simp
  go_wp2_with ((go_at_call 41; (with_reducible refine (RNull_calls _ c t k y v true HN1.out).mono ?_); rintro e w9 ⟨rfl, f'⟩; have nQ := hid (HQ.out.frm f' (fun h => h)); have nF := hid (HF.out.trans f'); have nM := hid (HM.out.frm f' (fun h => h)); clear s0 s1 s2 s3 s4; clear f' HQ HF HM; have HQ := nQ; have HF := nF; have HM := nM; clear nQ nF nM; have s0 := HQ.out.cell 0; have s1 := HQ.out.cell 1; have s2 := HQ.out.cell 2; have s3 := HQ.out.cell 3; have s4 := HQ.out.cell 4; (simp only [List.getElem?_cons_succ, List.getElem?_cons_zero] at s0 s1 s2 s3 s4)))
  refine hK.out _ _ ?_ (fun hHeld2 => ?_)
  · ((try dsimp only); first | go_keep | exact ⟨s0, s1, s2, s3, s4⟩)
  clear hK K hHeld; have hHeld := hHeld2; clear hHeld2
  try simp only [Act.put, List.setIfInBounds_toArray, List.set_cons_zero, List.set_cons_succ]
  refine wpAnyH_take (i := 5) (oi := ⟨some 10, _, _, _, _, _⟩) (v := ?v4) rfl (by kernel_rfl) (by kernel_rfl) (by kernel_rfl) (fun _ _ _ h => h) (Or.inl ⟨by rfl, ?y4⟩) (by assumption) ?r4
  case y4 => (intro wx hSx; (try dsimp only at hSx); go_simp; (try with_reducible rfl))
  try simp only [Act.put, List.setIfInBounds_toArray, List.set_cons_zero, List.set_cons_succ]
  refine wpAnyH_take (i := 6) (oi := ⟨some 11, _, _, _, _, _⟩) (v := ?v5) rfl (by kernel_rfl) (by kernel_rfl) (by kernel_rfl) (fun _ _ _ h => h) (Or.inl ⟨by rfl, ?y5⟩) (by assumption) ?r5
  case y5 => (intro wx hSx; (try dsimp only at hSx); go_simp; (try with_reducible rfl))
  try simp only [Act.put, List.setIfInBounds_toArray, List.set_cons_zero, List.set_cons_succ]
  refine wpAnyH_take (i := 7) (oi := ⟨some 12, _, _, _, _, _⟩) (v := ?v6) rfl (by kernel_rfl) (by kernel_rfl) (by kernel_rfl) (fun _ _ _ h => h) (Or.inl ⟨by rfl, ?y6⟩) (by assumption) ?r6
  case y6 => (intro wx hSx; (try dsimp only at hSx); go_simp; (try with_reducible rfl))
  try simp only [Act.put, List.setIfInBounds_toArray, List.set_cons_zero, List.set_cons_succ]
  refine wpAnyH_take (i := 8) (oi := ⟨some 13, _, _, _, _, _⟩) (v := undef) rfl (by kernel_rfl) (by kernel_rfl) (by kernel_rfl) (fun _ _ _ h => h) (Or.inr ⟨by rfl, rfl⟩) (by assumption) ?_
  try simp only [Act.put, List.setIfInBounds_toArray, List.set_cons_zero, List.set_cons_succ]
  refine wpAnyH_take (i := 9) (oi := ⟨some 14, _, _, _, _, _⟩) (v := undef) rfl (by kernel_rfl) (by kernel_rfl) (by kernel_rfl) (fun _ _ _ h => h) (Or.inr ⟨by rfl, rfl⟩) (by assumption) ?_
  try simp only [Act.put, List.setIfInBounds_toArray, List.set_cons_zero, List.set_cons_succ]
  refine wpAnyH_take (i := 10) (oi := ⟨some 15, _, _, _, _, _⟩) (v := undef) rfl (by kernel_rfl) (by kernel_rfl) (by kernel_rfl) (fun _ _ _ h => h) (Or.inr ⟨by rfl, rfl⟩) (by assumption) ?_
  try simp only [Act.put, List.setIfInBounds_toArray, List.set_cons_zero, List.set_cons_succ]
  refine wpAnyH_take (i := 11) (oi := ⟨some 16, _, _, _, _, _⟩) (v := undef) rfl (by kernel_rfl) (by kernel_rfl) (by kernel_rfl) (fun _ _ _ h => h) (Or.inr ⟨by rfl, rfl⟩) (by assumption) ?_
  try simp only [Act.put, List.setIfInBounds_toArray, List.set_cons_zero, List.set_cons_succ]
  refine wpAnyH_take (i := 12) (oi := ⟨some 17, _, _, _, _, _⟩) (v := undef) rfl (by kernel_rfl) (by kernel_rfl) (by kernel_rfl) (fun _ _ _ h => h) (Or.inr ⟨by rfl, rfl⟩) (by assumption) ?_
  try simp only [Act.put, List.setIfInBounds_toArray, List.set_cons_zero, List.set_cons_succ]
  refine wpAnyH_take (i := 13) (oi := ⟨some 18, _, _, _, _, _⟩) (v := undef) rfl (by kernel_rfl) (by kernel_rfl) (by kernel_rfl) (fun _ _ _ h => h) (Or.inr ⟨by rfl, rfl⟩) (by assumption) ?_
  try simp only [Act.put, List.setIfInBounds_toArray, List.set_cons_zero, List.set_cons_succ]
  refine wpAnyH_take (i := 14) (oi := ⟨some 19, _, _, _, _, _⟩) (v := undef) rfl (by kernel_rfl) (by kernel_rfl) (by kernel_rfl) (fun _ _ _ h => h) (Or.inr ⟨by rfl, rfl⟩) (by assumption) ?_
  try simp only [Act.put, List.setIfInBounds_toArray, List.set_cons_zero, List.set_cons_succ]
  refine wpAnyH_take (i := 15) (oi := ⟨some 20, _, _, _, _, _⟩) (v := undef) rfl (by kernel_rfl) (by kernel_rfl) (by kernel_rfl) (fun _ _ _ h => h) (Or.inr ⟨by rfl, rfl⟩) (by assumption) ?_
  try simp only [Act.put, List.setIfInBounds_toArray, List.set_cons_zero, List.set_cons_succ]
  refine wpAnyH_take (i := 16) (oi := ⟨some 21, _, _, _, _, _⟩) (v := undef) rfl (by kernel_rfl) (by kernel_rfl) (by kernel_rfl) (fun _ _ _ h => h) (Or.inr ⟨by rfl, rfl⟩) (by assumption) ?_
  try simp only [Act.put, List.setIfInBounds_toArray, List.set_cons_zero, List.set_cons_succ]
  refine wpAnyH_take (i := 17) (oi := ⟨some 22, _, _, _, _, _⟩) (v := undef) rfl (by kernel_rfl) (by kernel_rfl) (by kernel_rfl) (fun _ _ _ h => h) (Or.inr ⟨by rfl, rfl⟩) (by assumption) ?_
  try simp only [Act.put, List.setIfInBounds_toArray, List.set_cons_zero, List.set_cons_succ]
  refine wpAnyH_take (i := 18) (oi := ⟨some 23, _, _, _, _, _⟩) (v := ?v7) rfl (by kernel_rfl) (by kernel_rfl) (by kernel_rfl) (fun _ _ _ h => h) (Or.inl ⟨by rfl, ?y7⟩) (by assumption) ?r7
  case y7 => (intro wx hSx; (try dsimp only at hSx); go_simp; (try with_reducible rfl))
  try simp only [Act.put, List.setIfInBounds_toArray, List.set_cons_zero, List.set_cons_succ]
  refine wpAnyH_take (i := 19) (oi := ⟨some 4, _, _, _, _, _⟩) (v := ?v8) rfl (by kernel_rfl) (by kernel_rfl) (by kernel_rfl) (fun _ _ _ h => h) (Or.inl ⟨by rfl, ?y8⟩) (by assumption) ?r8
  case y8 => (intro wx hSx; (try dsimp only at hSx); go_simp; (try with_reducible rfl))
  try simp only [Act.put, List.setIfInBounds_toArray, List.set_cons_zero, List.set_cons_succ]
  refine wpAnyH_done (by kernel_rfl) ?_ _
  go_wp2
  go_ret
  exact ⟨rfl, HF.out⟩
set_option maxHeartbeats 8000000 in
theorem RNew_odd {w : World} {b : Nat} {vs cs : List Int} (hm : IsRM w b vs cs) (c t k y v : Int) (hn : isNull c t k y v = false) (hr : isReal c t k y v = false) :
    Calls Try.prog 33 #[.pointer (some ⟨b, 0, none⟩), .agg #[.int .u8 c, .int .u32 t, .int .u8 k, .int .u8 y, .int .u16 v]] w fun e w' => e = .returned (.bool false) ∧ Frm (fun _ => False) w w' := by
  have HQ1 := hid (show (isNull c t k y v || isReal c t k y v) = false by rw [hn, hr]; rfl)
  clear hn hr
  go_enter Try.func33, Try.ntmps33
  go_wp2_with (fail)
  obtain ⟨W1, hW1⟩ : ∃ W1, (w.alloc (.cells #[.int .u8 (c), .int .u32 t, .int .u8 k, .int .u8 y, .int .u16 v] TRq)) = W1 := ⟨_, rfl⟩
  rw [hW1]
  have HQ := hid (show Blk W1.drew w.heap.size [.int .u8 (c), .int .u32 t, .int .u8 k, .int .u8 y, .int .u16 v] TRq from hW1 ▸ (Rq_new w (c) t k y v))
  have HF := hid (show Frm (fun _ => False) w W1.drew from hW1 ▸ (frm_box w _).drew)
  have HM := hid (hm.frm HF.out (fun h => h))
  clear hW1 hm
  generalize w.heap.size = rb at *
  have s0 := HQ.out.cell 0
  have s1 := HQ.out.cell 1
  have s2 := HQ.out.cell 2
  have s3 := HQ.out.cell 3
  have s4 := HQ.out.cell 4
  (simp only [List.getElem?_cons_succ, List.getElem?_cons_zero] at s0 s1 s2 s3 s4)
  refine wp_region_held_drew (S := (fun wx => wx.cell? ⟨rb, 0, none⟩ = some (.int .u8 c) ∧ wx.cell? ⟨rb, 1, none⟩ = some (.int .u32 t) ∧ wx.cell? ⟨rb, 2, none⟩ = some (.int .u8 k) ∧ wx.cell? ⟨rb, 3, none⟩ = some (.int .u8 y) ∧ wx.cell? ⟨rb, 4, none⟩ = some (.int .u16 v))) (by kernel_rfl) ?_ (fun hHeld => ?_)
  · exact ⟨s0, s1, s2, s3, s4⟩
  refine wpAnyH_take (i := 0) (oi := ⟨some 5, _, _, _, _, _⟩) (v := ?v9) rfl (by kernel_rfl) (by kernel_rfl) (by kernel_rfl) (fun _ _ _ h => h) (Or.inl ⟨by rfl, ?y9⟩) (by assumption) ?r9
  case y9 => (intro wx hSx; (try dsimp only at hSx); go_simp; (try with_reducible rfl))
  try simp only [Act.put, List.setIfInBounds_toArray, List.set_cons_zero, List.set_cons_succ]
  refine wpAnyH_ready (rs := [1]) (by kernel_rfl) (by simp) ?_
  refine AllReadyH.cons (o := ⟨some 6, _, _, _, _, _⟩) rfl (fun K hK => ?_) AllReadyH.nil
  go_simp
  go_wp2_with ((go_at_call 40; (with_reducible refine (RIsReq_calls _ c t k y v false HQ1.out).mono ?_); rintro e w9 ⟨rfl, f'⟩; have nQ := hid (HQ.out.frm f' (fun h => h)); have nF := hid (HF.out.trans f'); have nM := hid (HM.out.frm f' (fun h => h)); clear s0 s1 s2 s3 s4; clear f' HQ HF HM; have HQ := nQ; have HF := nF; have HM := nM; clear nQ nF nM; have s0 := HQ.out.cell 0; have s1 := HQ.out.cell 1; have s2 := HQ.out.cell 2; have s3 := HQ.out.cell 3; have s4 := HQ.out.cell 4; (simp only [List.getElem?_cons_succ, List.getElem?_cons_zero] at s0 s1 s2 s3 s4)))
  refine hK.out _ _ ?_ (fun hHeld2 => ?_)
  · ((try dsimp only); first | go_keep | exact ⟨s0, s1, s2, s3, s4⟩)
  clear hK K hHeld; have hHeld := hHeld2; clear hHeld2
  try simp only [Act.put, List.setIfInBounds_toArray, List.set_cons_zero, List.set_cons_succ]
  refine wpAnyH_take (i := 2) (oi := ⟨some 7, _, _, _, _, _⟩) (v := ?v10) rfl (by kernel_rfl) (by kernel_rfl) (by kernel_rfl) (fun _ _ _ h => h) (Or.inl ⟨by rfl, ?y10⟩) (by assumption) ?r10
  case y10 => (intro wx hSx; (try dsimp only at hSx); go_simp; (try with_reducible rfl))
  try simp only [Act.put, List.setIfInBounds_toArray, List.set_cons_zero, List.set_cons_succ]
  refine wpAnyH_take (i := 3) (oi := ⟨some 8, _, _, _, _, _⟩) (v := undef) rfl (by kernel_rfl) (by kernel_rfl) (by kernel_rfl) (fun _ _ _ h => h) (Or.inr ⟨by rfl, rfl⟩) (by assumption) ?_
  try simp only [Act.put, List.setIfInBounds_toArray, List.set_cons_zero, List.set_cons_succ]
  refine wpAnyH_take (i := 4) (oi := ⟨some 9, _, _, _, _, _⟩) (v := undef) rfl (by kernel_rfl) (by kernel_rfl) (by kernel_rfl) (fun _ _ _ h => h) (Or.inr ⟨by rfl, rfl⟩) (by assumption) ?_
  try simp only [Act.put, List.setIfInBounds_toArray, List.set_cons_zero, List.set_cons_succ]
  refine wpAnyH_take (i := 5) (oi := ⟨some 10, _, _, _, _, _⟩) (v := undef) rfl (by kernel_rfl) (by kernel_rfl) (by kernel_rfl) (fun _ _ _ h => h) (Or.inr ⟨by rfl, rfl⟩) (by assumption) ?_
  try simp only [Act.put, List.setIfInBounds_toArray, List.set_cons_zero, List.set_cons_succ]
  refine wpAnyH_take (i := 6) (oi := ⟨some 11, _, _, _, _, _⟩) (v := ?v11) rfl (by kernel_rfl) (by kernel_rfl) (by kernel_rfl) (fun _ _ _ h => h) (Or.inl ⟨by rfl, ?y11⟩) (by assumption) ?r11
  case y11 => (intro wx hSx; (try dsimp only at hSx); go_simp; (try with_reducible rfl))
  try simp only [Act.put, List.setIfInBounds_toArray, List.set_cons_zero, List.set_cons_succ]
  refine wpAnyH_take (i := 7) (oi := ⟨some 12, _, _, _, _, _⟩) (v := ?v12) rfl (by kernel_rfl) (by kernel_rfl) (by kernel_rfl) (fun _ _ _ h => h) (Or.inl ⟨by rfl, ?y12⟩) (by assumption) ?r12
  case y12 => (intro wx hSx; (try dsimp only at hSx); go_simp; (try with_reducible rfl))
  try simp only [Act.put, List.setIfInBounds_toArray, List.set_cons_zero, List.set_cons_succ]
  refine wpAnyH_take (i := 8) (oi := ⟨some 13, _, _, _, _, _⟩) (v := undef) rfl (by kernel_rfl) (by kernel_rfl) (by kernel_rfl) (fun _ _ _ h => h) (Or.inr ⟨by rfl, rfl⟩) (by assumption) ?_
  try simp only [Act.put, List.setIfInBounds_toArray, List.set_cons_zero, List.set_cons_succ]
  refine wpAnyH_take (i := 9) (oi := ⟨some 14, _, _, _, _, _⟩) (v := undef) rfl (by kernel_rfl) (by kernel_rfl) (by kernel_rfl) (fun _ _ _ h => h) (Or.inr ⟨by rfl, rfl⟩) (by assumption) ?_
  try simp only [Act.put, List.setIfInBounds_toArray, List.set_cons_zero, List.set_cons_succ]
  refine wpAnyH_take (i := 10) (oi := ⟨some 15, _, _, _, _, _⟩) (v := undef) rfl (by kernel_rfl) (by kernel_rfl) (by kernel_rfl) (fun _ _ _ h => h) (Or.inr ⟨by rfl, rfl⟩) (by assumption) ?_
  try simp only [Act.put, List.setIfInBounds_toArray, List.set_cons_zero, List.set_cons_succ]
  refine wpAnyH_take (i := 11) (oi := ⟨some 16, _, _, _, _, _⟩) (v := undef) rfl (by kernel_rfl) (by kernel_rfl) (by kernel_rfl) (fun _ _ _ h => h) (Or.inr ⟨by rfl, rfl⟩) (by assumption) ?_
  try simp only [Act.put, List.setIfInBounds_toArray, List.set_cons_zero, List.set_cons_succ]
  refine wpAnyH_take (i := 12) (oi := ⟨some 17, _, _, _, _, _⟩) (v := undef) rfl (by kernel_rfl) (by kernel_rfl) (by kernel_rfl) (fun _ _ _ h => h) (Or.inr ⟨by rfl, rfl⟩) (by assumption) ?_
  try simp only [Act.put, List.setIfInBounds_toArray, List.set_cons_zero, List.set_cons_succ]
  refine wpAnyH_take (i := 13) (oi := ⟨some 18, _, _, _, _, _⟩) (v := undef) rfl (by kernel_rfl) (by kernel_rfl) (by kernel_rfl) (fun _ _ _ h => h) (Or.inr ⟨by rfl, rfl⟩) (by assumption) ?_
  try simp only [Act.put, List.setIfInBounds_toArray, List.set_cons_zero, List.set_cons_succ]
  refine wpAnyH_take (i := 14) (oi := ⟨some 19, _, _, _, _, _⟩) (v := undef) rfl (by kernel_rfl) (by kernel_rfl) (by kernel_rfl) (fun _ _ _ h => h) (Or.inr ⟨by rfl, rfl⟩) (by assumption) ?_
  try simp only [Act.put, List.setIfInBounds_toArray, List.set_cons_zero, List.set_cons_succ]
  refine wpAnyH_take (i := 15) (oi := ⟨some 20, _, _, _, _, _⟩) (v := undef) rfl (by kernel_rfl) (by kernel_rfl) (by kernel_rfl) (fun _ _ _ h => h) (Or.inr ⟨by rfl, rfl⟩) (by assumption) ?_
  try simp only [Act.put, List.setIfInBounds_toArray, List.set_cons_zero, List.set_cons_succ]
  refine wpAnyH_take (i := 16) (oi := ⟨some 21, _, _, _, _, _⟩) (v := undef) rfl (by kernel_rfl) (by kernel_rfl) (by kernel_rfl) (fun _ _ _ h => h) (Or.inr ⟨by rfl, rfl⟩) (by assumption) ?_
  try simp only [Act.put, List.setIfInBounds_toArray, List.set_cons_zero, List.set_cons_succ]
  refine wpAnyH_take (i := 17) (oi := ⟨some 22, _, _, _, _, _⟩) (v := undef) rfl (by kernel_rfl) (by kernel_rfl) (by kernel_rfl) (fun _ _ _ h => h) (Or.inr ⟨by rfl, rfl⟩) (by assumption) ?_
  try simp only [Act.put, List.setIfInBounds_toArray, List.set_cons_zero, List.set_cons_succ]
  refine wpAnyH_take (i := 18) (oi := ⟨some 23, _, _, _, _, _⟩) (v := ?v13) rfl (by kernel_rfl) (by kernel_rfl) (by kernel_rfl) (fun _ _ _ h => h) (Or.inl ⟨by rfl, ?y13⟩) (by assumption) ?r13
  case y13 => (intro wx hSx; (try dsimp only at hSx); go_simp; (try with_reducible rfl))
  try simp only [Act.put, List.setIfInBounds_toArray, List.set_cons_zero, List.set_cons_succ]
  refine wpAnyH_take (i := 19) (oi := ⟨some 4, _, _, _, _, _⟩) (v := ?v14) rfl (by kernel_rfl) (by kernel_rfl) (by kernel_rfl) (fun _ _ _ h => h) (Or.inl ⟨by rfl, ?y14⟩) (by assumption) ?r14
  case y14 => (intro wx hSx; (try dsimp only at hSx); go_simp; (try with_reducible rfl))
  try simp only [Act.put, List.setIfInBounds_toArray, List.set_cons_zero, List.set_cons_succ]
  refine wpAnyH_done (by kernel_rfl) ?_ _
  go_wp2
  go_ret
  exact ⟨rfl, HF.out⟩
set_option maxHeartbeats 8000000 in
theorem RNew_real {w : World} {b : Nat} {vs cs : List Int} (hm : IsRM w b vs cs) (c t k y v : Int) (hc : 0 ≤ c) (hr : isReal c t k y v = true) (z : Bool) (hz : decide (getT cs c < t) = z) :
    Calls Try.prog 33 #[.pointer (some ⟨b, 0, none⟩), .agg #[.int .u8 c, .int .u32 t, .int .u8 k, .int .u8 y, .int .u16 v]] w fun e w' => e = .returned (.bool z) ∧ Frm (fun _ => False) w w' := by
  obtain ⟨n, rfl⟩ := Int.eq_ofNat_of_zero_le hc
  have hb4 : 1 ≤ (n : Int) ∧ (n : Int) ≤ 4 := by
    rw [isReal, decide_eq_true_eq] at hr
    exact ⟨hr.1, hr.2.1⟩
  have hnn : isNull (n : Int) t k y v = false := by
    rw [isNull]; exact decide_eq_false (fun h => by have := h.1; omega)
  have HQ1 := hid (show (isNull (n : Int) t k y v || isReal (n : Int) t k y v) = true by rw [hnn, hr]; rfl)
  have HN1 := hid hnn
  have hn5 := hid (show n < 5 by omega)
  have hb1 : (n : Int) < 5 := by omega
  have hb0 : (0 : Int) ≤ (n : Int) := by omega
  obtain ⟨T, hT⟩ : ∃ T, cs.getD (n * 2) 0 = T := ⟨_, rfl⟩
  have HT := hid hT
  have hgt : getT cs (n : Int) = T := by rw [getT, if_pos hb4, Int.toNat_natCast]; exact hT
  have HGT := hid hgt
  rw [hgt] at hz
  have HZ := hid hz
  clear hnn hr hc hb4 hgt hT hz
  go_enter Try.func33, Try.ntmps33
  go_wp2_with (fail)
  obtain ⟨W1, hW1⟩ : ∃ W1, (w.alloc (.cells #[.int .u8 ((n : Int)), .int .u32 t, .int .u8 k, .int .u8 y, .int .u16 v] TRq)) = W1 := ⟨_, rfl⟩
  rw [hW1]
  have HQ := hid (show Blk W1.drew w.heap.size [.int .u8 ((n : Int)), .int .u32 t, .int .u8 k, .int .u8 y, .int .u16 v] TRq from hW1 ▸ (Rq_new w ((n : Int)) t k y v))
  have HF := hid (show Frm (fun _ => False) w W1.drew from hW1 ▸ (frm_box w _).drew)
  have HM := hid (hm.frm HF.out (fun h => h))
  clear hW1 hm
  generalize w.heap.size = rb at *
  have s0 := HQ.out.cell 0
  have s1 := HQ.out.cell 1
  have s2 := HQ.out.cell 2
  have s3 := HQ.out.cell 3
  have s4 := HQ.out.cell 4
  (simp only [List.getElem?_cons_succ, List.getElem?_cons_zero] at s0 s1 s2 s3 s4)
  have s5 := HM.out.tm n hn5.out
  rw [HT.out] at s5
  go_region_held3 (fun wx => wx.cell? ⟨rb, 0, none⟩ = some (.int .u8 (n : Int)) ∧ wx.cell? ⟨rb, 1, none⟩ = some (.int .u32 t) ∧ wx.cell? ⟨rb, 2, none⟩ = some (.int .u8 k) ∧ wx.cell? ⟨rb, 3, none⟩ = some (.int .u8 y) ∧ wx.cell? ⟨rb, 4, none⟩ = some (.int .u16 v) ∧ wx.cell? ⟨b, 64 + n, none⟩ = some (.int .u32 T)) (first | go_keep | exact ⟨s0, s1, s2, s3, s4, s5⟩) (first
    | (go_at_call 40; (with_reducible refine (RIsReq_calls _ (n : Int) t k y v true HQ1.out).mono ?_); rintro e w9 ⟨rfl, f'⟩; have nQ := hid (HQ.out.frm f' (fun h => h)); have nF := hid (HF.out.trans f'); have nM := hid (HM.out.frm f' (fun h => h)); clear s0 s1 s2 s3 s4 s5; clear f' HQ HF HM; have HQ := nQ; have HF := nF; have HM := nM; clear nQ nF nM; have s0 := HQ.out.cell 0; have s1 := HQ.out.cell 1; have s2 := HQ.out.cell 2; have s3 := HQ.out.cell 3; have s4 := HQ.out.cell 4; (simp only [List.getElem?_cons_succ, List.getElem?_cons_zero] at s0 s1 s2 s3 s4); have s5 := HM.out.tm n hn5.out; (rw [HT.out] at s5))
    | (go_at_call 41; (with_reducible refine (RNull_calls _ (n : Int) t k y v false HN1.out).mono ?_); rintro e w9 ⟨rfl, f'⟩; have nQ := hid (HQ.out.frm f' (fun h => h)); have nF := hid (HF.out.trans f'); have nM := hid (HM.out.frm f' (fun h => h)); clear s0 s1 s2 s3 s4 s5; clear f' HQ HF HM; have HQ := nQ; have HF := nF; have HM := nM; clear nQ nF nM; have s0 := HQ.out.cell 0; have s1 := HQ.out.cell 1; have s2 := HQ.out.cell 2; have s3 := HQ.out.cell 3; have s4 := HQ.out.cell 4; (simp only [List.getElem?_cons_succ, List.getElem?_cons_zero] at s0 s1 s2 s3 s4); have s5 := HM.out.tm n hn5.out; (rw [HT.out] at s5)))
  go_wp2
  go_ret
  exact ⟨ret_bool HZ.out, HF.out⟩
set_option maxHeartbeats 8000000 in
theorem RApply_null {w : World} {b : Nat} {vs cs : List Int} (hm : IsRM w b vs cs) (c t k y v : Int) (hn : isNull c t k y v = true) (hr : isReal c t k y v = false) :
    Calls Try.prog 26 #[.pointer (some ⟨b, 0, none⟩), .agg #[.int .u8 c, .int .u32 t, .int .u8 k, .int .u8 y, .int .u16 v]] w fun e w' =>  e = .returned (.tuple #[.int .u32 0, .bool false]) ∧ Frm (fun _ => False) w w' := by
  have HQ1 := hid (show (isNull c t k y v || isReal c t k y v) = true by rw [hn, hr]; rfl)
  have HN1 := hid hn
  clear hn hr
  go_enter Try.func26, Try.ntmps26
  go_wp2_with (fail)
  obtain ⟨W1, hW1⟩ : ∃ W1, (w.alloc (.cells #[.int .u8 (c), .int .u32 t, .int .u8 k, .int .u8 y, .int .u16 v] TRq)) = W1 := ⟨_, rfl⟩
  rw [hW1]
  have HQ := hid (show Blk W1.drew w.heap.size [.int .u8 (c), .int .u32 t, .int .u8 k, .int .u8 y, .int .u16 v] TRq from hW1 ▸ (Rq_new w (c) t k y v))
  have HF := hid (show Frm (fun _ => False) w W1.drew from hW1 ▸ (frm_box w _).drew)
  have HM := hid (hm.frm HF.out (fun h => h))
  clear hW1 hm
  generalize w.heap.size = rb at *
  have s0 := HQ.out.cell 0
  have s1 := HQ.out.cell 1
  have s2 := HQ.out.cell 2
  have s3 := HQ.out.cell 3
  have s4 := HQ.out.cell 4
  (simp only [List.getElem?_cons_succ, List.getElem?_cons_zero] at s0 s1 s2 s3 s4)
  refine wp_region_held_drew (S := (fun wx => wx.cell? ⟨rb, 0, none⟩ = some (.int .u8 c) ∧ wx.cell? ⟨rb, 1, none⟩ = some (.int .u32 t) ∧ wx.cell? ⟨rb, 2, none⟩ = some (.int .u8 k) ∧ wx.cell? ⟨rb, 3, none⟩ = some (.int .u8 y) ∧ wx.cell? ⟨rb, 4, none⟩ = some (.int .u16 v))) (by kernel_rfl) ?_ (fun hHeld => ?_)
  · exact ⟨s0, s1, s2, s3, s4⟩
  refine wpAnyH_take (i := 0) (oi := ⟨some 8, _, _, _, _, _⟩) (v := ?v15) rfl (by kernel_rfl) (by kernel_rfl) (by kernel_rfl) (fun _ _ _ h => h) (Or.inl ⟨by rfl, ?y15⟩) (by assumption) ?r15
  case y15 => (intro wx hSx; (try dsimp only at hSx); go_simp; (try with_reducible rfl))
  try simp only [Act.put, List.setIfInBounds_toArray, List.set_cons_zero, List.set_cons_succ]
  refine wpAnyH_ready (rs := [1]) (by kernel_rfl) (by simp) ?_
  refine AllReadyH.cons (o := ⟨some 9, _, _, _, _, _⟩) rfl (fun K hK => ?_) AllReadyH.nil
  go_simp
  go_wp2_with ((go_at_call 40; (with_reducible refine (RIsReq_calls _ c t k y v true HQ1.out).mono ?_); rintro e w9 ⟨rfl, f'⟩; have nQ := hid (HQ.out.frm f' (fun h => h)); have nF := hid (HF.out.trans f'); have nM := hid (HM.out.frm f' (fun h => h)); clear s0 s1 s2 s3 s4; clear f' HQ HF HM; have HQ := nQ; have HF := nF; have HM := nM; clear nQ nF nM; have s0 := HQ.out.cell 0; have s1 := HQ.out.cell 1; have s2 := HQ.out.cell 2; have s3 := HQ.out.cell 3; have s4 := HQ.out.cell 4; (simp only [List.getElem?_cons_succ, List.getElem?_cons_zero] at s0 s1 s2 s3 s4)))
  refine hK.out _ _ ?_ (fun hHeld2 => ?_)
  · ((try dsimp only); first | go_keep | exact ⟨s0, s1, s2, s3, s4⟩)
  clear hK K hHeld; have hHeld := hHeld2; clear hHeld2
  try simp only [Act.put, List.setIfInBounds_toArray, List.set_cons_zero, List.set_cons_succ]
  refine wpAnyH_take (i := 2) (oi := ⟨some 10, _, _, _, _, _⟩) (v := ?v16) rfl (by kernel_rfl) (by kernel_rfl) (by kernel_rfl) (fun _ _ _ h => h) (Or.inl ⟨by rfl, ?y16⟩) (by assumption) ?r16
  case y16 => (intro wx hSx; (try dsimp only at hSx); go_simp; (try with_reducible rfl))
  try simp only [Act.put, List.setIfInBounds_toArray, List.set_cons_zero, List.set_cons_succ]
  refine wpAnyH_take (i := 3) (oi := ⟨some 11, _, _, _, _, _⟩) (v := ?v17) rfl (by kernel_rfl) (by kernel_rfl) (by kernel_rfl) (fun _ _ _ h => h) (Or.inl ⟨by rfl, ?y17⟩) (by assumption) ?r17
  case y17 => (intro wx hSx; (try dsimp only at hSx); go_simp; (try with_reducible rfl))
  try simp only [Act.put, List.setIfInBounds_toArray, List.set_cons_zero, List.set_cons_succ]
  refine wpAnyH_take (i := 4) (oi := ⟨some 12, _, _, _, _, _⟩) (v := ?v18) rfl (by kernel_rfl) (by kernel_rfl) (by kernel_rfl) (fun _ _ _ h => h) (Or.inl ⟨by rfl, ?y18⟩) (by assumption) ?r18
  case y18 => (intro wx hSx; (try dsimp only at hSx); go_simp; (try with_reducible rfl))
  try simp only [Act.put, List.setIfInBounds_toArray, List.set_cons_zero, List.set_cons_succ]
  refine wpAnyH_ready (rs := [5]) (by kernel_rfl) (by simp) ?_
  refine AllReadyH.cons (o := ⟨some 13, _, _, _, _, _⟩) rfl (fun K hK => ?_) AllReadyH.nil
  go_simp
  go_wp2_with ((go_at_call 41; (with_reducible refine (RNull_calls _ c t k y v true HN1.out).mono ?_); rintro e w9 ⟨rfl, f'⟩; have nQ := hid (HQ.out.frm f' (fun h => h)); have nF := hid (HF.out.trans f'); have nM := hid (HM.out.frm f' (fun h => h)); clear s0 s1 s2 s3 s4; clear f' HQ HF HM; have HQ := nQ; have HF := nF; have HM := nM; clear nQ nF nM; have s0 := HQ.out.cell 0; have s1 := HQ.out.cell 1; have s2 := HQ.out.cell 2; have s3 := HQ.out.cell 3; have s4 := HQ.out.cell 4; (simp only [List.getElem?_cons_succ, List.getElem?_cons_zero] at s0 s1 s2 s3 s4)))
  refine hK.out _ _ ?_ (fun hHeld2 => ?_)
  · ((try dsimp only); first | go_keep | exact ⟨s0, s1, s2, s3, s4⟩)
  clear hK K hHeld; have hHeld := hHeld2; clear hHeld2
  try simp only [Act.put, List.setIfInBounds_toArray, List.set_cons_zero, List.set_cons_succ]
  refine wpAnyH_take (i := 6) (oi := ⟨some 14, _, _, _, _, _⟩) (v := ?v19) rfl (by kernel_rfl) (by kernel_rfl) (by kernel_rfl) (fun _ _ _ h => h) (Or.inl ⟨by rfl, ?y19⟩) (by assumption) ?r19
  case y19 => (intro wx hSx; (try dsimp only at hSx); go_simp; (try with_reducible rfl))
  try simp only [Act.put, List.setIfInBounds_toArray, List.set_cons_zero, List.set_cons_succ]
  refine wpAnyH_take (i := 7) (oi := ⟨some 15, _, _, _, _, _⟩) (v := ?v20) rfl (by kernel_rfl) (by kernel_rfl) (by kernel_rfl) (fun _ _ _ h => h) (Or.inl ⟨by rfl, ?y20⟩) (by assumption) ?r20
  case y20 => (intro wx hSx; (try dsimp only at hSx); go_simp; (try with_reducible rfl))
  try simp only [Act.put, List.setIfInBounds_toArray, List.set_cons_zero, List.set_cons_succ]
  refine wpAnyH_take (i := 8) (oi := ⟨some 16, _, _, _, _, _⟩) (v := undef) rfl (by kernel_rfl) (by kernel_rfl) (by kernel_rfl) (fun _ _ _ h => h) (Or.inr ⟨by rfl, rfl⟩) (by assumption) ?_
  try simp only [Act.put, List.setIfInBounds_toArray, List.set_cons_zero, List.set_cons_succ]
  refine wpAnyH_take (i := 9) (oi := ⟨some 17, _, _, _, _, _⟩) (v := undef) rfl (by kernel_rfl) (by kernel_rfl) (by kernel_rfl) (fun _ _ _ h => h) (Or.inr ⟨by rfl, rfl⟩) (by assumption) ?_
  try simp only [Act.put, List.setIfInBounds_toArray, List.set_cons_zero, List.set_cons_succ]
  refine wpAnyH_take (i := 10) (oi := ⟨some 18, _, _, _, _, _⟩) (v := undef) rfl (by kernel_rfl) (by kernel_rfl) (by kernel_rfl) (fun _ _ _ h => h) (Or.inr ⟨by rfl, rfl⟩) (by assumption) ?_
  try simp only [Act.put, List.setIfInBounds_toArray, List.set_cons_zero, List.set_cons_succ]
  refine wpAnyH_take (i := 11) (oi := ⟨some 19, _, _, _, _, _⟩) (v := undef) rfl (by kernel_rfl) (by kernel_rfl) (by kernel_rfl) (fun _ _ _ h => h) (Or.inr ⟨by rfl, rfl⟩) (by assumption) ?_
  try simp only [Act.put, List.setIfInBounds_toArray, List.set_cons_zero, List.set_cons_succ]
  refine wpAnyH_take (i := 12) (oi := ⟨some 20, _, _, _, _, _⟩) (v := undef) rfl (by kernel_rfl) (by kernel_rfl) (by kernel_rfl) (fun _ _ _ h => h) (Or.inr ⟨by rfl, rfl⟩) (by assumption) ?_
  try simp only [Act.put, List.setIfInBounds_toArray, List.set_cons_zero, List.set_cons_succ]
  refine wpAnyH_take (i := 13) (oi := ⟨some 21, _, _, _, _, _⟩) (v := undef) rfl (by kernel_rfl) (by kernel_rfl) (by kernel_rfl) (fun _ _ _ h => h) (Or.inr ⟨by rfl, rfl⟩) (by assumption) ?_
  try simp only [Act.put, List.setIfInBounds_toArray, List.set_cons_zero, List.set_cons_succ]
  refine wpAnyH_take (i := 14) (oi := ⟨some 22, _, _, _, _, _⟩) (v := undef) rfl (by kernel_rfl) (by kernel_rfl) (by kernel_rfl) (fun _ _ _ h => h) (Or.inr ⟨by rfl, rfl⟩) (by assumption) ?_
  try simp only [Act.put, List.setIfInBounds_toArray, List.set_cons_zero, List.set_cons_succ]
  refine wpAnyH_take (i := 15) (oi := ⟨some 23, _, _, _, _, _⟩) (v := undef) rfl (by kernel_rfl) (by kernel_rfl) (by kernel_rfl) (fun _ _ _ h => h) (Or.inr ⟨by rfl, rfl⟩) (by assumption) ?_
  try simp only [Act.put, List.setIfInBounds_toArray, List.set_cons_zero, List.set_cons_succ]
  refine wpAnyH_take (i := 16) (oi := ⟨some 24, _, _, _, _, _⟩) (v := undef) rfl (by kernel_rfl) (by kernel_rfl) (by kernel_rfl) (fun _ _ _ h => h) (Or.inr ⟨by rfl, rfl⟩) (by assumption) ?_
  try simp only [Act.put, List.setIfInBounds_toArray, List.set_cons_zero, List.set_cons_succ]
  refine wpAnyH_take (i := 17) (oi := ⟨some 25, _, _, _, _, _⟩) (v := undef) rfl (by kernel_rfl) (by kernel_rfl) (by kernel_rfl) (fun _ _ _ h => h) (Or.inr ⟨by rfl, rfl⟩) (by assumption) ?_
  try simp only [Act.put, List.setIfInBounds_toArray, List.set_cons_zero, List.set_cons_succ]
  refine wpAnyH_take (i := 18) (oi := ⟨some 26, _, _, _, _, _⟩) (v := ?v21) rfl (by kernel_rfl) (by kernel_rfl) (by kernel_rfl) (fun _ _ _ h => h) (Or.inl ⟨by rfl, ?y21⟩) (by assumption) ?r21
  case y21 => (intro wx hSx; (try dsimp only at hSx); go_simp; (try with_reducible rfl))
  try simp only [Act.put, List.setIfInBounds_toArray, List.set_cons_zero, List.set_cons_succ]
  refine wpAnyH_done (by kernel_rfl) ?_ _
  go_wp2
  go_ret2
  exact ⟨rfl, HF.out⟩
set_option maxHeartbeats 8000000 in
theorem RApply_odd {w : World} {b : Nat} {vs cs : List Int} (hm : IsRM w b vs cs) (c t k y v : Int) (hn : isNull c t k y v = false) (hr : isReal c t k y v = false) :
    Calls Try.prog 26 #[.pointer (some ⟨b, 0, none⟩), .agg #[.int .u8 c, .int .u32 t, .int .u8 k, .int .u8 y, .int .u16 v]] w fun e w' =>  e = .returned (.tuple #[.int .u32 0, .bool false]) ∧ Frm (fun _ => False) w w' := by
  have HQ1 := hid (show (isNull c t k y v || isReal c t k y v) = false by rw [hn, hr]; rfl)
  clear hn hr
  go_enter Try.func26, Try.ntmps26
  go_wp2_with (fail)
  obtain ⟨W1, hW1⟩ : ∃ W1, (w.alloc (.cells #[.int .u8 (c), .int .u32 t, .int .u8 k, .int .u8 y, .int .u16 v] TRq)) = W1 := ⟨_, rfl⟩
  rw [hW1]
  have HQ := hid (show Blk W1.drew w.heap.size [.int .u8 (c), .int .u32 t, .int .u8 k, .int .u8 y, .int .u16 v] TRq from hW1 ▸ (Rq_new w (c) t k y v))
  have HF := hid (show Frm (fun _ => False) w W1.drew from hW1 ▸ (frm_box w _).drew)
  have HM := hid (hm.frm HF.out (fun h => h))
  clear hW1 hm
  generalize w.heap.size = rb at *
  have s0 := HQ.out.cell 0
  have s1 := HQ.out.cell 1
  have s2 := HQ.out.cell 2
  have s3 := HQ.out.cell 3
  have s4 := HQ.out.cell 4
  (simp only [List.getElem?_cons_succ, List.getElem?_cons_zero] at s0 s1 s2 s3 s4)
  refine wp_region_held_drew (S := (fun wx => wx.cell? ⟨rb, 0, none⟩ = some (.int .u8 c) ∧ wx.cell? ⟨rb, 1, none⟩ = some (.int .u32 t) ∧ wx.cell? ⟨rb, 2, none⟩ = some (.int .u8 k) ∧ wx.cell? ⟨rb, 3, none⟩ = some (.int .u8 y) ∧ wx.cell? ⟨rb, 4, none⟩ = some (.int .u16 v))) (by kernel_rfl) ?_ (fun hHeld => ?_)
  · exact ⟨s0, s1, s2, s3, s4⟩
  refine wpAnyH_take (i := 0) (oi := ⟨some 8, _, _, _, _, _⟩) (v := ?v22) rfl (by kernel_rfl) (by kernel_rfl) (by kernel_rfl) (fun _ _ _ h => h) (Or.inl ⟨by rfl, ?y22⟩) (by assumption) ?r22
  case y22 => (intro wx hSx; (try dsimp only at hSx); go_simp; (try with_reducible rfl))
  try simp only [Act.put, List.setIfInBounds_toArray, List.set_cons_zero, List.set_cons_succ]
  refine wpAnyH_ready (rs := [1]) (by kernel_rfl) (by simp) ?_
  refine AllReadyH.cons (o := ⟨some 9, _, _, _, _, _⟩) rfl (fun K hK => ?_) AllReadyH.nil
  go_simp
  go_wp2_with ((go_at_call 40; (with_reducible refine (RIsReq_calls _ c t k y v false HQ1.out).mono ?_); rintro e w9 ⟨rfl, f'⟩; have nQ := hid (HQ.out.frm f' (fun h => h)); have nF := hid (HF.out.trans f'); have nM := hid (HM.out.frm f' (fun h => h)); clear s0 s1 s2 s3 s4; clear f' HQ HF HM; have HQ := nQ; have HF := nF; have HM := nM; clear nQ nF nM; have s0 := HQ.out.cell 0; have s1 := HQ.out.cell 1; have s2 := HQ.out.cell 2; have s3 := HQ.out.cell 3; have s4 := HQ.out.cell 4; (simp only [List.getElem?_cons_succ, List.getElem?_cons_zero] at s0 s1 s2 s3 s4)))
  refine hK.out _ _ ?_ (fun hHeld2 => ?_)
  · ((try dsimp only); first | go_keep | exact ⟨s0, s1, s2, s3, s4⟩)
  clear hK K hHeld; have hHeld := hHeld2; clear hHeld2
  try simp only [Act.put, List.setIfInBounds_toArray, List.set_cons_zero, List.set_cons_succ]
  refine wpAnyH_take (i := 2) (oi := ⟨some 10, _, _, _, _, _⟩) (v := ?v23) rfl (by kernel_rfl) (by kernel_rfl) (by kernel_rfl) (fun _ _ _ h => h) (Or.inl ⟨by rfl, ?y23⟩) (by assumption) ?r23
  case y23 => (intro wx hSx; (try dsimp only at hSx); go_simp; (try with_reducible rfl))
  try simp only [Act.put, List.setIfInBounds_toArray, List.set_cons_zero, List.set_cons_succ]
  refine wpAnyH_take (i := 3) (oi := ⟨some 11, _, _, _, _, _⟩) (v := ?v24) rfl (by kernel_rfl) (by kernel_rfl) (by kernel_rfl) (fun _ _ _ h => h) (Or.inl ⟨by rfl, ?y24⟩) (by assumption) ?r24
  case y24 => (intro wx hSx; (try dsimp only at hSx); go_simp; (try with_reducible rfl))
  try simp only [Act.put, List.setIfInBounds_toArray, List.set_cons_zero, List.set_cons_succ]
  refine wpAnyH_take (i := 4) (oi := ⟨some 12, _, _, _, _, _⟩) (v := undef) rfl (by kernel_rfl) (by kernel_rfl) (by kernel_rfl) (fun _ _ _ h => h) (Or.inr ⟨by rfl, rfl⟩) (by assumption) ?_
  try simp only [Act.put, List.setIfInBounds_toArray, List.set_cons_zero, List.set_cons_succ]
  refine wpAnyH_take (i := 5) (oi := ⟨some 13, _, _, _, _, _⟩) (v := undef) rfl (by kernel_rfl) (by kernel_rfl) (by kernel_rfl) (fun _ _ _ h => h) (Or.inr ⟨by rfl, rfl⟩) (by assumption) ?_
  try simp only [Act.put, List.setIfInBounds_toArray, List.set_cons_zero, List.set_cons_succ]
  refine wpAnyH_take (i := 6) (oi := ⟨some 14, _, _, _, _, _⟩) (v := ?v25) rfl (by kernel_rfl) (by kernel_rfl) (by kernel_rfl) (fun _ _ _ h => h) (Or.inl ⟨by rfl, ?y25⟩) (by assumption) ?r25
  case y25 => (intro wx hSx; (try dsimp only at hSx); go_simp; (try with_reducible rfl))
  try simp only [Act.put, List.setIfInBounds_toArray, List.set_cons_zero, List.set_cons_succ]
  refine wpAnyH_take (i := 7) (oi := ⟨some 15, _, _, _, _, _⟩) (v := ?v26) rfl (by kernel_rfl) (by kernel_rfl) (by kernel_rfl) (fun _ _ _ h => h) (Or.inl ⟨by rfl, ?y26⟩) (by assumption) ?r26
  case y26 => (intro wx hSx; (try dsimp only at hSx); go_simp; (try with_reducible rfl))
  try simp only [Act.put, List.setIfInBounds_toArray, List.set_cons_zero, List.set_cons_succ]
  refine wpAnyH_take (i := 8) (oi := ⟨some 16, _, _, _, _, _⟩) (v := undef) rfl (by kernel_rfl) (by kernel_rfl) (by kernel_rfl) (fun _ _ _ h => h) (Or.inr ⟨by rfl, rfl⟩) (by assumption) ?_
  try simp only [Act.put, List.setIfInBounds_toArray, List.set_cons_zero, List.set_cons_succ]
  refine wpAnyH_take (i := 9) (oi := ⟨some 17, _, _, _, _, _⟩) (v := undef) rfl (by kernel_rfl) (by kernel_rfl) (by kernel_rfl) (fun _ _ _ h => h) (Or.inr ⟨by rfl, rfl⟩) (by assumption) ?_
  try simp only [Act.put, List.setIfInBounds_toArray, List.set_cons_zero, List.set_cons_succ]
  refine wpAnyH_take (i := 10) (oi := ⟨some 18, _, _, _, _, _⟩) (v := undef) rfl (by kernel_rfl) (by kernel_rfl) (by kernel_rfl) (fun _ _ _ h => h) (Or.inr ⟨by rfl, rfl⟩) (by assumption) ?_
  try simp only [Act.put, List.setIfInBounds_toArray, List.set_cons_zero, List.set_cons_succ]
  refine wpAnyH_take (i := 11) (oi := ⟨some 19, _, _, _, _, _⟩) (v := undef) rfl (by kernel_rfl) (by kernel_rfl) (by kernel_rfl) (fun _ _ _ h => h) (Or.inr ⟨by rfl, rfl⟩) (by assumption) ?_
  try simp only [Act.put, List.setIfInBounds_toArray, List.set_cons_zero, List.set_cons_succ]
  refine wpAnyH_take (i := 12) (oi := ⟨some 20, _, _, _, _, _⟩) (v := undef) rfl (by kernel_rfl) (by kernel_rfl) (by kernel_rfl) (fun _ _ _ h => h) (Or.inr ⟨by rfl, rfl⟩) (by assumption) ?_
  try simp only [Act.put, List.setIfInBounds_toArray, List.set_cons_zero, List.set_cons_succ]
  refine wpAnyH_take (i := 13) (oi := ⟨some 21, _, _, _, _, _⟩) (v := undef) rfl (by kernel_rfl) (by kernel_rfl) (by kernel_rfl) (fun _ _ _ h => h) (Or.inr ⟨by rfl, rfl⟩) (by assumption) ?_
  try simp only [Act.put, List.setIfInBounds_toArray, List.set_cons_zero, List.set_cons_succ]
  refine wpAnyH_take (i := 14) (oi := ⟨some 22, _, _, _, _, _⟩) (v := undef) rfl (by kernel_rfl) (by kernel_rfl) (by kernel_rfl) (fun _ _ _ h => h) (Or.inr ⟨by rfl, rfl⟩) (by assumption) ?_
  try simp only [Act.put, List.setIfInBounds_toArray, List.set_cons_zero, List.set_cons_succ]
  refine wpAnyH_take (i := 15) (oi := ⟨some 23, _, _, _, _, _⟩) (v := undef) rfl (by kernel_rfl) (by kernel_rfl) (by kernel_rfl) (fun _ _ _ h => h) (Or.inr ⟨by rfl, rfl⟩) (by assumption) ?_
  try simp only [Act.put, List.setIfInBounds_toArray, List.set_cons_zero, List.set_cons_succ]
  refine wpAnyH_take (i := 16) (oi := ⟨some 24, _, _, _, _, _⟩) (v := undef) rfl (by kernel_rfl) (by kernel_rfl) (by kernel_rfl) (fun _ _ _ h => h) (Or.inr ⟨by rfl, rfl⟩) (by assumption) ?_
  try simp only [Act.put, List.setIfInBounds_toArray, List.set_cons_zero, List.set_cons_succ]
  refine wpAnyH_take (i := 17) (oi := ⟨some 25, _, _, _, _, _⟩) (v := undef) rfl (by kernel_rfl) (by kernel_rfl) (by kernel_rfl) (fun _ _ _ h => h) (Or.inr ⟨by rfl, rfl⟩) (by assumption) ?_
  try simp only [Act.put, List.setIfInBounds_toArray, List.set_cons_zero, List.set_cons_succ]
  refine wpAnyH_take (i := 18) (oi := ⟨some 26, _, _, _, _, _⟩) (v := ?v27) rfl (by kernel_rfl) (by kernel_rfl) (by kernel_rfl) (fun _ _ _ h => h) (Or.inl ⟨by rfl, ?y27⟩) (by assumption) ?r27
  case y27 => (intro wx hSx; (try dsimp only at hSx); go_simp; (try with_reducible rfl))
  try simp only [Act.put, List.setIfInBounds_toArray, List.set_cons_zero, List.set_cons_succ]
  refine wpAnyH_done (by kernel_rfl) ?_ _
  go_wp2
  go_ret2
  exact ⟨rfl, HF.out⟩
set_option maxHeartbeats 8000000 in
theorem RApply_old {w : World} {b : Nat} {vs cs : List Int} (hm : IsRM w b vs cs) (c t k y v : Int) (hc : 0 ≤ c) (hr : isReal c t k y v = true) (ho : t < getT cs c) :
    Calls Try.prog 26 #[.pointer (some ⟨b, 0, none⟩), .agg #[.int .u8 c, .int .u32 t, .int .u8 k, .int .u8 y, .int .u16 v]] w fun e w' =>  e = .returned (.tuple #[.int .u32 0, .bool false]) ∧ Frm (fun _ => False) w w' := by
  obtain ⟨n, rfl⟩ := Int.eq_ofNat_of_zero_le hc
  have hb4 : 1 ≤ (n : Int) ∧ (n : Int) ≤ 4 := by
    rw [isReal, decide_eq_true_eq] at hr
    exact ⟨hr.1, hr.2.1⟩
  have hnn : isNull (n : Int) t k y v = false := by
    rw [isNull]; exact decide_eq_false (fun h => by have := h.1; omega)
  have HQ1 := hid (show (isNull (n : Int) t k y v || isReal (n : Int) t k y v) = true by rw [hnn, hr]; rfl)
  have HN1 := hid hnn
  have hn5 := hid (show n < 5 by omega)
  have hb1 : (n : Int) < 5 := by omega
  have hb0 : (0 : Int) ≤ (n : Int) := by omega
  obtain ⟨T, hT⟩ : ∃ T, cs.getD (n * 2) 0 = T := ⟨_, rfl⟩
  have HT := hid hT
  have hgt : getT cs (n : Int) = T := by rw [getT, if_pos hb4, Int.toNat_natCast]; exact hT
  have HGT := hid hgt
  rw [hgt] at ho
  clear hnn hr hc hb4 hgt hT
  go_enter Try.func26, Try.ntmps26
  go_wp2_with (fail)
  obtain ⟨W1, hW1⟩ : ∃ W1, (w.alloc (.cells #[.int .u8 ((n : Int)), .int .u32 t, .int .u8 k, .int .u8 y, .int .u16 v] TRq)) = W1 := ⟨_, rfl⟩
  rw [hW1]
  have HQ := hid (show Blk W1.drew w.heap.size [.int .u8 ((n : Int)), .int .u32 t, .int .u8 k, .int .u8 y, .int .u16 v] TRq from hW1 ▸ (Rq_new w ((n : Int)) t k y v))
  have HF := hid (show Frm (fun _ => False) w W1.drew from hW1 ▸ (frm_box w _).drew)
  have HM := hid (hm.frm HF.out (fun h => h))
  clear hW1 hm
  generalize w.heap.size = rb at *
  have s0 := HQ.out.cell 0
  have s1 := HQ.out.cell 1
  have s2 := HQ.out.cell 2
  have s3 := HQ.out.cell 3
  have s4 := HQ.out.cell 4
  (simp only [List.getElem?_cons_succ, List.getElem?_cons_zero] at s0 s1 s2 s3 s4)
  have s5 := HM.out.tm n hn5.out
  rw [HT.out] at s5
  go_region_held3 (fun wx => wx.cell? ⟨rb, 0, none⟩ = some (.int .u8 (n : Int)) ∧ wx.cell? ⟨rb, 1, none⟩ = some (.int .u32 t) ∧ wx.cell? ⟨rb, 2, none⟩ = some (.int .u8 k) ∧ wx.cell? ⟨rb, 3, none⟩ = some (.int .u8 y) ∧ wx.cell? ⟨rb, 4, none⟩ = some (.int .u16 v) ∧ wx.cell? ⟨b, 64 + n, none⟩ = some (.int .u32 T)) (first | go_keep | exact ⟨s0, s1, s2, s3, s4, s5⟩) (first
    | (go_at_call 40; (with_reducible refine (RIsReq_calls _ (n : Int) t k y v true HQ1.out).mono ?_); rintro e w9 ⟨rfl, f'⟩; have nQ := hid (HQ.out.frm f' (fun h => h)); have nF := hid (HF.out.trans f'); have nM := hid (HM.out.frm f' (fun h => h)); clear s0 s1 s2 s3 s4 s5; clear f' HQ HF HM; have HQ := nQ; have HF := nF; have HM := nM; clear nQ nF nM; have s0 := HQ.out.cell 0; have s1 := HQ.out.cell 1; have s2 := HQ.out.cell 2; have s3 := HQ.out.cell 3; have s4 := HQ.out.cell 4; (simp only [List.getElem?_cons_succ, List.getElem?_cons_zero] at s0 s1 s2 s3 s4); have s5 := HM.out.tm n hn5.out; (rw [HT.out] at s5))
    | (go_at_call 41; (with_reducible refine (RNull_calls _ (n : Int) t k y v false HN1.out).mono ?_); rintro e w9 ⟨rfl, f'⟩; have nQ := hid (HQ.out.frm f' (fun h => h)); have nF := hid (HF.out.trans f'); have nM := hid (HM.out.frm f' (fun h => h)); clear s0 s1 s2 s3 s4 s5; clear f' HQ HF HM; have HQ := nQ; have HF := nF; have HM := nM; clear nQ nF nM; have s0 := HQ.out.cell 0; have s1 := HQ.out.cell 1; have s2 := HQ.out.cell 2; have s3 := HQ.out.cell 3; have s4 := HQ.out.cell 4; (simp only [List.getElem?_cons_succ, List.getElem?_cons_zero] at s0 s1 s2 s3 s4); have s5 := HM.out.tm n hn5.out; (rw [HT.out] at s5)))
  go_wp2
  go_ret2
  exact ⟨rfl, HF.out⟩
set_option maxHeartbeats 8000000 in
theorem RApply_same {w : World} {b : Nat} {vs cs : List Int} (hm : IsRM w b vs cs) (c t k y v : Int) (hc : 0 ≤ c) (hr : isReal c t k y v = true) (ho : getT cs c = t) (x : Int) (hx : getR cs c = x) :
    Calls Try.prog 26 #[.pointer (some ⟨b, 0, none⟩), .agg #[.int .u8 c, .int .u32 t, .int .u8 k, .int .u8 y, .int .u16 v]] w fun e w' =>  e = .returned (.tuple #[.int .u32 x, .bool true]) ∧ Frm (fun _ => False) w w' := by
  obtain ⟨n, rfl⟩ := Int.eq_ofNat_of_zero_le hc
  have hb4 : 1 ≤ (n : Int) ∧ (n : Int) ≤ 4 := by
    rw [isReal, decide_eq_true_eq] at hr
    exact ⟨hr.1, hr.2.1⟩
  have hnn : isNull (n : Int) t k y v = false := by
    rw [isNull]; exact decide_eq_false (fun h => by have := h.1; omega)
  have HQ1 := hid (show (isNull (n : Int) t k y v || isReal (n : Int) t k y v) = true by rw [hnn, hr]; rfl)
  have HN1 := hid hnn
  have hn5 := hid (show n < 5 by omega)
  have hb1 : (n : Int) < 5 := by omega
  have hb0 : (0 : Int) ≤ (n : Int) := by omega
  obtain ⟨T, hT⟩ : ∃ T, cs.getD (n * 2) 0 = T := ⟨_, rfl⟩
  have HT := hid hT
  have hgt : getT cs (n : Int) = T := by rw [getT, if_pos hb4, Int.toNat_natCast]; exact hT
  have HGT := hid hgt
  rw [hgt] at ho
  have ho := ho.symm
  subst ho
  have hR : cs.getD (n * 2 + 1) 0 = x := by rw [← hx, getR, if_pos hb4, Int.toNat_natCast]
  have HR := hid hR
  clear hnn hr hc hb4 hgt hT hx hR
  go_enter Try.func26, Try.ntmps26
  go_wp2_with (fail)
  obtain ⟨W1, hW1⟩ : ∃ W1, (w.alloc (.cells #[.int .u8 ((n : Int)), .int .u32 t, .int .u8 k, .int .u8 y, .int .u16 v] TRq)) = W1 := ⟨_, rfl⟩
  rw [hW1]
  have HQ := hid (show Blk W1.drew w.heap.size [.int .u8 ((n : Int)), .int .u32 t, .int .u8 k, .int .u8 y, .int .u16 v] TRq from hW1 ▸ (Rq_new w ((n : Int)) t k y v))
  have HF := hid (show Frm (fun _ => False) w W1.drew from hW1 ▸ (frm_box w _).drew)
  have HM := hid (hm.frm HF.out (fun h => h))
  clear hW1 hm
  generalize w.heap.size = rb at *
  have s0 := HQ.out.cell 0
  have s1 := HQ.out.cell 1
  have s2 := HQ.out.cell 2
  have s3 := HQ.out.cell 3
  have s4 := HQ.out.cell 4
  (simp only [List.getElem?_cons_succ, List.getElem?_cons_zero] at s0 s1 s2 s3 s4)
  have s5 := HM.out.tm n hn5.out
  rw [HT.out] at s5
  go_region_held3 (fun wx => wx.cell? ⟨rb, 0, none⟩ = some (.int .u8 (n : Int)) ∧ wx.cell? ⟨rb, 1, none⟩ = some (.int .u32 t) ∧ wx.cell? ⟨rb, 2, none⟩ = some (.int .u8 k) ∧ wx.cell? ⟨rb, 3, none⟩ = some (.int .u8 y) ∧ wx.cell? ⟨rb, 4, none⟩ = some (.int .u16 v) ∧ wx.cell? ⟨b, 64 + n, none⟩ = some (.int .u32 t)) (first | go_keep | exact ⟨s0, s1, s2, s3, s4, s5⟩) (first
    | (go_at_call 40; (with_reducible refine (RIsReq_calls _ (n : Int) t k y v true HQ1.out).mono ?_); rintro e w9 ⟨rfl, f'⟩; have nQ := hid (HQ.out.frm f' (fun h => h)); have nF := hid (HF.out.trans f'); have nM := hid (HM.out.frm f' (fun h => h)); clear s0 s1 s2 s3 s4 s5; clear f' HQ HF HM; have HQ := nQ; have HF := nF; have HM := nM; clear nQ nF nM; have s0 := HQ.out.cell 0; have s1 := HQ.out.cell 1; have s2 := HQ.out.cell 2; have s3 := HQ.out.cell 3; have s4 := HQ.out.cell 4; (simp only [List.getElem?_cons_succ, List.getElem?_cons_zero] at s0 s1 s2 s3 s4); have s5 := HM.out.tm n hn5.out; (rw [HT.out] at s5))
    | (go_at_call 41; (with_reducible refine (RNull_calls _ (n : Int) t k y v false HN1.out).mono ?_); rintro e w9 ⟨rfl, f'⟩; have nQ := hid (HQ.out.frm f' (fun h => h)); have nF := hid (HF.out.trans f'); have nM := hid (HM.out.frm f' (fun h => h)); clear s0 s1 s2 s3 s4 s5; clear f' HQ HF HM; have HQ := nQ; have HF := nF; have HM := nM; clear nQ nF nM; have s0 := HQ.out.cell 0; have s1 := HQ.out.cell 1; have s2 := HQ.out.cell 2; have s3 := HQ.out.cell 3; have s4 := HQ.out.cell 4; (simp only [List.getElem?_cons_succ, List.getElem?_cons_zero] at s0 s1 s2 s3 s4); have s5 := HM.out.tm n hn5.out; (rw [HT.out] at s5)))
  have s6 := HM.out.rs n hn5.out
  rw [HR.out] at s6
  go_wp2
  go_region
  go_wp2
  go_region
  go_wp2
  go_ret2
  exact ⟨rfl, by repeat (first | exact HF.out | refine Frm.drew ?_)⟩
set_option maxHeartbeats 8000000 in
theorem RApply_new1 {w : World} {b : Nat} {vs cs : List Int} (hm : IsRM w b vs cs) (c t y v : Int) (hc : 0 ≤ c) (hy : 0 ≤ y) (hv : 0 ≤ v ∧ v ≤ 65535) (ht : 0 ≤ t ∧ t ≤ 4294967295) (hr : isReal c t 1 y v = true) (ho : getT cs c < t) (W0 : Int) (hW : getV vs y = W0) :
    Calls Try.prog 26 #[.pointer (some ⟨b, 0, none⟩), .agg #[.int .u8 c, .int .u32 t, .int .u8 1, .int .u8 y, .int .u16 v]] w fun e w' =>  e = .returned (.tuple #[.int .u32 (W0), .bool true]) ∧ IsRM w' b (putV vs y (v)) (setC cs c t (W0)) ∧ Frm (· = b) w w' := by
  obtain ⟨m, rfl⟩ := Int.eq_ofNat_of_zero_le hy
  have hm64 : m < 64 := by
    rw [isReal, decide_eq_true_eq] at hr
    have := hr.2.2.2.2.2.1
    omega
  obtain ⟨n, rfl⟩ := Int.eq_ofNat_of_zero_le hc
  have hb4 : 1 ≤ (n : Int) ∧ (n : Int) ≤ 4 := by
    rw [isReal, decide_eq_true_eq] at hr
    exact ⟨hr.1, hr.2.1⟩
  have hnn : isNull (n : Int) t 1 (m : Int) v = false := by
    rw [isNull]; exact decide_eq_false (fun h => by have := h.1; omega)
  have HQ1 := hid (show (isNull (n : Int) t 1 (m : Int) v || isReal (n : Int) t 1 (m : Int) v) = true by rw [hnn, hr]; rfl)
  have HN1 := hid hnn
  have hn5 := hid (show n < 5 by omega)
  have hb1 : (n : Int) < 5 := by omega
  have hb0 : (0 : Int) ≤ (n : Int) := by omega
  obtain ⟨T, hT⟩ : ∃ T, cs.getD (n * 2) 0 = T := ⟨_, rfl⟩
  have HT := hid hT
  have hgt : getT cs (n : Int) = T := by rw [getT, if_pos hb4, Int.toNat_natCast]; exact hT
  have HGT := hid hgt
  rw [hgt] at ho
  have hgv : vs.getD m 0 = W0 := by rw [← hW, getV, if_pos (by omega), Int.toNat_natCast]
  have hwb : 0 ≤ W0 ∧ W0 ≤ 65535 := by rw [← hgv]; exact getD_bd hm.bv (by decide) m
  have hxb : 0 ≤ (W0) ∧ (W0) ≤ 65535 := by omega
  have HGV := hid hgv; have HV := hid hv; have HTB := hid ht; have HXB := hid hxb; have hm6 := hid hm64
  have e32 : IntKind.u32.wrap (W0) = W0 := by simp [IntKind.wrap, IntKind.bits, IntKind.signed]; omega
  have e16 : IntKind.u16.wrap (W0 + v) = (W0 + v) % 65536 := by simp [IntKind.wrap, IntKind.bits, IntKind.signed]
  have hmi : (m : Int) < 64 := by omega
  have hm0 : (0 : Int) ≤ (m : Int) := by omega
  have qt : (t == T) = false := beq_eq_false_iff_ne.2 (by omega)
  have HBR := hid (show ¬ w.heap.size = b from fun e => by have := hm.blk.lt; omega)
  have HPV := hid (show putV vs (m : Int) (v) = vs.set m v by rw [putV, if_pos (by omega), Int.toNat_natCast])
  have HSC := hid (show setC cs (n : Int) t (W0) = (cs.set (n * 2) t).set (n * 2 + 1) (W0) by rw [setC, if_pos hb4, Int.toNat_natCast, if_neg (by rw [isReal, decide_eq_true_eq] at hr; exact hr.2.2.1)])
  clear hnn hr hc hb4 hgt hT hy hW hgv hwb hxb hv ht hm64
  go_enter Try.func26, Try.ntmps26
  go_wp2_with (fail)
  obtain ⟨W1, hW1⟩ : ∃ W1, (w.alloc (.cells #[.int .u8 ((n : Int)), .int .u32 t, .int .u8 1, .int .u8 (m : Int), .int .u16 v] TRq)) = W1 := ⟨_, rfl⟩
  rw [hW1]
  have HQ := hid (show Blk W1.drew w.heap.size [.int .u8 ((n : Int)), .int .u32 t, .int .u8 1, .int .u8 (m : Int), .int .u16 v] TRq from hW1 ▸ (Rq_new w ((n : Int)) t 1 (m : Int) v))
  have HF := hid (show Frm (fun _ => False) w W1.drew from hW1 ▸ (frm_box w _).drew)
  have HM := hid (hm.frm HF.out (fun h => h))
  clear hW1 hm
  generalize w.heap.size = rb at *
  have s0 := HQ.out.cell 0
  have s1 := HQ.out.cell 1
  have s2 := HQ.out.cell 2
  have s3 := HQ.out.cell 3
  have s4 := HQ.out.cell 4
  (simp only [List.getElem?_cons_succ, List.getElem?_cons_zero] at s0 s1 s2 s3 s4)
  have s5 := HM.out.tm n hn5.out
  rw [HT.out] at s5
  go_region_held3 (fun wx => wx.cell? ⟨rb, 0, none⟩ = some (.int .u8 (n : Int)) ∧ wx.cell? ⟨rb, 1, none⟩ = some (.int .u32 t) ∧ wx.cell? ⟨rb, 2, none⟩ = some (.int .u8 1) ∧ wx.cell? ⟨rb, 3, none⟩ = some (.int .u8 (m : Int)) ∧ wx.cell? ⟨rb, 4, none⟩ = some (.int .u16 v) ∧ wx.cell? ⟨b, 64 + n, none⟩ = some (.int .u32 T)) (first | go_keep | exact ⟨s0, s1, s2, s3, s4, s5⟩) (first
    | (go_at_call 40; (with_reducible refine (RIsReq_calls _ (n : Int) t 1 (m : Int) v true HQ1.out).mono ?_); rintro e w9 ⟨rfl, f'⟩; have nQ := hid (HQ.out.frm f' (fun h => h)); have nF := hid (HF.out.trans f'); have nM := hid (HM.out.frm f' (fun h => h)); clear s0 s1 s2 s3 s4 s5; clear f' HQ HF HM; have HQ := nQ; have HF := nF; have HM := nM; clear nQ nF nM; have s0 := HQ.out.cell 0; have s1 := HQ.out.cell 1; have s2 := HQ.out.cell 2; have s3 := HQ.out.cell 3; have s4 := HQ.out.cell 4; (simp only [List.getElem?_cons_succ, List.getElem?_cons_zero] at s0 s1 s2 s3 s4); have s5 := HM.out.tm n hn5.out; (rw [HT.out] at s5))
    | (go_at_call 41; (with_reducible refine (RNull_calls _ (n : Int) t 1 (m : Int) v false HN1.out).mono ?_); rintro e w9 ⟨rfl, f'⟩; have nQ := hid (HQ.out.frm f' (fun h => h)); have nF := hid (HF.out.trans f'); have nM := hid (HM.out.frm f' (fun h => h)); clear s0 s1 s2 s3 s4 s5; clear f' HQ HF HM; have HQ := nQ; have HF := nF; have HM := nM; clear nQ nF nM; have s0 := HQ.out.cell 0; have s1 := HQ.out.cell 1; have s2 := HQ.out.cell 2; have s3 := HQ.out.cell 3; have s4 := HQ.out.cell 4; (simp only [List.getElem?_cons_succ, List.getElem?_cons_zero] at s0 s1 s2 s3 s4); have s5 := HM.out.tm n hn5.out; (rw [HT.out] at s5)))
  have hbr := HBR.out
  have s6 := HM.out.rs n hn5.out
  have s7 := HM.out.val m hm6.out
  rw [HGV.out] at s7
  have z5 := HM.out.blk.free (64 + n)
  have z6 := HM.out.blk.free (69 + n)
  have z7 := HM.out.blk.free m
  have o1 : ¬ m = 64 + n := by have := hm6.out; omega
  have o2 : ¬ m = 69 + n := by have := hm6.out; omega
  have o3 : ¬ 64 + n = 69 + n := by omega
  have o4 : ¬ 64 + n = m := by have := hm6.out; omega
  have o5 : ¬ 69 + n = m := by have := hm6.out; omega
  have o6 : ¬ 69 + n = 64 + n := by omega
  have hbr2 : ¬ b = rb := fun e => hbr e.symm
  go_wp2
  go_region
  go_wp2
  go_region
  go_wp2
  go_region
  go_wp2
  go_region
  go_wp2
  go_ret2
  refine ⟨rfl, ?_, ?_⟩
  · rw [HPV.out, HSC.out]
    repeat (first | exact ((HM.out.setVal m hm6.out v HV.out).setCli n hn5.out t (W0) HTB.out (by have := HXB.out; omega)) | refine IsRM.drew ?_)
  · repeat (first | exact (((Frm0.any (S := (· = b)) HF.out).setCell ⟨b, m, none⟩ _ (.inr rfl)).setCell ⟨b, 64 + n, none⟩ _ (.inr rfl)).setCell ⟨b, 69 + n, none⟩ _ (.inr rfl) | refine Frm.drew ?_)
set_option maxHeartbeats 8000000 in
theorem RApply_new2 {w : World} {b : Nat} {vs cs : List Int} (hm : IsRM w b vs cs) (c t y v : Int) (hc : 0 ≤ c) (hy : 0 ≤ y) (hv : 0 ≤ v ∧ v ≤ 65535) (ht : 0 ≤ t ∧ t ≤ 4294967295) (hr : isReal c t 2 y v = true) (ho : getT cs c < t) (W0 : Int) (hW : getV vs y = W0) :
    Calls Try.prog 26 #[.pointer (some ⟨b, 0, none⟩), .agg #[.int .u8 c, .int .u32 t, .int .u8 2, .int .u8 y, .int .u16 v]] w fun e w' =>  e = .returned (.tuple #[.int .u32 (W0), .bool true]) ∧ IsRM w' b (putV vs y (W0)) (setC cs c t (W0)) ∧ Frm (· = b) w w' := by
  obtain ⟨m, rfl⟩ := Int.eq_ofNat_of_zero_le hy
  have hm64 : m < 64 := by
    rw [isReal, decide_eq_true_eq] at hr
    have := hr.2.2.2.2.2.1
    omega
  obtain ⟨n, rfl⟩ := Int.eq_ofNat_of_zero_le hc
  have hb4 : 1 ≤ (n : Int) ∧ (n : Int) ≤ 4 := by
    rw [isReal, decide_eq_true_eq] at hr
    exact ⟨hr.1, hr.2.1⟩
  have hnn : isNull (n : Int) t 2 (m : Int) v = false := by
    rw [isNull]; exact decide_eq_false (fun h => by have := h.1; omega)
  have HQ1 := hid (show (isNull (n : Int) t 2 (m : Int) v || isReal (n : Int) t 2 (m : Int) v) = true by rw [hnn, hr]; rfl)
  have HN1 := hid hnn
  have hn5 := hid (show n < 5 by omega)
  have hb1 : (n : Int) < 5 := by omega
  have hb0 : (0 : Int) ≤ (n : Int) := by omega
  obtain ⟨T, hT⟩ : ∃ T, cs.getD (n * 2) 0 = T := ⟨_, rfl⟩
  have HT := hid hT
  have hgt : getT cs (n : Int) = T := by rw [getT, if_pos hb4, Int.toNat_natCast]; exact hT
  have HGT := hid hgt
  rw [hgt] at ho
  have hgv : vs.getD m 0 = W0 := by rw [← hW, getV, if_pos (by omega), Int.toNat_natCast]
  have hwb : 0 ≤ W0 ∧ W0 ≤ 65535 := by rw [← hgv]; exact getD_bd hm.bv (by decide) m
  have hxb : 0 ≤ (W0) ∧ (W0) ≤ 65535 := by omega
  have HGV := hid hgv; have HV := hid hv; have HTB := hid ht; have HXB := hid hxb; have hm6 := hid hm64
  have e32 : IntKind.u32.wrap (W0) = W0 := by simp [IntKind.wrap, IntKind.bits, IntKind.signed]; omega
  have e16 : IntKind.u16.wrap (W0 + v) = (W0 + v) % 65536 := by simp [IntKind.wrap, IntKind.bits, IntKind.signed]
  have hmi : (m : Int) < 64 := by omega
  have hm0 : (0 : Int) ≤ (m : Int) := by omega
  have qt : (t == T) = false := beq_eq_false_iff_ne.2 (by omega)
  have HBR := hid (show ¬ w.heap.size = b from fun e => by have := hm.blk.lt; omega)
  have HPV := hid (show putV vs (m : Int) (W0) = vs by rw [putV, if_pos (by omega), Int.toNat_natCast, ← hgv]; exact set_self vs m (by rw [hm.lv]; exact hm64))
  have HSC := hid (show setC cs (n : Int) t (W0) = (cs.set (n * 2) t).set (n * 2 + 1) (W0) by rw [setC, if_pos hb4, Int.toNat_natCast, if_neg (by rw [isReal, decide_eq_true_eq] at hr; exact hr.2.2.1)])
  clear hnn hr hc hb4 hgt hT hy hW hgv hwb hxb hv ht hm64
  go_enter Try.func26, Try.ntmps26
  go_wp2_with (fail)
  obtain ⟨W1, hW1⟩ : ∃ W1, (w.alloc (.cells #[.int .u8 ((n : Int)), .int .u32 t, .int .u8 2, .int .u8 (m : Int), .int .u16 v] TRq)) = W1 := ⟨_, rfl⟩
  rw [hW1]
  have HQ := hid (show Blk W1.drew w.heap.size [.int .u8 ((n : Int)), .int .u32 t, .int .u8 2, .int .u8 (m : Int), .int .u16 v] TRq from hW1 ▸ (Rq_new w ((n : Int)) t 2 (m : Int) v))
  have HF := hid (show Frm (fun _ => False) w W1.drew from hW1 ▸ (frm_box w _).drew)
  have HM := hid (hm.frm HF.out (fun h => h))
  clear hW1 hm
  generalize w.heap.size = rb at *
  have s0 := HQ.out.cell 0
  have s1 := HQ.out.cell 1
  have s2 := HQ.out.cell 2
  have s3 := HQ.out.cell 3
  have s4 := HQ.out.cell 4
  (simp only [List.getElem?_cons_succ, List.getElem?_cons_zero] at s0 s1 s2 s3 s4)
  have s5 := HM.out.tm n hn5.out
  rw [HT.out] at s5
  go_region_held3 (fun wx => wx.cell? ⟨rb, 0, none⟩ = some (.int .u8 (n : Int)) ∧ wx.cell? ⟨rb, 1, none⟩ = some (.int .u32 t) ∧ wx.cell? ⟨rb, 2, none⟩ = some (.int .u8 2) ∧ wx.cell? ⟨rb, 3, none⟩ = some (.int .u8 (m : Int)) ∧ wx.cell? ⟨rb, 4, none⟩ = some (.int .u16 v) ∧ wx.cell? ⟨b, 64 + n, none⟩ = some (.int .u32 T)) (first | go_keep | exact ⟨s0, s1, s2, s3, s4, s5⟩) (first
    | (go_at_call 40; (with_reducible refine (RIsReq_calls _ (n : Int) t 2 (m : Int) v true HQ1.out).mono ?_); rintro e w9 ⟨rfl, f'⟩; have nQ := hid (HQ.out.frm f' (fun h => h)); have nF := hid (HF.out.trans f'); have nM := hid (HM.out.frm f' (fun h => h)); clear s0 s1 s2 s3 s4 s5; clear f' HQ HF HM; have HQ := nQ; have HF := nF; have HM := nM; clear nQ nF nM; have s0 := HQ.out.cell 0; have s1 := HQ.out.cell 1; have s2 := HQ.out.cell 2; have s3 := HQ.out.cell 3; have s4 := HQ.out.cell 4; (simp only [List.getElem?_cons_succ, List.getElem?_cons_zero] at s0 s1 s2 s3 s4); have s5 := HM.out.tm n hn5.out; (rw [HT.out] at s5))
    | (go_at_call 41; (with_reducible refine (RNull_calls _ (n : Int) t 2 (m : Int) v false HN1.out).mono ?_); rintro e w9 ⟨rfl, f'⟩; have nQ := hid (HQ.out.frm f' (fun h => h)); have nF := hid (HF.out.trans f'); have nM := hid (HM.out.frm f' (fun h => h)); clear s0 s1 s2 s3 s4 s5; clear f' HQ HF HM; have HQ := nQ; have HF := nF; have HM := nM; clear nQ nF nM; have s0 := HQ.out.cell 0; have s1 := HQ.out.cell 1; have s2 := HQ.out.cell 2; have s3 := HQ.out.cell 3; have s4 := HQ.out.cell 4; (simp only [List.getElem?_cons_succ, List.getElem?_cons_zero] at s0 s1 s2 s3 s4); have s5 := HM.out.tm n hn5.out; (rw [HT.out] at s5)))
  have hbr := HBR.out
  have s6 := HM.out.rs n hn5.out
  have s7 := HM.out.val m hm6.out
  rw [HGV.out] at s7
  have z5 := HM.out.blk.free (64 + n)
  have z6 := HM.out.blk.free (69 + n)
  have z7 := HM.out.blk.free m
  have o1 : ¬ m = 64 + n := by have := hm6.out; omega
  have o2 : ¬ m = 69 + n := by have := hm6.out; omega
  have o3 : ¬ 64 + n = 69 + n := by omega
  have o4 : ¬ 64 + n = m := by have := hm6.out; omega
  have o5 : ¬ 69 + n = m := by have := hm6.out; omega
  have o6 : ¬ 69 + n = 64 + n := by omega
  have hbr2 : ¬ b = rb := fun e => hbr e.symm
  go_wp2
  go_region
  go_wp2
  go_region
  go_wp2
  go_region
  go_wp2
  go_ret2
  refine ⟨rfl, ?_, ?_⟩
  · rw [HPV.out, HSC.out]
    repeat (first | exact (HM.out.setCli n hn5.out t (W0) HTB.out (by have := HXB.out; omega)) | refine IsRM.drew ?_)
  · repeat (first | exact (((Frm0.any (S := (· = b)) HF.out)).setCell ⟨b, 64 + n, none⟩ _ (.inr rfl)).setCell ⟨b, 69 + n, none⟩ _ (.inr rfl) | refine Frm.drew ?_)
set_option maxHeartbeats 8000000 in
theorem RApply_new3 {w : World} {b : Nat} {vs cs : List Int} (hm : IsRM w b vs cs) (c t y v : Int) (hc : 0 ≤ c) (hy : 0 ≤ y) (hv : 0 ≤ v ∧ v ≤ 65535) (ht : 0 ≤ t ∧ t ≤ 4294967295) (hr : isReal c t 3 y v = true) (ho : getT cs c < t) (W0 : Int) (hW : getV vs y = W0) :
    Calls Try.prog 26 #[.pointer (some ⟨b, 0, none⟩), .agg #[.int .u8 c, .int .u32 t, .int .u8 3, .int .u8 y, .int .u16 v]] w fun e w' =>  e = .returned (.tuple #[.int .u32 ((W0 + v) % 65536), .bool true]) ∧ IsRM w' b (putV vs y ((W0 + v) % 65536)) (setC cs c t ((W0 + v) % 65536)) ∧ Frm (· = b) w w' := by
  obtain ⟨m, rfl⟩ := Int.eq_ofNat_of_zero_le hy
  have hm64 : m < 64 := by
    rw [isReal, decide_eq_true_eq] at hr
    have := hr.2.2.2.2.2.1
    omega
  obtain ⟨n, rfl⟩ := Int.eq_ofNat_of_zero_le hc
  have hb4 : 1 ≤ (n : Int) ∧ (n : Int) ≤ 4 := by
    rw [isReal, decide_eq_true_eq] at hr
    exact ⟨hr.1, hr.2.1⟩
  have hnn : isNull (n : Int) t 3 (m : Int) v = false := by
    rw [isNull]; exact decide_eq_false (fun h => by have := h.1; omega)
  have HQ1 := hid (show (isNull (n : Int) t 3 (m : Int) v || isReal (n : Int) t 3 (m : Int) v) = true by rw [hnn, hr]; rfl)
  have HN1 := hid hnn
  have hn5 := hid (show n < 5 by omega)
  have hb1 : (n : Int) < 5 := by omega
  have hb0 : (0 : Int) ≤ (n : Int) := by omega
  obtain ⟨T, hT⟩ : ∃ T, cs.getD (n * 2) 0 = T := ⟨_, rfl⟩
  have HT := hid hT
  have hgt : getT cs (n : Int) = T := by rw [getT, if_pos hb4, Int.toNat_natCast]; exact hT
  have HGT := hid hgt
  rw [hgt] at ho
  have hgv : vs.getD m 0 = W0 := by rw [← hW, getV, if_pos (by omega), Int.toNat_natCast]
  have hwb : 0 ≤ W0 ∧ W0 ≤ 65535 := by rw [← hgv]; exact getD_bd hm.bv (by decide) m
  have hxb : 0 ≤ ((W0 + v) % 65536) ∧ ((W0 + v) % 65536) ≤ 65535 := by omega
  have HGV := hid hgv; have HV := hid hv; have HTB := hid ht; have HXB := hid hxb; have hm6 := hid hm64
  have e32 : IntKind.u32.wrap ((W0 + v) % 65536) = (W0 + v) % 65536 := by simp [IntKind.wrap, IntKind.bits, IntKind.signed]; omega
  have e16 : IntKind.u16.wrap (W0 + v) = (W0 + v) % 65536 := by simp [IntKind.wrap, IntKind.bits, IntKind.signed]
  have hmi : (m : Int) < 64 := by omega
  have hm0 : (0 : Int) ≤ (m : Int) := by omega
  have qt : (t == T) = false := beq_eq_false_iff_ne.2 (by omega)
  have HBR := hid (show ¬ w.heap.size = b from fun e => by have := hm.blk.lt; omega)
  have HPV := hid (show putV vs (m : Int) ((W0 + v) % 65536) = vs.set m ((W0 + v) % 65536) by rw [putV, if_pos (by omega), Int.toNat_natCast])
  have HSC := hid (show setC cs (n : Int) t ((W0 + v) % 65536) = (cs.set (n * 2) t).set (n * 2 + 1) ((W0 + v) % 65536) by rw [setC, if_pos hb4, Int.toNat_natCast, if_neg (by rw [isReal, decide_eq_true_eq] at hr; exact hr.2.2.1)])
  clear hnn hr hc hb4 hgt hT hy hW hgv hwb hxb hv ht hm64
  go_enter Try.func26, Try.ntmps26
  go_wp2_with (fail)
  obtain ⟨W1, hW1⟩ : ∃ W1, (w.alloc (.cells #[.int .u8 ((n : Int)), .int .u32 t, .int .u8 3, .int .u8 (m : Int), .int .u16 v] TRq)) = W1 := ⟨_, rfl⟩
  rw [hW1]
  have HQ := hid (show Blk W1.drew w.heap.size [.int .u8 ((n : Int)), .int .u32 t, .int .u8 3, .int .u8 (m : Int), .int .u16 v] TRq from hW1 ▸ (Rq_new w ((n : Int)) t 3 (m : Int) v))
  have HF := hid (show Frm (fun _ => False) w W1.drew from hW1 ▸ (frm_box w _).drew)
  have HM := hid (hm.frm HF.out (fun h => h))
  clear hW1 hm
  generalize w.heap.size = rb at *
  have s0 := HQ.out.cell 0
  have s1 := HQ.out.cell 1
  have s2 := HQ.out.cell 2
  have s3 := HQ.out.cell 3
  have s4 := HQ.out.cell 4
  (simp only [List.getElem?_cons_succ, List.getElem?_cons_zero] at s0 s1 s2 s3 s4)
  have s5 := HM.out.tm n hn5.out
  rw [HT.out] at s5
  go_region_held3 (fun wx => wx.cell? ⟨rb, 0, none⟩ = some (.int .u8 (n : Int)) ∧ wx.cell? ⟨rb, 1, none⟩ = some (.int .u32 t) ∧ wx.cell? ⟨rb, 2, none⟩ = some (.int .u8 3) ∧ wx.cell? ⟨rb, 3, none⟩ = some (.int .u8 (m : Int)) ∧ wx.cell? ⟨rb, 4, none⟩ = some (.int .u16 v) ∧ wx.cell? ⟨b, 64 + n, none⟩ = some (.int .u32 T)) (first | go_keep | exact ⟨s0, s1, s2, s3, s4, s5⟩) (first
    | (go_at_call 40; (with_reducible refine (RIsReq_calls _ (n : Int) t 3 (m : Int) v true HQ1.out).mono ?_); rintro e w9 ⟨rfl, f'⟩; have nQ := hid (HQ.out.frm f' (fun h => h)); have nF := hid (HF.out.trans f'); have nM := hid (HM.out.frm f' (fun h => h)); clear s0 s1 s2 s3 s4 s5; clear f' HQ HF HM; have HQ := nQ; have HF := nF; have HM := nM; clear nQ nF nM; have s0 := HQ.out.cell 0; have s1 := HQ.out.cell 1; have s2 := HQ.out.cell 2; have s3 := HQ.out.cell 3; have s4 := HQ.out.cell 4; (simp only [List.getElem?_cons_succ, List.getElem?_cons_zero] at s0 s1 s2 s3 s4); have s5 := HM.out.tm n hn5.out; (rw [HT.out] at s5))
    | (go_at_call 41; (with_reducible refine (RNull_calls _ (n : Int) t 3 (m : Int) v false HN1.out).mono ?_); rintro e w9 ⟨rfl, f'⟩; have nQ := hid (HQ.out.frm f' (fun h => h)); have nF := hid (HF.out.trans f'); have nM := hid (HM.out.frm f' (fun h => h)); clear s0 s1 s2 s3 s4 s5; clear f' HQ HF HM; have HQ := nQ; have HF := nF; have HM := nM; clear nQ nF nM; have s0 := HQ.out.cell 0; have s1 := HQ.out.cell 1; have s2 := HQ.out.cell 2; have s3 := HQ.out.cell 3; have s4 := HQ.out.cell 4; (simp only [List.getElem?_cons_succ, List.getElem?_cons_zero] at s0 s1 s2 s3 s4); have s5 := HM.out.tm n hn5.out; (rw [HT.out] at s5)))
  have hbr := HBR.out
  have s6 := HM.out.rs n hn5.out
  have s7 := HM.out.val m hm6.out
  rw [HGV.out] at s7
  have z5 := HM.out.blk.free (64 + n)
  have z6 := HM.out.blk.free (69 + n)
  have z7 := HM.out.blk.free m
  have o1 : ¬ m = 64 + n := by have := hm6.out; omega
  have o2 : ¬ m = 69 + n := by have := hm6.out; omega
  have o3 : ¬ 64 + n = 69 + n := by omega
  have o4 : ¬ 64 + n = m := by have := hm6.out; omega
  have o5 : ¬ 69 + n = m := by have := hm6.out; omega
  have o6 : ¬ 69 + n = 64 + n := by omega
  have hbr2 : ¬ b = rb := fun e => hbr e.symm
  go_wp2
  go_region
  go_wp2
  go_region
  go_wp2
  go_region
  go_wp2
  go_region
  go_wp2
  go_ret2
  refine ⟨rfl, ?_, ?_⟩
  · rw [HPV.out, HSC.out]
    repeat (first | exact ((HM.out.setVal m hm6.out ((W0 + v) % 65536) (by omega)).setCli n hn5.out t ((W0 + v) % 65536) HTB.out (by have := HXB.out; omega)) | refine IsRM.drew ?_)
  · repeat (first | exact (((Frm0.any (S := (· = b)) HF.out).setCell ⟨b, m, none⟩ _ (.inr rfl)).setCell ⟨b, 64 + n, none⟩ _ (.inr rfl)).setCell ⟨b, 69 + n, none⟩ _ (.inr rfl) | refine Frm.drew ?_)
theorem RNew_any {w : World} {b : Nat} {vs cs : List Int} (h : IsRM w b vs cs) (c t k y v : Int) (hc : 0 ≤ c) (z : Bool) (hz : isNew cs c t k y v = z) :
    Calls Try.prog 33 #[.pointer (some ⟨b, 0, none⟩), .agg #[.int .u8 c, .int .u32 t, .int .u8 k, .int .u8 y, .int .u16 v]] w fun e w' => e = .returned (.bool z) ∧ Frm (fun _ => False) w w' := by
  subst hz
  by_cases hr : isReal c t k y v = true
  · exact RNew_real h c t k y v hc hr _ (by rw [isNew, hr]; rfl)
  · have hr2 : isReal c t k y v = false := by simpa using hr
    rw [isNew, hr2]
    by_cases hn : isNull c t k y v = true
    · exact RNew_null h c t k y v hn hr2
    · exact RNew_odd h c t k y v (by simpa using hn) hr2
theorem RApply_any {w : World} {b : Nat} {vs cs : List Int} (h : IsRM w b vs cs) (c t k y v : Int) (hc : 0 ≤ c) (ht : 0 ≤ t ∧ t ≤ 4294967295) (hy : 0 ≤ y) (hv : 0 ≤ v ∧ v ≤ 65535) (x : Int) (ok : Bool) (vs' cs' : List Int) (hx : applyM vs cs c t k y v = (x, ok, vs', cs')) :
    Calls Try.prog 26 #[.pointer (some ⟨b, 0, none⟩), .agg #[.int .u8 c, .int .u32 t, .int .u8 k, .int .u8 y, .int .u16 v]] w fun e w' => e = .returned (.tuple #[.int .u32 x, .bool ok]) ∧ IsRM w' b vs' cs' ∧ Frm (· = b) w w' := by
  have still : ∀ {e : Ending} {w' : World}, Frm (fun _ => False) w w' → IsRM w' b vs cs ∧ Frm (· = b) w w' := fun f => ⟨h.frm f (fun h => h), Frm0.any f⟩
  by_cases hr : isReal c t k y v = true
  · rw [applyM, if_pos hr] at hx
    by_cases h1 : getT cs c < t
    · rw [if_pos h1] at hx
      injection hx with hx1 hx2
      injection hx2 with hx2 hx3
      injection hx3 with hx3 hx4
      subst hx1 hx2 hx3 hx4
      have hk : k = 1 ∨ k = 2 ∨ k = 3 := by
        rw [isReal, decide_eq_true_eq] at hr
        omega
      rcases hk with rfl | rfl | rfl
      · exact RApply_new1 h c t y v hc hy hv ht hr h1 _ rfl
      · exact RApply_new2 h c t y v hc hy hv ht hr h1 _ rfl
      · exact RApply_new3 h c t y v hc hy hv ht hr h1 _ rfl
    · rw [if_neg h1] at hx
      by_cases h2 : getT cs c = t
      · rw [if_pos h2] at hx
        injection hx with hx1 hx2
        injection hx2 with hx2 hx3
        injection hx3 with hx3 hx4
        subst hx1 hx2 hx3 hx4
        exact (RApply_same h c t k y v hc hr h2 _ rfl).mono fun e w' ⟨he, f⟩ => ⟨he, h.frm f (fun h => h), Frm0.any f⟩
      · rw [if_neg h2] at hx
        injection hx with hx1 hx2
        injection hx2 with hx2 hx3
        injection hx3 with hx3 hx4
        subst hx1 hx2 hx3 hx4
        exact (RApply_old h c t k y v hc hr (by omega)).mono fun e w' ⟨he, f⟩ => ⟨he, h.frm f (fun h => h), Frm0.any f⟩
  · have hr2 : isReal c t k y v = false := by simpa using hr
    rw [applyM, if_neg hr] at hx
    injection hx with hx1 hx2
    injection hx2 with hx2 hx3
    injection hx3 with hx3 hx4
    subst hx1 hx2 hx3 hx4
    by_cases hn : isNull c t k y v = true
    · exact (RApply_null h c t k y v hn hr2).mono fun e w' ⟨he, f⟩ => ⟨he, h.frm f (fun h => h), Frm0.any f⟩
    · exact (RApply_odd h c t k y v (by simpa using hn) hr2).mono fun e w' ⟨he, f⟩ => ⟨he, h.frm f (fun h => h), Frm0.any f⟩
end Go.Proofs.Ytljfbaakgjmmfaa
