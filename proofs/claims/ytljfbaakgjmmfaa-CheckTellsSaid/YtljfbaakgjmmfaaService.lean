/- Requests done once: New, does, Peek, Apply. -/
import Derived.Test.YtljfbaakgjmmfaaReq
namespace Go.Proofs.Ytljfbaakgjmmfaa
open Go.RowKit Go.ChangeShapes
set_option linter.unusedVariables false
set_option linter.unusedSimpArgs false
abbrev TRq : Nat := 30
def isNew (cs : List Int) (c t k y v : Int) : Bool := isReal c t k y v && decide (getT cs c < t)
def doesR (k was v : Int) : Int := if k = 3 then (was + v) % 65536 else was
def doesV (k was v : Int) : Int := if k = 1 then v else if k = 3 then (was + v) % 65536 else was
def applyM (vs cs : List Int) (c t k y v : Int) : Int × Bool × List Int × List Int :=
  if isReal c t k y v = true then
    if getT cs c < t then (doesR k (getV vs y) v, true, putV vs y (doesV k (getV vs y) v), setC cs c t (doesR k (getV vs y) v))
    else if getT cs c = t then (getR cs c, true, vs, cs) else (0, false, vs, cs)
  else (0, false, vs, cs)
theorem Rq_new (w : World) (c t k y v : Int) : Blk (w.alloc (.cells #[.int .u8 c, .int .u32 t, .int .u8 k, .int .u8 y, .int .u16 v] TRq)) w.heap.size [.int .u8 c, .int .u32 t, .int .u8 k, .int .u8 y, .int .u16 v] TRq := Blk.new w [.int .u8 c, .int .u32 t, .int .u8 k, .int .u8 y, .int .u16 v] TRq
set_option maxHeartbeats 4000000 in
theorem SNew_calls {w : World} {b : Nat} {vs cs : List Int} (h : IsMap w b vs cs) (c t k y v : Int) (hc : 0 ≤ c) (z : Bool) (hz : isNew cs c t k y v = z) :
    Calls Try.prog 24 #[.pointer (some ⟨b, 0, none⟩), .agg #[.int .u8 c, .int .u32 t, .int .u8 k, .int .u8 y, .int .u16 v]] w fun e w' => e = .returned (.bool z) ∧ Frm (fun _ => False) w w' := by
  have HM := hid h; clear h
  obtain ⟨T, hT⟩ : ∃ T, getT cs c = T := ⟨_, rfl⟩
  obtain ⟨R, hR⟩ : ∃ R, getR cs c = R := ⟨_, rfl⟩
  have HT := hid hT; have HR := hid hR; clear hT hR
  obtain ⟨rl, hrl⟩ : ∃ rl, isReal c t k y v = rl := ⟨_, rfl⟩
  have HL := hid hrl; clear hrl
  have HZ := hid hz; clear hz
  go_enter Try.func24, Try.ntmps24
  go_wp2_with (first
    | (go_at_call 34; (with_reducible refine (PClient_calls (HM.out.frm (frm_box _ _) (fun h => h)) c hc T R HT.out HR.out).mono ?_); rintro e w' ⟨rfl, f'⟩; have HQ := hid ((Rq_new w c t k y v).frm f' (fun h => h)); have HF := hid ((frm_box w _).trans f'); clear f'; have q0 := HQ.out.cell 0; have q1 := HQ.out.cell 1; have q2 := HQ.out.cell 2; have q3 := HQ.out.cell 3; have q4 := HQ.out.cell 4; simp only [List.getElem?_cons_succ, List.getElem?_cons_zero] at q0 q1 q2 q3 q4)
    | (go_at_call 35; (with_reducible refine (Real_calls _ c t k y v rl HL.out).mono ?_); rintro e w' ⟨rfl, f'⟩; clear q0 q1 q2 q3 q4; have nQ := hid (HQ.out.frm f' (fun h => h)); have nF := hid (HF.out.trans f'); clear f' HQ HF; have HQ := nQ; have HF := nF; clear nQ nF; have q0 := HQ.out.cell 0; have q1 := HQ.out.cell 1; have q2 := HQ.out.cell 2; have q3 := HQ.out.cell 3; have q4 := HQ.out.cell 4; simp only [List.getElem?_cons_succ, List.getElem?_cons_zero] at q0 q1 q2 q3 q4))
  all_goals
    go_ret
    refine ⟨ret_bool ?_, HF.out⟩
    rw [← HZ.out, isNew, HL.out, HT.out]
    first | rfl | (simp [*]; done) | simp_all
theorem op_new (w : World) (k y v : Int) : Blk (w.alloc (.cells #[.int .u8 k, .int .u8 y, .int .u16 v] 28)) w.heap.size [.int .u8 k, .int .u8 y, .int .u16 v] 28 := Blk.new w [.int .u8 k, .int .u8 y, .int .u16 v] 28
set_option maxHeartbeats 4000000 in
theorem Does_calls {w : World} {b : Nat} {vs cs : List Int} (h : IsMap w b vs cs) (k y v : Int) (hy : 0 ≤ y) (hv : 0 ≤ v ∧ v ≤ 65535) (x z : Int) (hx : doesR k (getV vs y) v = x) (hz : doesV k (getV vs y) v = z) :
    Calls Try.prog 37 #[.pointer (some ⟨b, 0, none⟩), .agg #[.int .u8 k, .int .u8 y, .int .u16 v]] w fun e w' => e = .returned (.tuple #[.int .u16 x, .int .u16 z]) ∧ Frm (fun _ => False) w w' := by
  obtain ⟨W, hW⟩ : ∃ W, getV vs y = W := ⟨_, rfl⟩
  rw [hW] at hx hz
  have HM := hid h; clear h
  have HW := hid hW; clear hW
  by_cases k1 : k = 1
  · subst k1
    rw [doesR, if_neg (by decide)] at hx
    rw [doesV, if_pos rfl] at hz
    subst hx hz
    go_enter Try.func37, Try.ntmps37
    go_wp2_with (first
      | (go_at_call 13; (with_reducible refine (PGet_calls (HM.out.frm (frm_box _ _) (fun h => h)) y hy W HW.out).mono ?_); rintro e w' ⟨rfl, rfl⟩; have HF := hid (frm_box w (.cells #[.int .u8 1, .int .u8 y, .int .u16 v] 28)); have HQ := hid (op_new w 1 y v); have q0 := HQ.out.cell 0; have q1 := HQ.out.cell 1; have q2 := HQ.out.cell 2; simp only [List.getElem?_cons_succ, List.getElem?_cons_zero] at q0 q1 q2))
    go_region
    go_wp2
    go_ret2
    exact ⟨rfl, HF.out.drew⟩
  by_cases k3 : k = 3
  · subst k3
    rw [doesR, if_pos rfl] at hx
    rw [doesV, if_neg (by decide), if_pos rfl] at hz
    subst hx hz
    have hm : IntKind.u16.wrap (W + v) = (W + v) % 65536 := by simp [IntKind.wrap, IntKind.bits, IntKind.signed]
    go_enter Try.func37, Try.ntmps37
    go_wp2_with (first
      | (go_at_call 13; (with_reducible refine (PGet_calls (HM.out.frm (frm_box _ _) (fun h => h)) y hy W HW.out).mono ?_); rintro e w' ⟨rfl, rfl⟩; have HF := hid (frm_box w (.cells #[.int .u8 3, .int .u8 y, .int .u16 v] 28)); have HQ := hid (op_new w 3 y v); have q0 := HQ.out.cell 0; have q1 := HQ.out.cell 1; have q2 := HQ.out.cell 2; simp only [List.getElem?_cons_succ, List.getElem?_cons_zero] at q0 q1 q2))
    go_region
    go_wp2
    go_ret2
    exact ⟨rfl, HF.out.drew⟩
  · have k1' : (k == 1) = false := beq_eq_false_iff_ne.2 k1
    have k3' : (k == 3) = false := beq_eq_false_iff_ne.2 k3
    rw [doesR, if_neg k3] at hx
    rw [doesV, if_neg k1, if_neg k3] at hz
    subst hx hz
    go_enter Try.func37, Try.ntmps37
    go_wp2_with (first
      | (go_at_call 13; (with_reducible refine (PGet_calls (HM.out.frm (frm_box _ _) (fun h => h)) y hy W HW.out).mono ?_); rintro e w' ⟨rfl, rfl⟩; have HF := hid (frm_box w (.cells #[.int .u8 k, .int .u8 y, .int .u16 v] 28)); have HQ := hid (op_new w k y v); have q0 := HQ.out.cell 0; have q1 := HQ.out.cell 1; have q2 := HQ.out.cell 2; simp only [List.getElem?_cons_succ, List.getElem?_cons_zero] at q0 q1 q2))
    go_ret2
    exact ⟨rfl, HF.out⟩
set_option maxHeartbeats 4000000 in
theorem Peek_new {w : World} {b : Nat} {vs cs : List Int} (h : IsMap w b vs cs) (c t k y v : Int) (hc : 0 ≤ c) (hy : 0 ≤ y) (hv : 0 ≤ v ∧ v ≤ 65535) (hN : isNew cs c t k y v = true) (x : Int) (hx : doesR k (getV vs y) v = x) (hx0 : 0 ≤ x ∧ x ≤ 65535) :
    Calls Try.prog 36 #[.pointer (some ⟨b, 0, none⟩), .agg #[.int .u8 c, .int .u32 t, .int .u8 k, .int .u8 y, .int .u16 v]] w fun e w' => e = .returned (.tuple #[.int .u32 x, .bool true]) ∧ Frm (fun _ => False) w w' := by
  have HN := hid hN; clear hN
  have e32 : IntKind.u32.wrap x = x := by simp [IntKind.wrap, IntKind.bits, IntKind.signed]; omega
  have HX := hid hx; clear hx
  have HQ := hid ((Rq_new w c t k y v)); have HF := hid (frm_box w (.cells #[.int .u8 c, .int .u32 t, .int .u8 k, .int .u8 y, .int .u16 v] TRq)); have HM := hid (h.frm (frm_box w (.cells #[.int .u8 c, .int .u32 t, .int .u8 k, .int .u8 y, .int .u16 v] TRq)) (fun h => h)); clear h; have q0 := HQ.out.cell 0; have q1 := HQ.out.cell 1; have q2 := HQ.out.cell 2; have q3 := HQ.out.cell 3; have q4 := HQ.out.cell 4; simp only [List.getElem?_cons_succ, List.getElem?_cons_zero] at q0 q1 q2 q3 q4
  go_enter Try.func36, Try.ntmps36
  go_wp2_with (first
    | (go_at_call 24; (with_reducible refine (SNew_calls HM.out c t k y v hc true HN.out).mono ?_); rintro e w' ⟨rfl, f'⟩; clear q0 q1 q2 q3 q4; have nQ := hid (HQ.out.frm f' (fun h => h)); have nF := hid (HF.out.trans f'); have nM := hid (HM.out.frm f' (fun h => h)); clear f' HQ HF HM; have HQ := nQ; have HF := nF; have HM := nM; clear nQ nF nM; have q0 := HQ.out.cell 0; have q1 := HQ.out.cell 1; have q2 := HQ.out.cell 2; have q3 := HQ.out.cell 3; have q4 := HQ.out.cell 4; simp only [List.getElem?_cons_succ, List.getElem?_cons_zero] at q0 q1 q2 q3 q4)
    | (go_at_call 37; (with_reducible refine (Does_calls HM.out k y v hy hv x _ HX.out rfl).mono ?_); rintro e w' ⟨rfl, f'⟩; clear q0 q1 q2 q3 q4; have nQ := hid (HQ.out.frm f' (fun h => h)); have nF := hid (HF.out.trans f'); have nM := hid (HM.out.frm f' (fun h => h)); clear f' HQ HF HM; have HQ := nQ; have HF := nF; have HM := nM; clear nQ nF nM; have q0 := HQ.out.cell 0; have q1 := HQ.out.cell 1; have q2 := HQ.out.cell 2; have q3 := HQ.out.cell 3; have q4 := HQ.out.cell 4; simp only [List.getElem?_cons_succ, List.getElem?_cons_zero] at q0 q1 q2 q3 q4))
  go_ret2
  exact ⟨rfl, HF.out⟩
set_option maxHeartbeats 4000000 in
theorem Peek_same {w : World} {b : Nat} {vs cs : List Int} (h : IsMap w b vs cs) (c t k y v : Int) (hc : 0 ≤ c) (hy : 0 ≤ y) (hv : 0 ≤ v ∧ v ≤ 65535) (hL : isReal c t k y v = true) (hT : getT cs c = t) (x : Int) (hR : getR cs c = x) :
    Calls Try.prog 36 #[.pointer (some ⟨b, 0, none⟩), .agg #[.int .u8 c, .int .u32 t, .int .u8 k, .int .u8 y, .int .u16 v]] w fun e w' => e = .returned (.tuple #[.int .u32 x, .bool true]) ∧ Frm (fun _ => False) w w' := by
  have HN := hid (show isNew cs c t k y v = false by rw [isNew, hT]; simp)
  have HL := hid hL; have HT := hid hT; have HR := hid hR; clear hL hT hR
  have HQ := hid ((Rq_new w c t k y v)); have HF := hid (frm_box w (.cells #[.int .u8 c, .int .u32 t, .int .u8 k, .int .u8 y, .int .u16 v] TRq)); have HM := hid (h.frm (frm_box w (.cells #[.int .u8 c, .int .u32 t, .int .u8 k, .int .u8 y, .int .u16 v] TRq)) (fun h => h)); clear h; have q0 := HQ.out.cell 0; have q1 := HQ.out.cell 1; have q2 := HQ.out.cell 2; have q3 := HQ.out.cell 3; have q4 := HQ.out.cell 4; simp only [List.getElem?_cons_succ, List.getElem?_cons_zero] at q0 q1 q2 q3 q4
  go_enter Try.func36, Try.ntmps36
  go_wp2_with (first
    | (go_at_call 24; (with_reducible refine (SNew_calls HM.out c t k y v hc false HN.out).mono ?_); rintro e w' ⟨rfl, f'⟩; clear q0 q1 q2 q3 q4; have nQ := hid (HQ.out.frm f' (fun h => h)); have nF := hid (HF.out.trans f'); have nM := hid (HM.out.frm f' (fun h => h)); clear f' HQ HF HM; have HQ := nQ; have HF := nF; have HM := nM; clear nQ nF nM; have q0 := HQ.out.cell 0; have q1 := HQ.out.cell 1; have q2 := HQ.out.cell 2; have q3 := HQ.out.cell 3; have q4 := HQ.out.cell 4; simp only [List.getElem?_cons_succ, List.getElem?_cons_zero] at q0 q1 q2 q3 q4)
    | (go_at_call 34; (with_reducible refine (PClient_calls HM.out c hc _ _ HT.out HR.out).mono ?_); rintro e w' ⟨rfl, f'⟩; clear q0 q1 q2 q3 q4; have nQ := hid (HQ.out.frm f' (fun h => h)); have nF := hid (HF.out.trans f'); have nM := hid (HM.out.frm f' (fun h => h)); clear f' HQ HF HM; have HQ := nQ; have HF := nF; have HM := nM; clear nQ nF nM; have q0 := HQ.out.cell 0; have q1 := HQ.out.cell 1; have q2 := HQ.out.cell 2; have q3 := HQ.out.cell 3; have q4 := HQ.out.cell 4; simp only [List.getElem?_cons_succ, List.getElem?_cons_zero] at q0 q1 q2 q3 q4)
    | (go_at_call 35; (with_reducible refine (Real_calls _ c t k y v true HL.out).mono ?_); rintro e w' ⟨rfl, f'⟩; clear q0 q1 q2 q3 q4; have nQ := hid (HQ.out.frm f' (fun h => h)); have nF := hid (HF.out.trans f'); have nM := hid (HM.out.frm f' (fun h => h)); clear f' HQ HF HM; have HQ := nQ; have HF := nF; have HM := nM; clear nQ nF nM; have q0 := HQ.out.cell 0; have q1 := HQ.out.cell 1; have q2 := HQ.out.cell 2; have q3 := HQ.out.cell 3; have q4 := HQ.out.cell 4; simp only [List.getElem?_cons_succ, List.getElem?_cons_zero] at q0 q1 q2 q3 q4))
  go_ret2
  exact ⟨rfl, HF.out⟩
set_option maxHeartbeats 4000000 in
theorem Peek_none {w : World} {b : Nat} {vs cs : List Int} (h : IsMap w b vs cs) (c t k y v : Int) (hc : 0 ≤ c) (hN : isNew cs c t k y v = false) (hS : ¬ (isReal c t k y v = true ∧ getT cs c = t)) :
    Calls Try.prog 36 #[.pointer (some ⟨b, 0, none⟩), .agg #[.int .u8 c, .int .u32 t, .int .u8 k, .int .u8 y, .int .u16 v]] w fun e w' => e = .returned (.tuple #[.int .u32 0, .bool false]) ∧ Frm (fun _ => False) w w' := by
  obtain ⟨T, hT⟩ : ∃ T, getT cs c = T := ⟨_, rfl⟩
  obtain ⟨R, hR⟩ : ∃ R, getR cs c = R := ⟨_, rfl⟩
  obtain ⟨rl, hL⟩ : ∃ rl, isReal c t k y v = rl := ⟨_, rfl⟩
  rw [hL, hT] at hS
  have HN := hid hN; have HL := hid hL; have HT := hid hT; have HR := hid hR; clear hN hL hT hR
  have HQ := hid ((Rq_new w c t k y v)); have HF := hid (frm_box w (.cells #[.int .u8 c, .int .u32 t, .int .u8 k, .int .u8 y, .int .u16 v] TRq)); have HM := hid (h.frm (frm_box w (.cells #[.int .u8 c, .int .u32 t, .int .u8 k, .int .u8 y, .int .u16 v] TRq)) (fun h => h)); clear h; have q0 := HQ.out.cell 0; have q1 := HQ.out.cell 1; have q2 := HQ.out.cell 2; have q3 := HQ.out.cell 3; have q4 := HQ.out.cell 4; simp only [List.getElem?_cons_succ, List.getElem?_cons_zero] at q0 q1 q2 q3 q4
  cases rl
  · clear hS
    go_enter Try.func36, Try.ntmps36
    go_wp2_with (first
      | (go_at_call 24; (with_reducible refine (SNew_calls HM.out c t k y v hc false HN.out).mono ?_); rintro e w' ⟨rfl, f'⟩; clear q0 q1 q2 q3 q4; have nQ := hid (HQ.out.frm f' (fun h => h)); have nF := hid (HF.out.trans f'); have nM := hid (HM.out.frm f' (fun h => h)); clear f' HQ HF HM; have HQ := nQ; have HF := nF; have HM := nM; clear nQ nF nM; have q0 := HQ.out.cell 0; have q1 := HQ.out.cell 1; have q2 := HQ.out.cell 2; have q3 := HQ.out.cell 3; have q4 := HQ.out.cell 4; simp only [List.getElem?_cons_succ, List.getElem?_cons_zero] at q0 q1 q2 q3 q4)
      | (go_at_call 34; (with_reducible refine (PClient_calls HM.out c hc _ _ HT.out HR.out).mono ?_); rintro e w' ⟨rfl, f'⟩; clear q0 q1 q2 q3 q4; have nQ := hid (HQ.out.frm f' (fun h => h)); have nF := hid (HF.out.trans f'); have nM := hid (HM.out.frm f' (fun h => h)); clear f' HQ HF HM; have HQ := nQ; have HF := nF; have HM := nM; clear nQ nF nM; have q0 := HQ.out.cell 0; have q1 := HQ.out.cell 1; have q2 := HQ.out.cell 2; have q3 := HQ.out.cell 3; have q4 := HQ.out.cell 4; simp only [List.getElem?_cons_succ, List.getElem?_cons_zero] at q0 q1 q2 q3 q4)
      | (go_at_call 35; (with_reducible refine (Real_calls _ c t k y v false HL.out).mono ?_); rintro e w' ⟨rfl, f'⟩; clear q0 q1 q2 q3 q4; have nQ := hid (HQ.out.frm f' (fun h => h)); have nF := hid (HF.out.trans f'); have nM := hid (HM.out.frm f' (fun h => h)); clear f' HQ HF HM; have HQ := nQ; have HF := nF; have HM := nM; clear nQ nF nM; have q0 := HQ.out.cell 0; have q1 := HQ.out.cell 1; have q2 := HQ.out.cell 2; have q3 := HQ.out.cell 3; have q4 := HQ.out.cell 4; simp only [List.getElem?_cons_succ, List.getElem?_cons_zero] at q0 q1 q2 q3 q4))
    go_ret2
    exact ⟨rfl, HF.out⟩
  · have hTt : T ≠ t := fun h => hS ⟨rfl, h⟩
    have qt : (T == t) = false := beq_eq_false_iff_ne.2 hTt
    clear hS hTt
    go_enter Try.func36, Try.ntmps36
    go_wp2_with (first
      | (go_at_call 24; (with_reducible refine (SNew_calls HM.out c t k y v hc false HN.out).mono ?_); rintro e w' ⟨rfl, f'⟩; clear q0 q1 q2 q3 q4; have nQ := hid (HQ.out.frm f' (fun h => h)); have nF := hid (HF.out.trans f'); have nM := hid (HM.out.frm f' (fun h => h)); clear f' HQ HF HM; have HQ := nQ; have HF := nF; have HM := nM; clear nQ nF nM; have q0 := HQ.out.cell 0; have q1 := HQ.out.cell 1; have q2 := HQ.out.cell 2; have q3 := HQ.out.cell 3; have q4 := HQ.out.cell 4; simp only [List.getElem?_cons_succ, List.getElem?_cons_zero] at q0 q1 q2 q3 q4)
      | (go_at_call 34; (with_reducible refine (PClient_calls HM.out c hc _ _ HT.out HR.out).mono ?_); rintro e w' ⟨rfl, f'⟩; clear q0 q1 q2 q3 q4; have nQ := hid (HQ.out.frm f' (fun h => h)); have nF := hid (HF.out.trans f'); have nM := hid (HM.out.frm f' (fun h => h)); clear f' HQ HF HM; have HQ := nQ; have HF := nF; have HM := nM; clear nQ nF nM; have q0 := HQ.out.cell 0; have q1 := HQ.out.cell 1; have q2 := HQ.out.cell 2; have q3 := HQ.out.cell 3; have q4 := HQ.out.cell 4; simp only [List.getElem?_cons_succ, List.getElem?_cons_zero] at q0 q1 q2 q3 q4)
      | (go_at_call 35; (with_reducible refine (Real_calls _ c t k y v true HL.out).mono ?_); rintro e w' ⟨rfl, f'⟩; clear q0 q1 q2 q3 q4; have nQ := hid (HQ.out.frm f' (fun h => h)); have nF := hid (HF.out.trans f'); have nM := hid (HM.out.frm f' (fun h => h)); clear f' HQ HF HM; have HQ := nQ; have HF := nF; have HM := nM; clear nQ nF nM; have q0 := HQ.out.cell 0; have q1 := HQ.out.cell 1; have q2 := HQ.out.cell 2; have q3 := HQ.out.cell 3; have q4 := HQ.out.cell 4; simp only [List.getElem?_cons_succ, List.getElem?_cons_zero] at q0 q1 q2 q3 q4))
    go_ret2
    exact ⟨rfl, HF.out⟩
theorem doesR_bd (k : Int) {W v : Int} (hW : 0 ≤ W ∧ W ≤ 65535) (hv : 0 ≤ v ∧ v ≤ 65535) : 0 ≤ doesR k W v ∧ doesR k W v ≤ 65535 := by
  unfold doesR; split <;> omega
theorem doesV_bd (k : Int) {W v : Int} (hW : 0 ≤ W ∧ W ≤ 65535) (hv : 0 ≤ v ∧ v ≤ 65535) : 0 ≤ doesV k W v ∧ doesV k W v ≤ 65535 := by
  unfold doesV; split
  · exact hv
  · split <;> omega
theorem getV_bd {vs : List Int} (h : ∀ x ∈ vs, 0 ≤ x ∧ x ≤ 65535) (y : Int) : 0 ≤ getV vs y ∧ getV vs y ≤ 65535 := by
  unfold getV; split
  · exact getD_bd h (by decide) _
  · decide
set_option maxHeartbeats 8000000 in
theorem Apply_new {w : World} {b : Nat} {vs cs : List Int} (h : IsMap w b vs cs) (c t k y v : Int) (hc : 0 ≤ c) (ht : 0 ≤ t ∧ t ≤ 4294967295) (hy : 0 ≤ y) (hv : 0 ≤ v ∧ v ≤ 65535) (hN : isNew cs c t k y v = true) (x z : Int) (hx : doesR k (getV vs y) v = x) (hz : doesV k (getV vs y) v = z) :
    Calls Try.prog 25 #[.pointer (some ⟨b, 0, none⟩), .agg #[.int .u8 c, .int .u32 t, .int .u8 k, .int .u8 y, .int .u16 v]] w fun e w' => e = .returned (.tuple #[.int .u32 x, .bool true]) ∧ IsMap w' b (putV vs y z) (setC cs c t x) ∧ Frm (· = b) w w' := by
  have hgb := getV_bd h.bv y
  have hxb1 := doesR_bd k hgb hv
  have hzb1 := doesV_bd k hgb hv
  rw [hx] at hxb1
  rw [hz] at hzb1
  have hlt := h.blk.lt
  have HNE := hid (show ¬ w.heap.size = b by omega)
  have HN := hid hN; have HX := hid hx; have HZ := hid hz; clear hN hx hz
  have HXB := hid hxb1; have HZB := hid hzb1; have htb := hid ht; have hxb := hid (show 0 ≤ x ∧ x ≤ 4294967295 by omega)
  clear hgb hxb1 hzb1 hlt
  have HQ := hid ((Rq_new w c t k y v)); have HF := hid (frm_box w (.cells #[.int .u8 c, .int .u32 t, .int .u8 k, .int .u8 y, .int .u16 v] TRq)); have HM := hid (h.frm (frm_box w (.cells #[.int .u8 c, .int .u32 t, .int .u8 k, .int .u8 y, .int .u16 v] TRq)) (fun h => h)); clear h; have q0 := HQ.out.cell 0; have q1 := HQ.out.cell 1; have q2 := HQ.out.cell 2; have q3 := HQ.out.cell 3; have q4 := HQ.out.cell 4; simp only [List.getElem?_cons_succ, List.getElem?_cons_zero] at q0 q1 q2 q3 q4
  have HFB : Hid (Frm (· = b) w (w.alloc (.cells #[.int .u8 c, .int .u32 t, .int .u8 k, .int .u8 y, .int .u16 v] TRq))) := hid (Frm0.any HF.out)
  go_enter Try.func25, Try.ntmps25
  go_wp2_with (first
    | (go_at_call 36; (with_reducible refine (Peek_new HM.out c t k y v hc hy hv HN.out x HX.out HXB.out).mono ?_); rintro e w' ⟨rfl, f'⟩; clear q0 q1 q2 q3 q4; have nQ := hid (HQ.out.frm f' (fun h => h)); have nF := hid (HF.out.trans f'); have nM := hid (HM.out.frm f' (fun h => h)); clear f' HQ HF HM; have HQ := nQ; have HF := nF; have HM := nM; clear nQ nF nM; have q0 := HQ.out.cell 0; have q1 := HQ.out.cell 1; have q2 := HQ.out.cell 2; have q3 := HQ.out.cell 3; have q4 := HQ.out.cell 4; simp only [List.getElem?_cons_succ, List.getElem?_cons_zero] at q0 q1 q2 q3 q4)
    | (go_at_call 24; (with_reducible refine (SNew_calls HM.out c t k y v hc true HN.out).mono ?_); rintro e w' ⟨rfl, f'⟩; clear q0 q1 q2 q3 q4; have nQ := hid (HQ.out.frm f' (fun h => h)); have nF := hid (HF.out.trans f'); have nM := hid (HM.out.frm f' (fun h => h)); clear f' HQ HF HM; have HQ := nQ; have HF := nF; have HM := nM; clear nQ nF nM; have q0 := HQ.out.cell 0; have q1 := HQ.out.cell 1; have q2 := HQ.out.cell 2; have q3 := HQ.out.cell 3; have q4 := HQ.out.cell 4; simp only [List.getElem?_cons_succ, List.getElem?_cons_zero] at q0 q1 q2 q3 q4)
    | (go_at_call 37; (with_reducible refine (Does_calls HM.out k y v hy hv x z HX.out HZ.out).mono ?_); rintro e w' ⟨rfl, f'⟩; clear q0 q1 q2 q3 q4; have nQ := hid (HQ.out.frm f' (fun h => h)); have nF := hid (HF.out.trans f'); have nM := hid (HM.out.frm f' (fun h => h)); clear f' HQ HF HM; have HQ := nQ; have HF := nF; have HM := nM; have HFB := hid (Frm0.any (S := (· = b)) HF.out); clear nQ nF nM; have q0 := HQ.out.cell 0; have q1 := HQ.out.cell 1; have q2 := HQ.out.cell 2; have q3 := HQ.out.cell 3; have q4 := HQ.out.cell 4; simp only [List.getElem?_cons_succ, List.getElem?_cons_zero] at q0 q1 q2 q3 q4)
    | (go_at_call 38; (with_reducible refine (PPut_calls HM.out y hy z HZB.out _ rfl).mono ?_); rintro e w' ⟨rfl, hM, f'⟩; clear q0 q1 q2 q3 q4; have nQ := hid (HQ.out.frm f' HNE.out); have nF := hid (HFB.out.trans f'); clear f' HQ HF HFB HM; have HQ := nQ; have HFB := nF; have HM := hid hM; clear hM nQ nF; have q0 := HQ.out.cell 0; have q1 := HQ.out.cell 1; have q2 := HQ.out.cell 2; have q3 := HQ.out.cell 3; have q4 := HQ.out.cell 4; simp only [List.getElem?_cons_succ, List.getElem?_cons_zero] at q0 q1 q2 q3 q4)
    | (go_at_call 39; (with_reducible refine (PSetClient_calls HM.out c hc t x htb.out hxb.out _ rfl).mono ?_); rintro e w' ⟨rfl, hM, f'⟩; have nF := hid (HFB.out.trans f'); clear f' HQ HFB HM; have HFB := nF; have HM := hid hM; clear hM nF))
  go_ret2
  exact ⟨rfl, HM.out, HFB.out⟩
set_option maxHeartbeats 4000000 in
theorem Apply_same {w : World} {b : Nat} {vs cs : List Int} (h : IsMap w b vs cs) (c t k y v : Int) (hc : 0 ≤ c) (hy : 0 ≤ y) (hv : 0 ≤ v ∧ v ≤ 65535) (hL : isReal c t k y v = true) (hT : getT cs c = t) (x : Int) (hR : getR cs c = x) :
    Calls Try.prog 25 #[.pointer (some ⟨b, 0, none⟩), .agg #[.int .u8 c, .int .u32 t, .int .u8 k, .int .u8 y, .int .u16 v]] w fun e w' => e = .returned (.tuple #[.int .u32 x, .bool true]) ∧ Frm (fun _ => False) w w' := by
  have HN := hid (show isNew cs c t k y v = false by rw [isNew, hT]; simp)
  have HL := hid hL; have HT := hid hT; have HR := hid hR; clear hL hT hR
  have HQ := hid ((Rq_new w c t k y v)); have HF := hid (frm_box w (.cells #[.int .u8 c, .int .u32 t, .int .u8 k, .int .u8 y, .int .u16 v] TRq)); have HM := hid (h.frm (frm_box w (.cells #[.int .u8 c, .int .u32 t, .int .u8 k, .int .u8 y, .int .u16 v] TRq)) (fun h => h)); clear h; have q0 := HQ.out.cell 0; have q1 := HQ.out.cell 1; have q2 := HQ.out.cell 2; have q3 := HQ.out.cell 3; have q4 := HQ.out.cell 4; simp only [List.getElem?_cons_succ, List.getElem?_cons_zero] at q0 q1 q2 q3 q4
  go_enter Try.func25, Try.ntmps25
  go_wp2_with (first
    | (go_at_call 36; (with_reducible refine (Peek_same HM.out c t k y v hc hy hv HL.out HT.out x HR.out).mono ?_); rintro e w' ⟨rfl, f'⟩; clear q0 q1 q2 q3 q4; have nQ := hid (HQ.out.frm f' (fun h => h)); have nF := hid (HF.out.trans f'); have nM := hid (HM.out.frm f' (fun h => h)); clear f' HQ HF HM; have HQ := nQ; have HF := nF; have HM := nM; clear nQ nF nM; have q0 := HQ.out.cell 0; have q1 := HQ.out.cell 1; have q2 := HQ.out.cell 2; have q3 := HQ.out.cell 3; have q4 := HQ.out.cell 4; simp only [List.getElem?_cons_succ, List.getElem?_cons_zero] at q0 q1 q2 q3 q4)
    | (go_at_call 24; (with_reducible refine (SNew_calls HM.out c t k y v hc false HN.out).mono ?_); rintro e w' ⟨rfl, f'⟩; clear q0 q1 q2 q3 q4; have nQ := hid (HQ.out.frm f' (fun h => h)); have nF := hid (HF.out.trans f'); have nM := hid (HM.out.frm f' (fun h => h)); clear f' HQ HF HM; have HQ := nQ; have HF := nF; have HM := nM; clear nQ nF nM; have q0 := HQ.out.cell 0; have q1 := HQ.out.cell 1; have q2 := HQ.out.cell 2; have q3 := HQ.out.cell 3; have q4 := HQ.out.cell 4; simp only [List.getElem?_cons_succ, List.getElem?_cons_zero] at q0 q1 q2 q3 q4))
  go_ret2
  exact ⟨rfl, HF.out⟩
set_option maxHeartbeats 4000000 in
theorem Apply_none {w : World} {b : Nat} {vs cs : List Int} (h : IsMap w b vs cs) (c t k y v : Int) (hc : 0 ≤ c) (hN : isNew cs c t k y v = false) (hS : ¬ (isReal c t k y v = true ∧ getT cs c = t)) :
    Calls Try.prog 25 #[.pointer (some ⟨b, 0, none⟩), .agg #[.int .u8 c, .int .u32 t, .int .u8 k, .int .u8 y, .int .u16 v]] w fun e w' => e = .returned (.tuple #[.int .u32 0, .bool false]) ∧ Frm (fun _ => False) w w' := by
  have HN := hid hN; have HS := hid hS; clear hN hS
  have HQ := hid ((Rq_new w c t k y v)); have HF := hid (frm_box w (.cells #[.int .u8 c, .int .u32 t, .int .u8 k, .int .u8 y, .int .u16 v] TRq)); have HM := hid (h.frm (frm_box w (.cells #[.int .u8 c, .int .u32 t, .int .u8 k, .int .u8 y, .int .u16 v] TRq)) (fun h => h)); clear h; have q0 := HQ.out.cell 0; have q1 := HQ.out.cell 1; have q2 := HQ.out.cell 2; have q3 := HQ.out.cell 3; have q4 := HQ.out.cell 4; simp only [List.getElem?_cons_succ, List.getElem?_cons_zero] at q0 q1 q2 q3 q4
  go_enter Try.func25, Try.ntmps25
  go_wp2_with (first
    | (go_at_call 36; (with_reducible refine (Peek_none HM.out c t k y v hc HN.out HS.out).mono ?_); rintro e w' ⟨rfl, f'⟩; clear q0 q1 q2 q3 q4; have nQ := hid (HQ.out.frm f' (fun h => h)); have nF := hid (HF.out.trans f'); have nM := hid (HM.out.frm f' (fun h => h)); clear f' HQ HF HM; have HQ := nQ; have HF := nF; have HM := nM; clear nQ nF nM; have q0 := HQ.out.cell 0; have q1 := HQ.out.cell 1; have q2 := HQ.out.cell 2; have q3 := HQ.out.cell 3; have q4 := HQ.out.cell 4; simp only [List.getElem?_cons_succ, List.getElem?_cons_zero] at q0 q1 q2 q3 q4)
    | (go_at_call 24; (with_reducible refine (SNew_calls HM.out c t k y v hc false HN.out).mono ?_); rintro e w' ⟨rfl, f'⟩; clear q0 q1 q2 q3 q4; have nQ := hid (HQ.out.frm f' (fun h => h)); have nF := hid (HF.out.trans f'); have nM := hid (HM.out.frm f' (fun h => h)); clear f' HQ HF HM; have HQ := nQ; have HF := nF; have HM := nM; clear nQ nF nM; have q0 := HQ.out.cell 0; have q1 := HQ.out.cell 1; have q2 := HQ.out.cell 2; have q3 := HQ.out.cell 3; have q4 := HQ.out.cell 4; simp only [List.getElem?_cons_succ, List.getElem?_cons_zero] at q0 q1 q2 q3 q4))
  go_ret2
  exact ⟨rfl, HF.out⟩
end Go.Proofs.Ytljfbaakgjmmfaa
