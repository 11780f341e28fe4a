/- The queue: Put, Done. -/
import Derived.Test.YtabmbppolmikcaaQuObj
namespace Go.Proofs.Ytabmbppolmikcaa
open Go.RowKit Go.ChangeShapes
set_option linter.unusedVariables false
set_option linter.unusedSimpArgs false
set_option maxRecDepth 100000
theorem eqlRq (w : World) (c t k y v c' t' k' y' v' : Int) (z : Bool) (hz : (c == c' && (t == t' && (k == k' && (y == y' && v == v')))) = z) : (binOp .eql TRq (.agg #[.int .u8 c, .int .u32 t, .int .u8 k, .int .u8 y, .int .u16 v]) (.agg #[.int .u8 c', .int .u32 t', .int .u8 k', .int .u8 y', .int .u16 v'])).run Try.prog w = .ok (.bool z) w := by
  subst hz
  go_simp
  repeat' split
  all_goals simp_all
theorem neqRq (w : World) (c t k y v c' t' k' y' v' : Int) (z : Bool) (hz : (c == c' && (t == t' && (k == k' && (y == y' && v == v')))) = z) : (binOp .neq TRq (.agg #[.int .u8 c, .int .u32 t, .int .u8 k, .int .u8 y, .int .u16 v]) (.agg #[.int .u8 c', .int .u32 t', .int .u8 k', .int .u8 y', .int .u16 v'])).run Try.prog w = .ok (.bool (!z)) w := by
  subst hz
  go_simp
  repeat' split
  all_goals simp_all
theorem eqNull (c t k y v : Int) : (c == 0 && (t == 0 && (k == 0 && (y == 0 && v == 0)))) = isNull c t k y v := by
  rw [Bool.eq_iff_iff]; simp [isNull]
theorem Of_at {w : World} {qb mb n : Nat} {L : List Qe} (h : IsQ w qb mb L n) (c : Int) (q : Rq) (z : Bool) (hq : ofR L c = q) (hz : ofB L c = z) :
    Calls Try.prog 18 #[.pointer (some ⟨qb, 0, none⟩), .int .u8 c] w fun e w' => e = .returned (.tuple #[.agg #[.int .u8 q.c, .int .u32 q.t, .int .u8 q.k, .int .u8 q.y, .int .u16 q.v], .bool z]) ∧ Frm (fun _ => False) w w' := by
  have := Of_calls h c
  rw [hq, hz] at this
  exact this
theorem QI.okR {L : List Qe} {n : Nat} (h : QI L n) (c : Int) : RqOk (ofR L c) := by
  cases hb : ofB L c
  · rw [(of_none (of_false hb)).2]; exact ⟨by decide, by decide, by decide, by decide, by decide⟩
  · obtain ⟨e, he, h1, _⟩ := of_mem hb
    rw [← h1]; exact (h.real e he).2
/-- The client's one deleted, if there is one. -/
theorem QI.del2 {L : List Qe} {n : Nat} (h : QI L n) (c : Int) : IsUpd (fQ L) (fQ (dropC L c)) (rqV (ofR L c)) none ∧ (if fQ L (rqV (ofR L c)) = none then L.length else L.length - 1) = (dropC L c).length := by
  cases hb : ofB L c
  · have h1 := of_none (of_false hb)
    have h2 : dropC L c = L := by unfold dropC; exact List.filter_eq_self.2 fun e he => by simpa using of_false hb e he
    rw [h1.2, h2, if_pos (fQ_rq0 h)]
    exact ⟨⟨fQ_rq0 h, fun x _ => rfl⟩, rfl⟩
  · refine ⟨h.updel hb, ?_⟩
    obtain ⟨e, he, h1, _⟩ := of_mem hb
    rw [← h1, h.find he, if_neg (by simp), dropC_len h, if_pos hb]
def putB (L : List Qe) (r : Rq) : Bool := isReal r.c r.t r.k r.y r.v && !(ofB L r.c && decide (r.t ≤ (ofR L r.c).t))
def doneL (L : List Qe) (c ts : Int) : List Qe := if (ofB L c && decide ((ofR L c).t ≤ ts)) = true then dropC L c else L
theorem frm_two {w w' : World} {qb mb : Nat} (f : Frm (· = mb) w w') : Frm (Two qb mb) w w' := f.mono (fun _ _ e => .inr e)
set_option maxHeartbeats 8000000 in
theorem Put_no {w : World} {qb mb n : Nat} {L : List Qe} (h : IsQ w qb mb L n) (hn : n ≤ 100000) (r : Rq) (hr : RqOk r) (hz : putB L r = false) :
    Calls Try.prog 8 #[.pointer (some ⟨qb, 0, none⟩), .agg #[.int .u8 r.c, .int .u32 r.t, .int .u8 r.k, .int .u8 r.y, .int .u16 r.v]] w fun e w' => e = .returned (.bool false) ∧ IsQ w' qb mb L n ∧ Frm (fun _ => False) w w' := by
  have HE0 := hid h; have HR0 := hid hr; have HN := hid hn
  obtain ⟨q, hq⟩ : ∃ q, ofR L r.c = q := ⟨_, rfl⟩
  have HQO := hid (show RqOk q from hq ▸ h.inv.okR r.c)
  obtain ⟨rc, rt, rk, ry, rv⟩ := r
  obtain ⟨qc, qt, qk, qy, qv⟩ := q
  dsimp only at hq hz
  have HQQ := hid hq
  have HB0 := hid (Blk.new w [.int .u8 rc, .int .u32 rt, .int .u8 rk, .int .u8 ry, .int .u16 rv] TRq)
  have HE := hid (h.quiet (qbox w (.cells #[.int .u8 rc, .int .u32 rt, .int .u8 rk, .int .u8 ry, .int .u16 rv] TRq)))
  have HF := hid (qbox w (.cells #[.int .u8 rc, .int .u32 rt, .int .u8 rk, .int .u8 ry, .int .u16 rv] TRq))
  obtain ⟨w1, hw1⟩ : ∃ w1, w.alloc (.cells #[.int .u8 rc, .int .u32 rt, .int .u8 rk, .int .u8 ry, .int .u16 rv] TRq) = w1 := ⟨_, rfl⟩
  obtain ⟨kb, hkb⟩ : ∃ kb, w.heap.size = kb := ⟨_, rfl⟩
  rw [hw1, hkb] at HB0
  rw [hw1] at HE HF
  have HKB := hid (show ¬ kb = qb ∧ ¬ kb = mb ∧ w.heap.size ≤ kb by have := h.lt; omega)
  have k0 := HB0.out.cell 0; have k1 := HB0.out.cell 1; have k2 := HB0.out.cell 2; have k3 := HB0.out.cell 3; have k4 := HB0.out.cell 4
  simp only [List.getElem?_cons_succ, List.getElem?_cons_zero] at k0 k1 k2 k3 k4
  unfold putB at hz
  dsimp only at hz
  rw [hq] at hz
  obtain ⟨z, hob⟩ : ∃ z, ofB L rc = z := ⟨_, rfl⟩
  rw [hob] at hz
  have HOB := hid hob
  clear h hr hn hq hob
  cases hnl : isNull rc rt rk ry rv
  · cases hrl : isReal rc rt rk ry rv
    · have HIR := hid (show (isNull rc rt rk ry rv || isReal rc rt rk ry rv) = false by rw [hnl, hrl]; rfl)
      clear hz hnl hrl
      cases z
      · go_enter Try.func8, Try.ntmps8
        go_wp2_with (first
          | (go_at_call 18; (with_reducible refine (Of_at HE.out rc ⟨qc, qt, qk, qy, qv⟩ false HQQ.out HOB.out).mono ?_); rintro e w2 ⟨rfl, f'⟩; clear k0 k1 k2 k3 k4 hw1 hkb; have k0 := fun o => ((HB0.out.frm f' (fun h => h)).frm (qbox w2 o) (fun h => h)).cell 0; have k1 := fun o => ((HB0.out.frm f' (fun h => h)).frm (qbox w2 o) (fun h => h)).cell 1; have k2 := fun o => ((HB0.out.frm f' (fun h => h)).frm (qbox w2 o) (fun h => h)).cell 2; have k3 := fun o => ((HB0.out.frm f' (fun h => h)).frm (qbox w2 o) (fun h => h)).cell 3; have k4 := fun o => ((HB0.out.frm f' (fun h => h)).frm (qbox w2 o) (fun h => h)).cell 4; (simp only [List.getElem?_cons_succ, List.getElem?_cons_zero] at k0 k1 k2 k3 k4); have HB2 := hid ((HB0.out.frm f' (fun h => h)).frm (qbox w2 (.cells #[.int .u8 qc, .int .u32 qt, .int .u8 qk, .int .u8 qy, .int .u16 qv] TRq)) (fun h => h)); have HU2 := hid (Blk.new w2 [.int .u8 qc, .int .u32 qt, .int .u8 qk, .int .u8 qy, .int .u16 qv] TRq); have HE2 := hid ((HE.out.quiet f').quiet (qbox w2 (.cells #[.int .u8 qc, .int .u32 qt, .int .u8 qk, .int .u8 qy, .int .u16 qv] TRq))); have HF2 := hid ((HF.out.trans f').trans (qbox w2 (.cells #[.int .u8 qc, .int .u32 qt, .int .u8 qk, .int .u8 qy, .int .u16 qv] TRq))); have HUB := hid (show ¬ w2.heap.size = qb ∧ ¬ w2.heap.size = mb ∧ ¬ w2.heap.size = kb by have := (HE.out.quiet f').lt; have := (HB0.out.frm f' (fun h => h)).lt; omega); clear f' HB0 HE HF HQQ HOB)
          | (go_at_call 19; (with_reducible refine (MIsReq_calls _ rc rt rk ry rv false HIR.out).mono ?_); rintro e w3 ⟨rfl, f'⟩; clear k0 k1 k2 k3 k4; have HB3 := hid (HB2.out.frm f' (fun h => h)); have HU3 := hid (HU2.out.frm f' (fun h => h)); have HE3 := hid (HE2.out.quiet f'); have HF3 := hid (HF2.out.trans f'); clear f' HB2 HU2 HE2 HF2; have k0 := HB3.out.cell 0; have k1 := HB3.out.cell 1; have k2 := HB3.out.cell 2; have k3 := HB3.out.cell 3; have k4 := HB3.out.cell 4; have u1 := HU3.out.cell 1; (simp only [List.getElem?_cons_succ, List.getElem?_cons_zero] at k0 k1 k2 k3 k4 u1)))
        go_ret
        exact ⟨rfl, HE3.out, HF3.out⟩
      · go_enter Try.func8, Try.ntmps8
        go_wp2_with (first
          | (go_at_call 18; (with_reducible refine (Of_at HE.out rc ⟨qc, qt, qk, qy, qv⟩ true HQQ.out HOB.out).mono ?_); rintro e w2 ⟨rfl, f'⟩; clear k0 k1 k2 k3 k4 hw1 hkb; have k0 := fun o => ((HB0.out.frm f' (fun h => h)).frm (qbox w2 o) (fun h => h)).cell 0; have k1 := fun o => ((HB0.out.frm f' (fun h => h)).frm (qbox w2 o) (fun h => h)).cell 1; have k2 := fun o => ((HB0.out.frm f' (fun h => h)).frm (qbox w2 o) (fun h => h)).cell 2; have k3 := fun o => ((HB0.out.frm f' (fun h => h)).frm (qbox w2 o) (fun h => h)).cell 3; have k4 := fun o => ((HB0.out.frm f' (fun h => h)).frm (qbox w2 o) (fun h => h)).cell 4; (simp only [List.getElem?_cons_succ, List.getElem?_cons_zero] at k0 k1 k2 k3 k4); have HB2 := hid ((HB0.out.frm f' (fun h => h)).frm (qbox w2 (.cells #[.int .u8 qc, .int .u32 qt, .int .u8 qk, .int .u8 qy, .int .u16 qv] TRq)) (fun h => h)); have HU2 := hid (Blk.new w2 [.int .u8 qc, .int .u32 qt, .int .u8 qk, .int .u8 qy, .int .u16 qv] TRq); have HE2 := hid ((HE.out.quiet f').quiet (qbox w2 (.cells #[.int .u8 qc, .int .u32 qt, .int .u8 qk, .int .u8 qy, .int .u16 qv] TRq))); have HF2 := hid ((HF.out.trans f').trans (qbox w2 (.cells #[.int .u8 qc, .int .u32 qt, .int .u8 qk, .int .u8 qy, .int .u16 qv] TRq))); have HUB := hid (show ¬ w2.heap.size = qb ∧ ¬ w2.heap.size = mb ∧ ¬ w2.heap.size = kb by have := (HE.out.quiet f').lt; have := (HB0.out.frm f' (fun h => h)).lt; omega); clear f' HB0 HE HF HQQ HOB)
          | (go_at_call 19; (with_reducible refine (MIsReq_calls _ rc rt rk ry rv false HIR.out).mono ?_); rintro e w3 ⟨rfl, f'⟩; clear k0 k1 k2 k3 k4; have HB3 := hid (HB2.out.frm f' (fun h => h)); have HU3 := hid (HU2.out.frm f' (fun h => h)); have HE3 := hid (HE2.out.quiet f'); have HF3 := hid (HF2.out.trans f'); clear f' HB2 HU2 HE2 HF2; have k0 := HB3.out.cell 0; have k1 := HB3.out.cell 1; have k2 := HB3.out.cell 2; have k3 := HB3.out.cell 3; have k4 := HB3.out.cell 4; have u1 := HU3.out.cell 1; (simp only [List.getElem?_cons_succ, List.getElem?_cons_zero] at k0 k1 k2 k3 k4 u1)))
        go_ret
        exact ⟨rfl, HE3.out, HF3.out⟩
    · have HIR := hid (show (isNull rc rt rk ry rv || isReal rc rt rk ry rv) = true by rw [hnl, hrl]; rfl)
      have heq := fun w => eqlRq w rc rt rk ry rv 0 0 0 0 0 false ((eqNull _ _ _ _ _).trans hnl)
      rw [hrl, Bool.true_and, Bool.not_eq_false', Bool.and_eq_true, decide_eq_true_eq] at hz
      obtain ⟨rfl, hle⟩ := hz
      dsimp only at hle
      clear hnl hrl
      go_enter Try.func8, Try.ntmps8
      go_wp2_with (first
        | (go_at_call 18; (with_reducible refine (Of_at HE.out rc ⟨qc, qt, qk, qy, qv⟩ true HQQ.out HOB.out).mono ?_); rintro e w2 ⟨rfl, f'⟩; clear k0 k1 k2 k3 k4 hw1 hkb; have k0 := fun o => ((HB0.out.frm f' (fun h => h)).frm (qbox w2 o) (fun h => h)).cell 0; have k1 := fun o => ((HB0.out.frm f' (fun h => h)).frm (qbox w2 o) (fun h => h)).cell 1; have k2 := fun o => ((HB0.out.frm f' (fun h => h)).frm (qbox w2 o) (fun h => h)).cell 2; have k3 := fun o => ((HB0.out.frm f' (fun h => h)).frm (qbox w2 o) (fun h => h)).cell 3; have k4 := fun o => ((HB0.out.frm f' (fun h => h)).frm (qbox w2 o) (fun h => h)).cell 4; (simp only [List.getElem?_cons_succ, List.getElem?_cons_zero] at k0 k1 k2 k3 k4); have HB2 := hid ((HB0.out.frm f' (fun h => h)).frm (qbox w2 (.cells #[.int .u8 qc, .int .u32 qt, .int .u8 qk, .int .u8 qy, .int .u16 qv] TRq)) (fun h => h)); have HU2 := hid (Blk.new w2 [.int .u8 qc, .int .u32 qt, .int .u8 qk, .int .u8 qy, .int .u16 qv] TRq); have HE2 := hid ((HE.out.quiet f').quiet (qbox w2 (.cells #[.int .u8 qc, .int .u32 qt, .int .u8 qk, .int .u8 qy, .int .u16 qv] TRq))); have HF2 := hid ((HF.out.trans f').trans (qbox w2 (.cells #[.int .u8 qc, .int .u32 qt, .int .u8 qk, .int .u8 qy, .int .u16 qv] TRq))); have HUB := hid (show ¬ w2.heap.size = qb ∧ ¬ w2.heap.size = mb ∧ ¬ w2.heap.size = kb by have := (HE.out.quiet f').lt; have := (HB0.out.frm f' (fun h => h)).lt; omega); clear f' HB0 HE HF HQQ HOB)
        | (go_at_call 19; (with_reducible refine (MIsReq_calls _ rc rt rk ry rv true HIR.out).mono ?_); rintro e w3 ⟨rfl, f'⟩; clear k0 k1 k2 k3 k4; have HB3 := hid (HB2.out.frm f' (fun h => h)); have HU3 := hid (HU2.out.frm f' (fun h => h)); have HE3 := hid (HE2.out.quiet f'); have HF3 := hid (HF2.out.trans f'); clear f' HB2 HU2 HE2 HF2; have k0 := HB3.out.cell 0; have k1 := HB3.out.cell 1; have k2 := HB3.out.cell 2; have k3 := HB3.out.cell 3; have k4 := HB3.out.cell 4; have u1 := HU3.out.cell 1; (simp only [List.getElem?_cons_succ, List.getElem?_cons_zero] at k0 k1 k2 k3 k4 u1)))
      go_ret
      exact ⟨rfl, HE3.out, HF3.out⟩
  · have HIR := hid (show (isNull rc rt rk ry rv || isReal rc rt rk ry rv) = true by rw [hnl]; rfl)
    have heq := fun w => eqlRq w rc rt rk ry rv 0 0 0 0 0 true ((eqNull _ _ _ _ _).trans hnl)
    clear hz hnl
    cases z
    · go_enter Try.func8, Try.ntmps8
      go_wp2_with (first
        | (go_at_call 18; (with_reducible refine (Of_at HE.out rc ⟨qc, qt, qk, qy, qv⟩ false HQQ.out HOB.out).mono ?_); rintro e w2 ⟨rfl, f'⟩; clear k0 k1 k2 k3 k4 hw1 hkb; have k0 := fun o => ((HB0.out.frm f' (fun h => h)).frm (qbox w2 o) (fun h => h)).cell 0; have k1 := fun o => ((HB0.out.frm f' (fun h => h)).frm (qbox w2 o) (fun h => h)).cell 1; have k2 := fun o => ((HB0.out.frm f' (fun h => h)).frm (qbox w2 o) (fun h => h)).cell 2; have k3 := fun o => ((HB0.out.frm f' (fun h => h)).frm (qbox w2 o) (fun h => h)).cell 3; have k4 := fun o => ((HB0.out.frm f' (fun h => h)).frm (qbox w2 o) (fun h => h)).cell 4; (simp only [List.getElem?_cons_succ, List.getElem?_cons_zero] at k0 k1 k2 k3 k4); have HB2 := hid ((HB0.out.frm f' (fun h => h)).frm (qbox w2 (.cells #[.int .u8 qc, .int .u32 qt, .int .u8 qk, .int .u8 qy, .int .u16 qv] TRq)) (fun h => h)); have HU2 := hid (Blk.new w2 [.int .u8 qc, .int .u32 qt, .int .u8 qk, .int .u8 qy, .int .u16 qv] TRq); have HE2 := hid ((HE.out.quiet f').quiet (qbox w2 (.cells #[.int .u8 qc, .int .u32 qt, .int .u8 qk, .int .u8 qy, .int .u16 qv] TRq))); have HF2 := hid ((HF.out.trans f').trans (qbox w2 (.cells #[.int .u8 qc, .int .u32 qt, .int .u8 qk, .int .u8 qy, .int .u16 qv] TRq))); have HUB := hid (show ¬ w2.heap.size = qb ∧ ¬ w2.heap.size = mb ∧ ¬ w2.heap.size = kb by have := (HE.out.quiet f').lt; have := (HB0.out.frm f' (fun h => h)).lt; omega); clear f' HB0 HE HF HQQ HOB)
        | (go_at_call 19; (with_reducible refine (MIsReq_calls _ rc rt rk ry rv true HIR.out).mono ?_); rintro e w3 ⟨rfl, f'⟩; clear k0 k1 k2 k3 k4; have HB3 := hid (HB2.out.frm f' (fun h => h)); have HU3 := hid (HU2.out.frm f' (fun h => h)); have HE3 := hid (HE2.out.quiet f'); have HF3 := hid (HF2.out.trans f'); clear f' HB2 HU2 HE2 HF2; have k0 := HB3.out.cell 0; have k1 := HB3.out.cell 1; have k2 := HB3.out.cell 2; have k3 := HB3.out.cell 3; have k4 := HB3.out.cell 4; have u1 := HU3.out.cell 1; (simp only [List.getElem?_cons_succ, List.getElem?_cons_zero] at k0 k1 k2 k3 k4 u1)))
      go_ret
      exact ⟨rfl, HE3.out, HF3.out⟩
    · go_enter Try.func8, Try.ntmps8
      go_wp2_with (first
        | (go_at_call 18; (with_reducible refine (Of_at HE.out rc ⟨qc, qt, qk, qy, qv⟩ true HQQ.out HOB.out).mono ?_); rintro e w2 ⟨rfl, f'⟩; clear k0 k1 k2 k3 k4 hw1 hkb; have k0 := fun o => ((HB0.out.frm f' (fun h => h)).frm (qbox w2 o) (fun h => h)).cell 0; have k1 := fun o => ((HB0.out.frm f' (fun h => h)).frm (qbox w2 o) (fun h => h)).cell 1; have k2 := fun o => ((HB0.out.frm f' (fun h => h)).frm (qbox w2 o) (fun h => h)).cell 2; have k3 := fun o => ((HB0.out.frm f' (fun h => h)).frm (qbox w2 o) (fun h => h)).cell 3; have k4 := fun o => ((HB0.out.frm f' (fun h => h)).frm (qbox w2 o) (fun h => h)).cell 4; (simp only [List.getElem?_cons_succ, List.getElem?_cons_zero] at k0 k1 k2 k3 k4); have HB2 := hid ((HB0.out.frm f' (fun h => h)).frm (qbox w2 (.cells #[.int .u8 qc, .int .u32 qt, .int .u8 qk, .int .u8 qy, .int .u16 qv] TRq)) (fun h => h)); have HU2 := hid (Blk.new w2 [.int .u8 qc, .int .u32 qt, .int .u8 qk, .int .u8 qy, .int .u16 qv] TRq); have HE2 := hid ((HE.out.quiet f').quiet (qbox w2 (.cells #[.int .u8 qc, .int .u32 qt, .int .u8 qk, .int .u8 qy, .int .u16 qv] TRq))); have HF2 := hid ((HF.out.trans f').trans (qbox w2 (.cells #[.int .u8 qc, .int .u32 qt, .int .u8 qk, .int .u8 qy, .int .u16 qv] TRq))); have HUB := hid (show ¬ w2.heap.size = qb ∧ ¬ w2.heap.size = mb ∧ ¬ w2.heap.size = kb by have := (HE.out.quiet f').lt; have := (HB0.out.frm f' (fun h => h)).lt; omega); clear f' HB0 HE HF HQQ HOB)
        | (go_at_call 19; (with_reducible refine (MIsReq_calls _ rc rt rk ry rv true HIR.out).mono ?_); rintro e w3 ⟨rfl, f'⟩; clear k0 k1 k2 k3 k4; have HB3 := hid (HB2.out.frm f' (fun h => h)); have HU3 := hid (HU2.out.frm f' (fun h => h)); have HE3 := hid (HE2.out.quiet f'); have HF3 := hid (HF2.out.trans f'); clear f' HB2 HU2 HE2 HF2; have k0 := HB3.out.cell 0; have k1 := HB3.out.cell 1; have k2 := HB3.out.cell 2; have k3 := HB3.out.cell 3; have k4 := HB3.out.cell 4; have u1 := HU3.out.cell 1; (simp only [List.getElem?_cons_succ, List.getElem?_cons_zero] at k0 k1 k2 k3 k4 u1)))
      go_ret
      exact ⟨rfl, HE3.out, HF3.out⟩
set_option maxHeartbeats 8000000 in
theorem Put_yes {w : World} {qb mb n : Nat} {L : List Qe} (h : IsQ w qb mb L n) (hn : n ≤ 100000) (r : Rq) (hr : RqOk r) (hz : putB L r = true) :
    Calls Try.prog 8 #[.pointer (some ⟨qb, 0, none⟩), .agg #[.int .u8 r.c, .int .u32 r.t, .int .u8 r.k, .int .u8 r.y, .int .u16 r.v]] w fun e w' => e = .returned (.bool true) ∧ IsQ w' qb mb (dropC L r.c ++ [(r, n)]) (n + 1) ∧ Frm (Two qb mb) w w' := by
  have HE0 := hid h; have HR0 := hid hr; have HN := hid hn
  obtain ⟨q, hq⟩ : ∃ q, ofR L r.c = q := ⟨_, rfl⟩
  have HQO := hid (show RqOk q from hq ▸ h.inv.okR r.c)
  obtain ⟨rc, rt, rk, ry, rv⟩ := r
  obtain ⟨qc, qt, qk, qy, qv⟩ := q
  dsimp only at hq hz
  have HQQ := hid hq
  have HB0 := hid (Blk.new w [.int .u8 rc, .int .u32 rt, .int .u8 rk, .int .u8 ry, .int .u16 rv] TRq)
  have HE := hid (h.quiet (qbox w (.cells #[.int .u8 rc, .int .u32 rt, .int .u8 rk, .int .u8 ry, .int .u16 rv] TRq)))
  have HF := hid (qbox w (.cells #[.int .u8 rc, .int .u32 rt, .int .u8 rk, .int .u8 ry, .int .u16 rv] TRq))
  obtain ⟨w1, hw1⟩ : ∃ w1, w.alloc (.cells #[.int .u8 rc, .int .u32 rt, .int .u8 rk, .int .u8 ry, .int .u16 rv] TRq) = w1 := ⟨_, rfl⟩
  obtain ⟨kb, hkb⟩ : ∃ kb, w.heap.size = kb := ⟨_, rfl⟩
  rw [hw1, hkb] at HB0
  rw [hw1] at HE HF
  have HKB := hid (show ¬ kb = qb ∧ ¬ kb = mb ∧ w.heap.size ≤ kb by have := h.lt; omega)
  have k0 := HB0.out.cell 0; have k1 := HB0.out.cell 1; have k2 := HB0.out.cell 2; have k3 := HB0.out.cell 3; have k4 := HB0.out.cell 4
  simp only [List.getElem?_cons_succ, List.getElem?_cons_zero] at k0 k1 k2 k3 k4
  unfold putB at hz
  dsimp only at hz
  rw [hq] at hz
  obtain ⟨z, hob⟩ : ∃ z, ofB L rc = z := ⟨_, rfl⟩
  rw [hob, Bool.and_eq_true, Bool.not_eq_true'] at hz
  have HOB := hid hob
  obtain ⟨hrl, hz⟩ := hz
  have hnl : isNull rc rt rk ry rv = false := by
    refine decide_eq_false fun hh => ?_
    have := of_decide_eq_true hrl
    omega
  have HIR := hid (show (isNull rc rt rk ry rv || isReal rc rt rk ry rv) = true by rw [hnl, hrl]; rfl)
  have heq := fun w => eqlRq w rc rt rk ry rv 0 0 0 0 0 false ((eqNull _ _ _ _ _).trans hnl)
  have HPI := hid (h.inv.put (r := ⟨rc, rt, rk, ry, rv⟩) hrl hr)
  have HUPD := hid (h.inv.updput (r := ⟨rc, rt, rk, ry, rv⟩) hrl hr)
  have HNO := hid (show fQ (dropC L rc) (rqV ⟨rc, rt, rk, ry, rv⟩) = none from fQ_none fun e he h2 => (dropC_mem.1 he).2 (by rw [h2]))
  have HSM := hid (show (dropC L rc).length < 9223372036854775807 by have := (h.inv.drop rc).few; omega)
  obtain ⟨kr, hkr⟩ := keyRq _ hr
  have HKR := hid hkr
  have HQQ2 := hid hq
  clear h hr hn hq hob hnl hrl hkr
  cases z
  · clear hz
    go_enter Try.func8, Try.ntmps8
    go_wp2_with (first
      | (go_at_call 18; (with_reducible refine (Of_at HE.out rc ⟨qc, qt, qk, qy, qv⟩ false HQQ.out HOB.out).mono ?_); rintro e w2 ⟨rfl, f'⟩; clear k0 k1 k2 k3 k4 hw1 hkb; have k0 := fun o => ((HB0.out.frm f' (fun h => h)).frm (qbox w2 o) (fun h => h)).cell 0; have k1 := fun o => ((HB0.out.frm f' (fun h => h)).frm (qbox w2 o) (fun h => h)).cell 1; have k2 := fun o => ((HB0.out.frm f' (fun h => h)).frm (qbox w2 o) (fun h => h)).cell 2; have k3 := fun o => ((HB0.out.frm f' (fun h => h)).frm (qbox w2 o) (fun h => h)).cell 3; have k4 := fun o => ((HB0.out.frm f' (fun h => h)).frm (qbox w2 o) (fun h => h)).cell 4; (simp only [List.getElem?_cons_succ, List.getElem?_cons_zero] at k0 k1 k2 k3 k4); have HB2 := hid ((HB0.out.frm f' (fun h => h)).frm (qbox w2 (.cells #[.int .u8 qc, .int .u32 qt, .int .u8 qk, .int .u8 qy, .int .u16 qv] TRq)) (fun h => h)); have HU2 := hid (Blk.new w2 [.int .u8 qc, .int .u32 qt, .int .u8 qk, .int .u8 qy, .int .u16 qv] TRq); have HE2 := hid ((HE.out.quiet f').quiet (qbox w2 (.cells #[.int .u8 qc, .int .u32 qt, .int .u8 qk, .int .u8 qy, .int .u16 qv] TRq))); have HF2 := hid ((HF.out.trans f').trans (qbox w2 (.cells #[.int .u8 qc, .int .u32 qt, .int .u8 qk, .int .u8 qy, .int .u16 qv] TRq))); have HUB := hid (show ¬ w2.heap.size = qb ∧ ¬ w2.heap.size = mb ∧ ¬ w2.heap.size = kb by have := (HE.out.quiet f').lt; have := (HB0.out.frm f' (fun h => h)).lt; omega); clear f' HB0 HE HF HQQ HOB)
      | (go_at_call 19; (with_reducible refine (MIsReq_calls _ rc rt rk ry rv true HIR.out).mono ?_); rintro e w3 ⟨rfl, f'⟩; clear k0 k1 k2 k3 k4; have HB3 := hid (HB2.out.frm f' (fun h => h)); have HU3 := hid (HU2.out.frm f' (fun h => h)); have HE3 := hid (HE2.out.quiet f'); have HF3 := hid (HF2.out.trans f'); clear f' HB2 HU2 HE2 HF2; have k0 := HB3.out.cell 0; have k1 := HB3.out.cell 1; have k2 := HB3.out.cell 2; have k3 := HB3.out.cell 3; have k4 := HB3.out.cell 4; have u1 := HU3.out.cell 1; (simp only [List.getElem?_cons_succ, List.getElem?_cons_zero] at k0 k1 k2 k3 k4 u1)))
    clear k0 k1 k2 k3 k4 u1
    obtain ⟨ub, hub⟩ : ∃ ub, w2.heap.size = ub := ⟨_, rfl⟩
    rw [hub]
    rw [hub] at HUB HU3
    clear hub
    obtain ⟨kq, hkq⟩ := keyRq _ HQO.out
    have HKQ := hid hkq
    have HDEL := hid (show IsUpd (fQ L) (fQ (dropC L rc)) (rqV ⟨qc, qt, qk, qy, qv⟩) none ∧ (if fQ L (rqV ⟨qc, qt, qk, qy, qv⟩) = none then L.length else L.length - 1) = (dropC L rc).length from HQQ2.out ▸ HE3.out.inv.del2 rc)
    have HLM := hid HE3.out.lm
    have HE4 := hid (HE3.out.quiet (frm_drew _)); have HU4 := hid (HU3.out.frm (frm_drew _) (fun h => h)); have HB4 := hid (HB3.out.frm (frm_drew _) (fun h => h)); have HF4 := hid HF3.out.drew
    clear HE3 HU3 HB3 HF3 hkq
    refine wp_region_held_drew (S := fun wx => wx.cell? ⟨qb, 0, none⟩ = some (.map (some mb)) ∧ wx.cell? ⟨ub, 0, none⟩ = some (.int .u8 qc) ∧ wx.cell? ⟨ub, 1, none⟩ = some (.int .u32 qt) ∧ wx.cell? ⟨ub, 2, none⟩ = some (.int .u8 qk) ∧ wx.cell? ⟨ub, 3, none⟩ = some (.int .u8 qy) ∧ wx.cell? ⟨ub, 4, none⟩ = some (.int .u16 qv)) (by kernel_rfl) ?_ (fun hHeld => ?_)
    · exact ⟨HE4.out.cell, HU4.out.cell 0, HU4.out.cell 1, HU4.out.cell 2, HU4.out.cell 3, HU4.out.cell 4⟩
    refine wpAnyH_take (i := 0) (oi := ⟨some 32, _, _, _, _, _⟩) (v := ?v1) rfl (by kernel_rfl) (by kernel_rfl) (by kernel_rfl) (fun _ _ _ h => h) (Or.inl ⟨by rfl, ?y1⟩) (by assumption) ?r1
    case y1 => (intro wx hSx; (try dsimp only at hSx); go_simp; (try with_reducible rfl))
    try simp only [Act.put, List.setIfInBounds_toArray, List.set_cons_zero, List.set_cons_succ]
    refine wpAnyH_take (i := 1) (oi := ⟨some 33, _, _, _, _, _⟩) (v := ?v2) rfl (by kernel_rfl) (by kernel_rfl) (by kernel_rfl) (fun _ _ _ h => h) (Or.inl ⟨by rfl, ?y2⟩) (by assumption) ?r2
    case y2 => (intro wx hSx; (try dsimp only at hSx); go_simp; (try with_reducible rfl))
    try simp only [Act.put, List.setIfInBounds_toArray, List.set_cons_zero, List.set_cons_succ]
    refine wpAnyH_take (i := 2) (oi := ⟨some 34, _, _, _, _, _⟩) (v := ?v3) rfl (by kernel_rfl) (by kernel_rfl) (by kernel_rfl) (fun _ _ _ h => h) (Or.inl ⟨by rfl, ?y3⟩) (by assumption) ?r3
    case y3 => (intro wx hSx; (try dsimp only at hSx); go_simp; (try with_reducible rfl))
    try simp only [Act.put, List.setIfInBounds_toArray, List.set_cons_zero, List.set_cons_succ]
    refine wpAnyH_take (i := 3) (oi := ⟨some 35, _, _, _, _, _⟩) (v := ?v4) rfl (by kernel_rfl) (by kernel_rfl) (by kernel_rfl) (fun _ _ _ h => h) (Or.inl ⟨by rfl, ?y4⟩) (by assumption) ?r4
    case y4 => (intro wx hSx; (try dsimp only at hSx); go_simp; (try with_reducible rfl))
    try simp only [Act.put, List.setIfInBounds_toArray, List.set_cons_zero, List.set_cons_succ]
    refine wpAnyH_take (i := 4) (oi := ⟨some 36, _, _, _, _, _⟩) (v := ?v5) rfl (by kernel_rfl) (by kernel_rfl) (by kernel_rfl) (fun _ _ _ h => h) (Or.inl ⟨by rfl, ?y5⟩) (by assumption) ?r5
    case y5 => (intro wx hSx; (try dsimp only at hSx); go_simp; (try with_reducible rfl))
    try simp only [Act.put, List.setIfInBounds_toArray, List.set_cons_zero, List.set_cons_succ]
    refine wpAnyH_ready (rs := [5]) (by kernel_rfl) (by simp) ?_
    refine AllReadyH.cons (o := ⟨none, _, _, _, _, _⟩) rfl (fun K hK => ?_) AllReadyH.nil
    refine wp_mp_del (.tmp 35) (.tmp 36) rfl HE4.out.map keyedRq u_mapr (rqV ⟨qc, qt, qk, qy, qv⟩) kq HKQ.out HDEL.out.1 rfl rfl ?_
    intro w5 hm5 hf5 hs5
    have HM5 := hid (show IsMp TRq w5 mb (dropC L rc).length (fQ (dropC L rc)) by rw [HDEL.out.2] at hm5; exact hm5); have HQ5 := hid (HE4.out.blk.frm hf5 (fun e => HLM.out e.symm)); have HU5 := hid (HU4.out.frm hf5 (fun e => HUB.out.2.1 e)); have HB5 := hid (HB4.out.frm hf5 (fun e => HKB.out.2.1 e)); have HF5 := hid (HF4.out.mono (S' := (· = mb)) (fun _ _ h => h.elim) |>.trans' hf5 (fun _ _ e => e))
    clear hm5 hf5 hs5
    refine hK.out _ _ ?_ (fun hHeld2 => ?_)
    · ((try dsimp only); (exact ⟨HQ5.out.cell 0, HU5.out.cell 0, HU5.out.cell 1, HU5.out.cell 2, HU5.out.cell 3, HU5.out.cell 4⟩))
    clear hK K hHeld; have hHeld := hHeld2; clear hHeld2
    try simp only [Act.put, List.setIfInBounds_toArray, List.set_cons_zero, List.set_cons_succ]
    refine wpAnyH_done (by kernel_rfl) ?_ _
    clear hHeld HE4 HU4 HB4 HF4
    go_wp2_with fail
    have HM6 := hid (HM5.out.frm (frm_drew _) (fun h => h)); have HQ6 := hid (HQ5.out.frm (frm_drew _) (fun h => h)); have HB6 := hid (HB5.out.frm (frm_drew _) (fun h => h)); have HF6 := hid HF5.out.drew
    clear HM5 HQ5 HB5 HF5 HU5
    refine wp_region_held_drew (S := fun wx => wx.cell? ⟨qb, 0, none⟩ = some (.map (some mb)) ∧ wx.cell? ⟨qb, 1, none⟩ = some (.int .u64 n) ∧ wx.cell? ⟨kb, 0, none⟩ = some (.int .u8 rc) ∧ wx.cell? ⟨kb, 1, none⟩ = some (.int .u32 rt) ∧ wx.cell? ⟨kb, 2, none⟩ = some (.int .u8 rk) ∧ wx.cell? ⟨kb, 3, none⟩ = some (.int .u8 ry) ∧ wx.cell? ⟨kb, 4, none⟩ = some (.int .u16 rv)) (by kernel_rfl) ?_ (fun hHeld => ?_)
    · exact ⟨HQ6.out.cell 0, HQ6.out.cell 1, HB6.out.cell 0, HB6.out.cell 1, HB6.out.cell 2, HB6.out.cell 3, HB6.out.cell 4⟩
    refine wpAnyH_take (i := 0) (oi := ⟨some 37, _, _, _, _, _⟩) (v := ?v6) rfl (by kernel_rfl) (by kernel_rfl) (by kernel_rfl) (fun _ _ _ h => h) (Or.inl ⟨by rfl, ?y6⟩) (by assumption) ?r6
    case y6 => (intro wx hSx; (try dsimp only at hSx); go_simp; (try with_reducible rfl))
    try simp only [Act.put, List.setIfInBounds_toArray, List.set_cons_zero, List.set_cons_succ]
    refine wpAnyH_take (i := 1) (oi := ⟨some 38, _, _, _, _, _⟩) (v := ?v7) rfl (by kernel_rfl) (by kernel_rfl) (by kernel_rfl) (fun _ _ _ h => h) (Or.inl ⟨by rfl, ?y7⟩) (by assumption) ?r7
    case y7 => (intro wx hSx; (try dsimp only at hSx); go_simp; (try with_reducible rfl))
    try simp only [Act.put, List.setIfInBounds_toArray, List.set_cons_zero, List.set_cons_succ]
    refine wpAnyH_take (i := 2) (oi := ⟨some 39, _, _, _, _, _⟩) (v := ?v8) rfl (by kernel_rfl) (by kernel_rfl) (by kernel_rfl) (fun _ _ _ h => h) (Or.inl ⟨by rfl, ?y8⟩) (by assumption) ?r8
    case y8 => (intro wx hSx; (try dsimp only at hSx); go_simp; (try with_reducible rfl))
    try simp only [Act.put, List.setIfInBounds_toArray, List.set_cons_zero, List.set_cons_succ]
    refine wpAnyH_take (i := 3) (oi := ⟨some 40, _, _, _, _, _⟩) (v := ?v9) rfl (by kernel_rfl) (by kernel_rfl) (by kernel_rfl) (fun _ _ _ h => h) (Or.inl ⟨by rfl, ?y9⟩) (by assumption) ?r9
    case y9 => (intro wx hSx; (try dsimp only at hSx); go_simp; (try with_reducible rfl))
    try simp only [Act.put, List.setIfInBounds_toArray, List.set_cons_zero, List.set_cons_succ]
    refine wpAnyH_take (i := 4) (oi := ⟨some 41, _, _, _, _, _⟩) (v := ?v10) rfl (by kernel_rfl) (by kernel_rfl) (by kernel_rfl) (fun _ _ _ h => h) (Or.inl ⟨by rfl, ?y10⟩) (by assumption) ?r10
    case y10 => (intro wx hSx; (try dsimp only at hSx); go_simp; (try with_reducible rfl))
    try simp only [Act.put, List.setIfInBounds_toArray, List.set_cons_zero, List.set_cons_succ]
    refine wpAnyH_take (i := 5) (oi := ⟨some 42, _, _, _, _, _⟩) (v := ?v11) rfl (by kernel_rfl) (by kernel_rfl) (by kernel_rfl) (fun _ _ _ h => h) (Or.inl ⟨by rfl, ?y11⟩) (by assumption) ?r11
    case y11 => (intro wx hSx; (try dsimp only at hSx); go_simp; (try with_reducible rfl))
    try simp only [Act.put, List.setIfInBounds_toArray, List.set_cons_zero, List.set_cons_succ]
    refine wpAnyH_take (i := 6) (oi := ⟨some 43, _, _, _, _, _⟩) (v := ?v12) rfl (by kernel_rfl) (by kernel_rfl) (by kernel_rfl) (fun _ _ _ h => h) (Or.inl ⟨by rfl, ?y12⟩) (by assumption) ?r12
    case y12 => (intro wx hSx; (try dsimp only at hSx); go_simp; (try with_reducible rfl))
    try simp only [Act.put, List.setIfInBounds_toArray, List.set_cons_zero, List.set_cons_succ]
    refine wpAnyH_take (i := 7) (oi := ⟨some 44, _, _, _, _, _⟩) (v := ?v13) rfl (by kernel_rfl) (by kernel_rfl) (by kernel_rfl) (fun _ _ _ h => h) (Or.inl ⟨by rfl, ?y13⟩) (by assumption) ?r13
    case y13 => (intro wx hSx; (try dsimp only at hSx); go_simp; (try with_reducible rfl))
    try simp only [Act.put, List.setIfInBounds_toArray, List.set_cons_zero, List.set_cons_succ]
    refine wpAnyH_take (i := 8) (oi := ⟨some 45, _, _, _, _, _⟩) (v := ?v14) rfl (by kernel_rfl) (by kernel_rfl) (by kernel_rfl) (fun _ _ _ h => h) (Or.inl ⟨by rfl, ?y14⟩) (by assumption) ?r14
    case y14 => (intro wx hSx; (try dsimp only at hSx); go_simp; (try with_reducible rfl))
    try simp only [Act.put, List.setIfInBounds_toArray, List.set_cons_zero, List.set_cons_succ]
    refine wpAnyH_ready (rs := [9]) (by kernel_rfl) (by simp) ?_
    refine AllReadyH.cons (o := ⟨none, _, _, _, _, _⟩) rfl (fun K hK => ?_) AllReadyH.nil
    refine wp_mp_upd (.tmp 40) (.tmp 41) (.tmp 45) rfl HM6.out keyedRq u_mapr HSM.out (rqV ⟨rc, rt, rk, ry, rv⟩) _ kr HKR.out HUPD.out rfl rfl rfl ?_
    intro w7 hm7 hf7 hs7
    have HM7 := hid (show IsMp TRq w7 mb (dropC L rc ++ [((⟨rc, rt, rk, ry, rv⟩ : Rq), n)]).length (fQ (dropC L rc ++ [(⟨rc, rt, rk, ry, rv⟩, n)])) by rw [if_pos HNO.out] at hm7; rw [List.length_append]; exact hm7); have HQ7 := hid (HQ6.out.frm hf7 (fun e => HLM.out e.symm)); have HB7 := hid (HB6.out.frm hf7 (fun e => HKB.out.2.1 e)); have HF7 := hid (HF6.out.trans' hf7 (fun _ _ e => e))
    clear hm7 hf7 hs7
    refine hK.out _ _ ?_ (fun hHeld2 => ?_)
    · ((try dsimp only); (exact ⟨HQ7.out.cell 0, HQ7.out.cell 1, HB7.out.cell 0, HB7.out.cell 1, HB7.out.cell 2, HB7.out.cell 3, HB7.out.cell 4⟩))
    clear hK K hHeld; have hHeld := hHeld2; clear hHeld2
    try simp only [Act.put, List.setIfInBounds_toArray, List.set_cons_zero, List.set_cons_succ]
    refine wpAnyH_done (by kernel_rfl) ?_ _
    clear hHeld HM6 HQ6 HB6 HF6
    have q0 := HQ7.out.cell 0; have q1 := HQ7.out.cell 1; have z1 := HQ7.out.free 1
    simp only [List.getElem?_cons_succ, List.getElem?_cons_zero] at q0 q1
    have hw64 : IntKind.u64.wrap ((n : Int) + 1) = (n : Int) + 1 := by have := HN.out; simp [IntKind.wrap, IntKind.bits, IntKind.signed]; omega
    go_wp2
    go_ret
    refine ⟨rfl, ⟨HQ7.out.setCell 1 (.int .u64 ((n : Int) + 1)), (HM7.out.frm ((Frm.refl (· = qb) _).setCell ⟨qb, 1, none⟩ (.int .u64 ((n : Int) + 1)) (.inr rfl)) (fun e => HLM.out e)), HPI.out⟩, (frm_two HF7.out).setCell _ _ (.inr (.inl rfl))⟩
  · rw [Bool.true_and, decide_eq_false_iff_not] at hz
    dsimp only at hz
    have hlt : ¬ rt ≤ qt := hz
    clear hz
    go_enter Try.func8, Try.ntmps8
    go_wp2_with (first
      | (go_at_call 18; (with_reducible refine (Of_at HE.out rc ⟨qc, qt, qk, qy, qv⟩ true HQQ.out HOB.out).mono ?_); rintro e w2 ⟨rfl, f'⟩; clear k0 k1 k2 k3 k4 hw1 hkb; have k0 := fun o => ((HB0.out.frm f' (fun h => h)).frm (qbox w2 o) (fun h => h)).cell 0; have k1 := fun o => ((HB0.out.frm f' (fun h => h)).frm (qbox w2 o) (fun h => h)).cell 1; have k2 := fun o => ((HB0.out.frm f' (fun h => h)).frm (qbox w2 o) (fun h => h)).cell 2; have k3 := fun o => ((HB0.out.frm f' (fun h => h)).frm (qbox w2 o) (fun h => h)).cell 3; have k4 := fun o => ((HB0.out.frm f' (fun h => h)).frm (qbox w2 o) (fun h => h)).cell 4; (simp only [List.getElem?_cons_succ, List.getElem?_cons_zero] at k0 k1 k2 k3 k4); have HB2 := hid ((HB0.out.frm f' (fun h => h)).frm (qbox w2 (.cells #[.int .u8 qc, .int .u32 qt, .int .u8 qk, .int .u8 qy, .int .u16 qv] TRq)) (fun h => h)); have HU2 := hid (Blk.new w2 [.int .u8 qc, .int .u32 qt, .int .u8 qk, .int .u8 qy, .int .u16 qv] TRq); have HE2 := hid ((HE.out.quiet f').quiet (qbox w2 (.cells #[.int .u8 qc, .int .u32 qt, .int .u8 qk, .int .u8 qy, .int .u16 qv] TRq))); have HF2 := hid ((HF.out.trans f').trans (qbox w2 (.cells #[.int .u8 qc, .int .u32 qt, .int .u8 qk, .int .u8 qy, .int .u16 qv] TRq))); have HUB := hid (show ¬ w2.heap.size = qb ∧ ¬ w2.heap.size = mb ∧ ¬ w2.heap.size = kb by have := (HE.out.quiet f').lt; have := (HB0.out.frm f' (fun h => h)).lt; omega); clear f' HB0 HE HF HQQ HOB)
      | (go_at_call 19; (with_reducible refine (MIsReq_calls _ rc rt rk ry rv true HIR.out).mono ?_); rintro e w3 ⟨rfl, f'⟩; clear k0 k1 k2 k3 k4; have HB3 := hid (HB2.out.frm f' (fun h => h)); have HU3 := hid (HU2.out.frm f' (fun h => h)); have HE3 := hid (HE2.out.quiet f'); have HF3 := hid (HF2.out.trans f'); clear f' HB2 HU2 HE2 HF2; have k0 := HB3.out.cell 0; have k1 := HB3.out.cell 1; have k2 := HB3.out.cell 2; have k3 := HB3.out.cell 3; have k4 := HB3.out.cell 4; have u1 := HU3.out.cell 1; (simp only [List.getElem?_cons_succ, List.getElem?_cons_zero] at k0 k1 k2 k3 k4 u1)))
    clear k0 k1 k2 k3 k4 u1
    obtain ⟨ub, hub⟩ : ∃ ub, w2.heap.size = ub := ⟨_, rfl⟩
    rw [hub]
    rw [hub] at HUB HU3
    clear hub
    obtain ⟨kq, hkq⟩ := keyRq _ HQO.out
    have HKQ := hid hkq
    have HDEL := hid (show IsUpd (fQ L) (fQ (dropC L rc)) (rqV ⟨qc, qt, qk, qy, qv⟩) none ∧ (if fQ L (rqV ⟨qc, qt, qk, qy, qv⟩) = none then L.length else L.length - 1) = (dropC L rc).length from HQQ2.out ▸ HE3.out.inv.del2 rc)
    have HLM := hid HE3.out.lm
    have HE4 := hid (HE3.out.quiet (frm_drew _)); have HU4 := hid (HU3.out.frm (frm_drew _) (fun h => h)); have HB4 := hid (HB3.out.frm (frm_drew _) (fun h => h)); have HF4 := hid HF3.out.drew
    clear HE3 HU3 HB3 HF3 hkq
    refine wp_region_held_drew (S := fun wx => wx.cell? ⟨qb, 0, none⟩ = some (.map (some mb)) ∧ wx.cell? ⟨ub, 0, none⟩ = some (.int .u8 qc) ∧ wx.cell? ⟨ub, 1, none⟩ = some (.int .u32 qt) ∧ wx.cell? ⟨ub, 2, none⟩ = some (.int .u8 qk) ∧ wx.cell? ⟨ub, 3, none⟩ = some (.int .u8 qy) ∧ wx.cell? ⟨ub, 4, none⟩ = some (.int .u16 qv)) (by kernel_rfl) ?_ (fun hHeld => ?_)
    · exact ⟨HE4.out.cell, HU4.out.cell 0, HU4.out.cell 1, HU4.out.cell 2, HU4.out.cell 3, HU4.out.cell 4⟩
    refine wpAnyH_take (i := 0) (oi := ⟨some 32, _, _, _, _, _⟩) (v := ?v15) rfl (by kernel_rfl) (by kernel_rfl) (by kernel_rfl) (fun _ _ _ h => h) (Or.inl ⟨by rfl, ?y15⟩) (by assumption) ?r15
    case y15 => (intro wx hSx; (try dsimp only at hSx); go_simp; (try with_reducible rfl))
    try simp only [Act.put, List.setIfInBounds_toArray, List.set_cons_zero, List.set_cons_succ]
    refine wpAnyH_take (i := 1) (oi := ⟨some 33, _, _, _, _, _⟩) (v := ?v16) rfl (by kernel_rfl) (by kernel_rfl) (by kernel_rfl) (fun _ _ _ h => h) (Or.inl ⟨by rfl, ?y16⟩) (by assumption) ?r16
    case y16 => (intro wx hSx; (try dsimp only at hSx); go_simp; (try with_reducible rfl))
    try simp only [Act.put, List.setIfInBounds_toArray, List.set_cons_zero, List.set_cons_succ]
    refine wpAnyH_take (i := 2) (oi := ⟨some 34, _, _, _, _, _⟩) (v := ?v17) rfl (by kernel_rfl) (by kernel_rfl) (by kernel_rfl) (fun _ _ _ h => h) (Or.inl ⟨by rfl, ?y17⟩) (by assumption) ?r17
    case y17 => (intro wx hSx; (try dsimp only at hSx); go_simp; (try with_reducible rfl))
    try simp only [Act.put, List.setIfInBounds_toArray, List.set_cons_zero, List.set_cons_succ]
    refine wpAnyH_take (i := 3) (oi := ⟨some 35, _, _, _, _, _⟩) (v := ?v18) rfl (by kernel_rfl) (by kernel_rfl) (by kernel_rfl) (fun _ _ _ h => h) (Or.inl ⟨by rfl, ?y18⟩) (by assumption) ?r18
    case y18 => (intro wx hSx; (try dsimp only at hSx); go_simp; (try with_reducible rfl))
    try simp only [Act.put, List.setIfInBounds_toArray, List.set_cons_zero, List.set_cons_succ]
    refine wpAnyH_take (i := 4) (oi := ⟨some 36, _, _, _, _, _⟩) (v := ?v19) rfl (by kernel_rfl) (by kernel_rfl) (by kernel_rfl) (fun _ _ _ h => h) (Or.inl ⟨by rfl, ?y19⟩) (by assumption) ?r19
    case y19 => (intro wx hSx; (try dsimp only at hSx); go_simp; (try with_reducible rfl))
    try simp only [Act.put, List.setIfInBounds_toArray, List.set_cons_zero, List.set_cons_succ]
    refine wpAnyH_ready (rs := [5]) (by kernel_rfl) (by simp) ?_
    refine AllReadyH.cons (o := ⟨none, _, _, _, _, _⟩) rfl (fun K hK => ?_) AllReadyH.nil
    refine wp_mp_del (.tmp 35) (.tmp 36) rfl HE4.out.map keyedRq u_mapr (rqV ⟨qc, qt, qk, qy, qv⟩) kq HKQ.out HDEL.out.1 rfl rfl ?_
    intro w5 hm5 hf5 hs5
    have HM5 := hid (show IsMp TRq w5 mb (dropC L rc).length (fQ (dropC L rc)) by rw [HDEL.out.2] at hm5; exact hm5); have HQ5 := hid (HE4.out.blk.frm hf5 (fun e => HLM.out e.symm)); have HU5 := hid (HU4.out.frm hf5 (fun e => HUB.out.2.1 e)); have HB5 := hid (HB4.out.frm hf5 (fun e => HKB.out.2.1 e)); have HF5 := hid (HF4.out.mono (S' := (· = mb)) (fun _ _ h => h.elim) |>.trans' hf5 (fun _ _ e => e))
    clear hm5 hf5 hs5
    refine hK.out _ _ ?_ (fun hHeld2 => ?_)
    · ((try dsimp only); (exact ⟨HQ5.out.cell 0, HU5.out.cell 0, HU5.out.cell 1, HU5.out.cell 2, HU5.out.cell 3, HU5.out.cell 4⟩))
    clear hK K hHeld; have hHeld := hHeld2; clear hHeld2
    try simp only [Act.put, List.setIfInBounds_toArray, List.set_cons_zero, List.set_cons_succ]
    refine wpAnyH_done (by kernel_rfl) ?_ _
    clear hHeld HE4 HU4 HB4 HF4
    go_wp2_with fail
    have HM6 := hid (HM5.out.frm (frm_drew _) (fun h => h)); have HQ6 := hid (HQ5.out.frm (frm_drew _) (fun h => h)); have HB6 := hid (HB5.out.frm (frm_drew _) (fun h => h)); have HF6 := hid HF5.out.drew
    clear HM5 HQ5 HB5 HF5 HU5
    refine wp_region_held_drew (S := fun wx => wx.cell? ⟨qb, 0, none⟩ = some (.map (some mb)) ∧ wx.cell? ⟨qb, 1, none⟩ = some (.int .u64 n) ∧ wx.cell? ⟨kb, 0, none⟩ = some (.int .u8 rc) ∧ wx.cell? ⟨kb, 1, none⟩ = some (.int .u32 rt) ∧ wx.cell? ⟨kb, 2, none⟩ = some (.int .u8 rk) ∧ wx.cell? ⟨kb, 3, none⟩ = some (.int .u8 ry) ∧ wx.cell? ⟨kb, 4, none⟩ = some (.int .u16 rv)) (by kernel_rfl) ?_ (fun hHeld => ?_)
    · exact ⟨HQ6.out.cell 0, HQ6.out.cell 1, HB6.out.cell 0, HB6.out.cell 1, HB6.out.cell 2, HB6.out.cell 3, HB6.out.cell 4⟩
    refine wpAnyH_take (i := 0) (oi := ⟨some 37, _, _, _, _, _⟩) (v := ?v20) rfl (by kernel_rfl) (by kernel_rfl) (by kernel_rfl) (fun _ _ _ h => h) (Or.inl ⟨by rfl, ?y20⟩) (by assumption) ?r20
    case y20 => (intro wx hSx; (try dsimp only at hSx); go_simp; (try with_reducible rfl))
    try simp only [Act.put, List.setIfInBounds_toArray, List.set_cons_zero, List.set_cons_succ]
    refine wpAnyH_take (i := 1) (oi := ⟨some 38, _, _, _, _, _⟩) (v := ?v21) rfl (by kernel_rfl) (by kernel_rfl) (by kernel_rfl) (fun _ _ _ h => h) (Or.inl ⟨by rfl, ?y21⟩) (by assumption) ?r21
    case y21 => (intro wx hSx; (try dsimp only at hSx); go_simp; (try with_reducible rfl))
    try simp only [Act.put, List.setIfInBounds_toArray, List.set_cons_zero, List.set_cons_succ]
    refine wpAnyH_take (i := 2) (oi := ⟨some 39, _, _, _, _, _⟩) (v := ?v22) rfl (by kernel_rfl) (by kernel_rfl) (by kernel_rfl) (fun _ _ _ h => h) (Or.inl ⟨by rfl, ?y22⟩) (by assumption) ?r22
    case y22 => (intro wx hSx; (try dsimp only at hSx); go_simp; (try with_reducible rfl))
    try simp only [Act.put, List.setIfInBounds_toArray, List.set_cons_zero, List.set_cons_succ]
    refine wpAnyH_take (i := 3) (oi := ⟨some 40, _, _, _, _, _⟩) (v := ?v23) rfl (by kernel_rfl) (by kernel_rfl) (by kernel_rfl) (fun _ _ _ h => h) (Or.inl ⟨by rfl, ?y23⟩) (by assumption) ?r23
    case y23 => (intro wx hSx; (try dsimp only at hSx); go_simp; (try with_reducible rfl))
    try simp only [Act.put, List.setIfInBounds_toArray, List.set_cons_zero, List.set_cons_succ]
    refine wpAnyH_take (i := 4) (oi := ⟨some 41, _, _, _, _, _⟩) (v := ?v24) rfl (by kernel_rfl) (by kernel_rfl) (by kernel_rfl) (fun _ _ _ h => h) (Or.inl ⟨by rfl, ?y24⟩) (by assumption) ?r24
    case y24 => (intro wx hSx; (try dsimp only at hSx); go_simp; (try with_reducible rfl))
    try simp only [Act.put, List.setIfInBounds_toArray, List.set_cons_zero, List.set_cons_succ]
    refine wpAnyH_take (i := 5) (oi := ⟨some 42, _, _, _, _, _⟩) (v := ?v25) rfl (by kernel_rfl) (by kernel_rfl) (by kernel_rfl) (fun _ _ _ h => h) (Or.inl ⟨by rfl, ?y25⟩) (by assumption) ?r25
    case y25 => (intro wx hSx; (try dsimp only at hSx); go_simp; (try with_reducible rfl))
    try simp only [Act.put, List.setIfInBounds_toArray, List.set_cons_zero, List.set_cons_succ]
    refine wpAnyH_take (i := 6) (oi := ⟨some 43, _, _, _, _, _⟩) (v := ?v26) rfl (by kernel_rfl) (by kernel_rfl) (by kernel_rfl) (fun _ _ _ h => h) (Or.inl ⟨by rfl, ?y26⟩) (by assumption) ?r26
    case y26 => (intro wx hSx; (try dsimp only at hSx); go_simp; (try with_reducible rfl))
    try simp only [Act.put, List.setIfInBounds_toArray, List.set_cons_zero, List.set_cons_succ]
    refine wpAnyH_take (i := 7) (oi := ⟨some 44, _, _, _, _, _⟩) (v := ?v27) rfl (by kernel_rfl) (by kernel_rfl) (by kernel_rfl) (fun _ _ _ h => h) (Or.inl ⟨by rfl, ?y27⟩) (by assumption) ?r27
    case y27 => (intro wx hSx; (try dsimp only at hSx); go_simp; (try with_reducible rfl))
    try simp only [Act.put, List.setIfInBounds_toArray, List.set_cons_zero, List.set_cons_succ]
    refine wpAnyH_take (i := 8) (oi := ⟨some 45, _, _, _, _, _⟩) (v := ?v28) rfl (by kernel_rfl) (by kernel_rfl) (by kernel_rfl) (fun _ _ _ h => h) (Or.inl ⟨by rfl, ?y28⟩) (by assumption) ?r28
    case y28 => (intro wx hSx; (try dsimp only at hSx); go_simp; (try with_reducible rfl))
    try simp only [Act.put, List.setIfInBounds_toArray, List.set_cons_zero, List.set_cons_succ]
    refine wpAnyH_ready (rs := [9]) (by kernel_rfl) (by simp) ?_
    refine AllReadyH.cons (o := ⟨none, _, _, _, _, _⟩) rfl (fun K hK => ?_) AllReadyH.nil
    refine wp_mp_upd (.tmp 40) (.tmp 41) (.tmp 45) rfl HM6.out keyedRq u_mapr HSM.out (rqV ⟨rc, rt, rk, ry, rv⟩) _ kr HKR.out HUPD.out rfl rfl rfl ?_
    intro w7 hm7 hf7 hs7
    have HM7 := hid (show IsMp TRq w7 mb (dropC L rc ++ [((⟨rc, rt, rk, ry, rv⟩ : Rq), n)]).length (fQ (dropC L rc ++ [(⟨rc, rt, rk, ry, rv⟩, n)])) by rw [if_pos HNO.out] at hm7; rw [List.length_append]; exact hm7); have HQ7 := hid (HQ6.out.frm hf7 (fun e => HLM.out e.symm)); have HB7 := hid (HB6.out.frm hf7 (fun e => HKB.out.2.1 e)); have HF7 := hid (HF6.out.trans' hf7 (fun _ _ e => e))
    clear hm7 hf7 hs7
    refine hK.out _ _ ?_ (fun hHeld2 => ?_)
    · ((try dsimp only); (exact ⟨HQ7.out.cell 0, HQ7.out.cell 1, HB7.out.cell 0, HB7.out.cell 1, HB7.out.cell 2, HB7.out.cell 3, HB7.out.cell 4⟩))
    clear hK K hHeld; have hHeld := hHeld2; clear hHeld2
    try simp only [Act.put, List.setIfInBounds_toArray, List.set_cons_zero, List.set_cons_succ]
    refine wpAnyH_done (by kernel_rfl) ?_ _
    clear hHeld HM6 HQ6 HB6 HF6
    have q0 := HQ7.out.cell 0; have q1 := HQ7.out.cell 1; have z1 := HQ7.out.free 1
    simp only [List.getElem?_cons_succ, List.getElem?_cons_zero] at q0 q1
    have hw64 : IntKind.u64.wrap ((n : Int) + 1) = (n : Int) + 1 := by have := HN.out; simp [IntKind.wrap, IntKind.bits, IntKind.signed]; omega
    go_wp2
    go_ret
    refine ⟨rfl, ⟨HQ7.out.setCell 1 (.int .u64 ((n : Int) + 1)), (HM7.out.frm ((Frm.refl (· = qb) _).setCell ⟨qb, 1, none⟩ (.int .u64 ((n : Int) + 1)) (.inr rfl)) (fun e => HLM.out e)), HPI.out⟩, (frm_two HF7.out).setCell _ _ (.inr (.inl rfl))⟩
set_option maxHeartbeats 8000000 in
theorem QDone_calls {w : World} {qb mb n : Nat} {L : List Qe} (h : IsQ w qb mb L n) (c ts : Int) (L' : List Qe) (hL : doneL L c ts = L') :
    Calls Try.prog 14 #[.pointer (some ⟨qb, 0, none⟩), .int .u8 c, .int .u32 ts] w fun e w' => e = .returned (.tuple #[]) ∧ IsQ w' qb mb L' n ∧ Frm (· = mb) w w' := by
  subst hL
  have HE := hid h
  obtain ⟨q, hq⟩ : ∃ q, ofR L c = q := ⟨_, rfl⟩
  have HQO := hid (show RqOk q from hq ▸ h.inv.okR c)
  have HDI := hid (h.inv.drop c)
  unfold doneL
  rw [hq]
  obtain ⟨qc, qt, qk, qy, qv⟩ := q
  have HQQ := hid hq; have HQQ2 := hid hq
  obtain ⟨z, hob⟩ : ∃ z, ofB L c = z := ⟨_, rfl⟩
  rw [hob]
  have HOB := hid hob
  dsimp only
  clear h hq hob
  cases z
  · rw [Bool.false_and, if_neg (by decide)]
    go_enter Try.func14, Try.ntmps14
    go_wp2_with (first
      | (go_at_call 18; (with_reducible refine (Of_at HE.out c ⟨qc, qt, qk, qy, qv⟩ false HQQ.out HOB.out).mono ?_); rintro e w2 ⟨rfl, f'⟩; have HU3 := hid (Blk.new w2 [.int .u8 qc, .int .u32 qt, .int .u8 qk, .int .u8 qy, .int .u16 qv] TRq); have HE3 := hid ((HE.out.quiet f').quiet (qbox w2 (.cells #[.int .u8 qc, .int .u32 qt, .int .u8 qk, .int .u8 qy, .int .u16 qv] TRq))); have HF3 := hid (f'.trans (qbox w2 (.cells #[.int .u8 qc, .int .u32 qt, .int .u8 qk, .int .u8 qy, .int .u16 qv] TRq))); have HUB := hid (show ¬ w2.heap.size = qb ∧ ¬ w2.heap.size = mb ∧ True by have := (HE.out.quiet f').lt; refine ⟨?_, ?_, trivial⟩ <;> omega); clear f' HE HQQ HOB))
    go_end0
    exact ⟨rfl, HE3.out, HF3.out.mono (fun _ _ h => h.elim)⟩
  · by_cases hle : qt ≤ ts
    · rw [decide_eq_true hle, Bool.true_and, if_pos rfl]
      go_enter Try.func14, Try.ntmps14
      go_wp2_with (first
        | (go_at_call 18; (with_reducible refine (Of_at HE.out c ⟨qc, qt, qk, qy, qv⟩ true HQQ.out HOB.out).mono ?_); rintro e w2 ⟨rfl, f'⟩; have HU3 := hid (Blk.new w2 [.int .u8 qc, .int .u32 qt, .int .u8 qk, .int .u8 qy, .int .u16 qv] TRq); have HE3 := hid ((HE.out.quiet f').quiet (qbox w2 (.cells #[.int .u8 qc, .int .u32 qt, .int .u8 qk, .int .u8 qy, .int .u16 qv] TRq))); have HF3 := hid (f'.trans (qbox w2 (.cells #[.int .u8 qc, .int .u32 qt, .int .u8 qk, .int .u8 qy, .int .u16 qv] TRq))); have HUB := hid (show ¬ w2.heap.size = qb ∧ ¬ w2.heap.size = mb ∧ True by have := (HE.out.quiet f').lt; refine ⟨?_, ?_, trivial⟩ <;> omega); clear f' HE HQQ HOB))
      obtain ⟨ub, hub⟩ : ∃ ub, w2.heap.size = ub := ⟨_, rfl⟩
      rw [hub]
      rw [hub] at HUB HU3
      clear hub
      obtain ⟨kq, hkq⟩ := keyRq _ HQO.out
      have HKQ := hid hkq
      have HDEL := hid (show IsUpd (fQ L) (fQ (dropC L c)) (rqV ⟨qc, qt, qk, qy, qv⟩) none ∧ (if fQ L (rqV ⟨qc, qt, qk, qy, qv⟩) = none then L.length else L.length - 1) = (dropC L c).length from HQQ2.out ▸ HE3.out.inv.del2 c)
      have HLM := hid HE3.out.lm
      have HE4 := hid (HE3.out.quiet (frm_drew _)); have HU4 := hid (HU3.out.frm (frm_drew _) (fun h => h)); have HF4 := hid HF3.out.drew
      clear HE3 HU3 HF3 hkq
      refine wp_region_held_drew (S := fun wx => wx.cell? ⟨qb, 0, none⟩ = some (.map (some mb)) ∧ wx.cell? ⟨ub, 0, none⟩ = some (.int .u8 qc) ∧ wx.cell? ⟨ub, 1, none⟩ = some (.int .u32 qt) ∧ wx.cell? ⟨ub, 2, none⟩ = some (.int .u8 qk) ∧ wx.cell? ⟨ub, 3, none⟩ = some (.int .u8 qy) ∧ wx.cell? ⟨ub, 4, none⟩ = some (.int .u16 qv)) (by kernel_rfl) ?_ (fun hHeld => ?_)
      · exact ⟨HE4.out.cell, HU4.out.cell 0, HU4.out.cell 1, HU4.out.cell 2, HU4.out.cell 3, HU4.out.cell 4⟩
      refine wpAnyH_take (i := 0) (oi := ⟨some 21, _, _, _, _, _⟩) (v := ?v1) rfl (by kernel_rfl) (by kernel_rfl) (by kernel_rfl) (fun _ _ _ h => h) (Or.inl ⟨by rfl, ?y1⟩) (by assumption) ?r1
      case y1 => (intro wx hSx; (try dsimp only at hSx); go_simp; (try with_reducible rfl))
      try simp only [Act.put, List.setIfInBounds_toArray, List.set_cons_zero, List.set_cons_succ]
      refine wpAnyH_take (i := 1) (oi := ⟨some 22, _, _, _, _, _⟩) (v := ?v2) rfl (by kernel_rfl) (by kernel_rfl) (by kernel_rfl) (fun _ _ _ h => h) (Or.inl ⟨by rfl, ?y2⟩) (by assumption) ?r2
      case y2 => (intro wx hSx; (try dsimp only at hSx); go_simp; (try with_reducible rfl))
      try simp only [Act.put, List.setIfInBounds_toArray, List.set_cons_zero, List.set_cons_succ]
      refine wpAnyH_take (i := 2) (oi := ⟨some 23, _, _, _, _, _⟩) (v := ?v3) rfl (by kernel_rfl) (by kernel_rfl) (by kernel_rfl) (fun _ _ _ h => h) (Or.inl ⟨by rfl, ?y3⟩) (by assumption) ?r3
      case y3 => (intro wx hSx; (try dsimp only at hSx); go_simp; (try with_reducible rfl))
      try simp only [Act.put, List.setIfInBounds_toArray, List.set_cons_zero, List.set_cons_succ]
      refine wpAnyH_take (i := 3) (oi := ⟨some 24, _, _, _, _, _⟩) (v := ?v4) rfl (by kernel_rfl) (by kernel_rfl) (by kernel_rfl) (fun _ _ _ h => h) (Or.inl ⟨by rfl, ?y4⟩) (by assumption) ?r4
      case y4 => (intro wx hSx; (try dsimp only at hSx); go_simp; (try with_reducible rfl))
      try simp only [Act.put, List.setIfInBounds_toArray, List.set_cons_zero, List.set_cons_succ]
      refine wpAnyH_take (i := 4) (oi := ⟨some 25, _, _, _, _, _⟩) (v := ?v5) rfl (by kernel_rfl) (by kernel_rfl) (by kernel_rfl) (fun _ _ _ h => h) (Or.inl ⟨by rfl, ?y5⟩) (by assumption) ?r5
      case y5 => (intro wx hSx; (try dsimp only at hSx); go_simp; (try with_reducible rfl))
      try simp only [Act.put, List.setIfInBounds_toArray, List.set_cons_zero, List.set_cons_succ]
      refine wpAnyH_ready (rs := [5]) (by kernel_rfl) (by simp) ?_
      refine AllReadyH.cons (o := ⟨none, _, _, _, _, _⟩) rfl (fun K hK => ?_) AllReadyH.nil
      refine wp_mp_del (.tmp 24) (.tmp 25) rfl HE4.out.map keyedRq u_mapr (rqV ⟨qc, qt, qk, qy, qv⟩) kq HKQ.out HDEL.out.1 rfl rfl ?_
      intro w5 hm5 hf5 hs5
      have HM5 := hid (show IsMp TRq w5 mb (dropC L c).length (fQ (dropC L c)) by rw [HDEL.out.2] at hm5; exact hm5); have HQ5 := hid (HE4.out.blk.frm hf5 (fun e => HLM.out e.symm)); have HU5 := hid (HU4.out.frm hf5 (fun e => HUB.out.2.1 e));  have HF5 := hid (HF4.out.mono (S' := (· = mb)) (fun _ _ h => h.elim) |>.trans' hf5 (fun _ _ e => e))
      clear hm5 hf5 hs5
      refine hK.out _ _ ?_ (fun hHeld2 => ?_)
      · ((try dsimp only); (exact ⟨HQ5.out.cell 0, HU5.out.cell 0, HU5.out.cell 1, HU5.out.cell 2, HU5.out.cell 3, HU5.out.cell 4⟩))
      clear hK K hHeld; have hHeld := hHeld2; clear hHeld2
      try simp only [Act.put, List.setIfInBounds_toArray, List.set_cons_zero, List.set_cons_succ]
      refine wpAnyH_done (by kernel_rfl) ?_ _
      go_wp2
      go_end0
      exact ⟨rfl, ⟨HQ5.out, HM5.out, HDI.out⟩, HF5.out⟩
    · rw [decide_eq_false hle, Bool.true_and, if_neg (by decide)]
      go_enter Try.func14, Try.ntmps14
      go_wp2_with (first
        | (go_at_call 18; (with_reducible refine (Of_at HE.out c ⟨qc, qt, qk, qy, qv⟩ true HQQ.out HOB.out).mono ?_); rintro e w2 ⟨rfl, f'⟩; have HU3 := hid (Blk.new w2 [.int .u8 qc, .int .u32 qt, .int .u8 qk, .int .u8 qy, .int .u16 qv] TRq); have HE3 := hid ((HE.out.quiet f').quiet (qbox w2 (.cells #[.int .u8 qc, .int .u32 qt, .int .u8 qk, .int .u8 qy, .int .u16 qv] TRq))); have HF3 := hid (f'.trans (qbox w2 (.cells #[.int .u8 qc, .int .u32 qt, .int .u8 qk, .int .u8 qy, .int .u16 qv] TRq))); have HUB := hid (show ¬ w2.heap.size = qb ∧ ¬ w2.heap.size = mb ∧ True by have := (HE.out.quiet f').lt; refine ⟨?_, ?_, trivial⟩ <;> omega); clear f' HE HQQ HOB))
      go_end0
      exact ⟨rfl, HE3.out, HF3.out.mono (fun _ _ h => h.elim)⟩
end Go.Proofs.Ytabmbppolmikcaa
