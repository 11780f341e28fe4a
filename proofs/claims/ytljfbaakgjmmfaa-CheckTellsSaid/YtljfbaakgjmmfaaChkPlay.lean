/- service.Play, check.At: the map behind the first requests. -/
import Derived.Test.YtljfbaakgjmmfaaChkRights
import Derived.Test.YtljfbaakgjmmfaaOwnW
namespace Go.Proofs.Ytljfbaakgjmmfaa
open Go.RowKit Go.ChangeShapes
set_option linter.unusedVariables false
set_option linter.unusedSimpArgs false
set_option maxRecDepth 100000
def playM : List Int → List Int → List Rq → List Int × List Int
  | vs, cs, [] => (vs, cs)
  | vs, cs, r :: l => playM (applyM vs cs r.c r.t r.k r.y r.v).2.2.1 (applyM vs cs r.c r.t r.k r.y r.v).2.2.2 l
theorem apply_bd {vs cs : List Int} (hv : ∀ x ∈ vs, 0 ≤ x ∧ x ≤ 65535) (hc : ∀ x ∈ cs, 0 ≤ x ∧ x ≤ 4294967295) {c t k y v : Int} (hb : 0 ≤ v ∧ v ≤ 65535) : 0 ≤ (applyM vs cs c t k y v).1 ∧ (applyM vs cs c t k y v).1 ≤ 4294967295 := by
  unfold applyM
  split
  · split
    · have := doesR_bd k (getV_bd hv y) hb; dsimp only; omega
    · split
      · dsimp only; unfold getR; split
        · exact getD_bd hc (by decide) _
        · exact ⟨by decide, by decide⟩
      · exact ⟨by dsimp only; decide, by dsimp only; decide⟩
  · exact ⟨by dsimp only; decide, by dsimp only; decide⟩
theorem wf32 {x : Int} (h : 0 ≤ x ∧ x ≤ 4294967295) : (Lit.int .u32 x).wf = true := by simp [Lit.wf, IntKind.min, IntKind.max, IntKind.bits, IntKind.signed]; omega
theorem one_ints32 (w : World) (d : Int) (T : Nat) (hd : (Lit.int .u32 d).wf = true) : IsInts .u32 (w.alloc (.cells #[.int .u32 d] T)) (some ⟨w.heap.size, 0, none⟩) 1 [d] := one_intsW w d T hd
set_option maxHeartbeats 8000000 in
theorem Play_calls {w : World} {a : Option Addr} {ca n : Nat} {l : List Rq} (h : IsRqs w a ca l) (hn : l.length = n) (hlen : n ≤ 2000) (vs' cs' : List Int) (hz : playM V0 C0 l = (vs', cs')) :
    Calls Try.prog 22 #[.slice a n ca] w fun e w' => ∃ mb v', e = .returned (.tuple #[.pointer (some ⟨mb, 0, none⟩), v']) ∧ w.heap.size ≤ mb ∧ IsMap w' mb vs' cs' ∧ Below w.heap.size w w' := by
  subst hn
  have hle := h.le
  have hsm := h.small
  have H0 := hid h; have HZ := hid hz
  clear h hz
  have HLN := hid hlen
  clear hlen
  go_enter Try.func22, Try.ntmps22
  go_wp2_with (go_at_call 23; (with_reducible refine (PNew_calls _).mono ?_); rintro e w2 ⟨rfl, h', f'⟩)
  have HF0 := hid f'
  have HM0 := hid h'
  clear h' f'
  generalize hmb : w.heap.size = mb at *
  have HMB := hid (show w.heap.size ≤ mb from hmb ▸ Nat.le_refl _)
  go_loopw [5, 13] (fun lv iv wr => ∃ (j : Nat) (vs cs told : List Int), j ≤ l.length ∧ iv = .int .i64 j ∧ told.length = j ∧ playM vs cs (l.drop j) = (vs', cs') ∧ IsMap wr mb vs cs ∧ OwnBW wr (fun k => k ≤ mb) lv told ∧ Below w.heap.size w wr) (fun _ i _ => l.length - (intOf i).toNat)
  case atStart => exact ⟨0, _, _, [], by omega, rfl, rfl, HZ.out, HM0.out, OwnBW.nil _ _, hmb ▸ HF0.out⟩
  case round =>
    clear HM0 HF0
    obtain ⟨j, vs, cs, told, hj, rfl, htl, hrz, hm, hb, hf⟩ := hrel
    have HRZ := hid hrz; have HF := hid hf; have HM := hid hm; have HO := hid hb; have HTL := hid htl
    clear hrz hf hm hb htl
    by_cases hlt : j < l.length
    · obtain ⟨ga, oa, rfl, hga, hca⟩ := H0.out.at_ (by omega)
      obtain ⟨r, hr⟩ : ∃ r, l[j]? = some r := ⟨l[j]'hlt, List.getElem?_eq_getElem hlt⟩
      have hok := H0.out.ok r (List.mem_of_getElem? hr)
      have q0 := (HF.out.cell (p := ⟨ga, oa + j * 5 + 0, none⟩) hga).trans (hca j r hr 0 (by decide)); have q1 := (HF.out.cell (p := ⟨ga, oa + j * 5 + 1, none⟩) hga).trans (hca j r hr 1 (by decide)); have q2 := (HF.out.cell (p := ⟨ga, oa + j * 5 + 2, none⟩) hga).trans (hca j r hr 2 (by decide)); have q3 := (HF.out.cell (p := ⟨ga, oa + j * 5 + 3, none⟩) hga).trans (hca j r hr 3 (by decide)); have q4 := (HF.out.cell (p := ⟨ga, oa + j * 5 + 4, none⟩) hga).trans (hca j r hr 4 (by decide))
      have hs := HRZ.out
      rw [drop_cons hr, playM] at hs
      have HS := hid hs; clear hs HRZ hr hca
      obtain ⟨c, t, k, y, v⟩ := r
      obtain ⟨hc0, ht0, hk0, hy0, hv0⟩ := hok
      dsimp only at hc0 ht0 hk0 hy0 hv0
      simp only [rqC, List.getElem?_cons_succ, List.getElem?_cons_zero, Nat.add_zero] at q0 q1 q2 q3 q4
      obtain ⟨X, ok, vs2, cs2, hX⟩ : ∃ X ok vs2 cs2, applyM vs cs c t k y v = (X, ok, vs2, cs2) := ⟨_, _, _, _, rfl⟩
      have HCC := hid hc0; have HTT := hid ht0; have HYY := hid hy0; have HVV := hid hv0; have HX := hid hX
      have HS2 := hid (show playM vs2 cs2 (l.drop (j + 1)) = (vs', cs') by have h := HS.out; dsimp only at h; rw [HX.out] at h; exact h)
      have HXB := hid (show (Lit.int .u32 X).wf = true by have h := apply_bd HM.out.bv HM.out.bc (c := c) (t := t) (k := k) (y := y) HVV.out; rw [HX.out] at h; exact wf32 h)
      have hjl : (j : Int) < (l.length : Int) := by omega
      have HLT := hid hlt
      clear HS hlt hc0 ht0 hk0 hy0 hv0 hX hga
      go_wp2_with (first
        | (go_at_call 25; (with_reducible refine (Apply_any (HM.out.frm (frm_box _ _) (fun h => h)) c t k y v HCC.out.1 HTT.out HYY.out.1 HVV.out X ok vs2 cs2 HX.out).mono ?_); rintro e w4 ⟨rfl, h', f'⟩; clear q0 q1 q2 q3 q4; have n0_ := hid ((HO.out.frm0 (frm_box _ _)).frm f' (fun k hk e => HO.out.off k hk (Nat.le_of_eq e))); have n1_ := hid (below_frm1 (HF.out.alloc HF.out.size _) f' HMB.out); clear HO HF; have HO := n0_; clear n0_; have HF := n1_; clear n1_; clear HM; have HM := hid h'; clear h' f')
        | (at_builtin; refine wpList_moreW rfl _ _ rfl rfl (HO.out.frm0 (frm_box _ _)) (fun k hk => by have := HM.out.blk.lt; simp; omega) (one_ints32 w4 X TU8W HXB.out) (show ([X] : List Int).length = 1 from rfl) (by have := HTL.out; have := HLT.out; have := HLN.out; omega) rfl rfl ?_; intro a' l' c' w5 ho' hf' hat'; have HM2 := hid ((HM.out.frm (frm_box w4 _) (fun h => h)).frm hf' (fun e => HO.out.off _ e (Nat.le_refl _))); have HF2 := hid ((HF.out.alloc HF.out.size _).trans (hf'.below (by have := HF.out.size; simp; omega) (fun k hk hn => HO.out.off k hn (Nat.le_of_lt (Nat.lt_of_lt_of_le hk HMB.out))))); clear HF HO HM hf' hat'; have HF := HF2; have HM := HM2; have HO := hid ho'; clear ho' HF2 HM2))
      go_roundw
      case rel => exact ⟨j + 1, _, _, told ++ [X], by have := HLT.out; omega, by go_num, by rw [List.length_append, HTL.out]; rfl, HS2.out, HM.out, HO.out, HF.out⟩
      case measure => simp [intOf]; have := HLT.out; omega
    · have hjl : (l.length : Int) ≤ (j : Int) := by omega
      have HZF := hid (show (vs, cs) = (vs', cs') from by have h := HRZ.out; have e := List.drop_eq_nil_of_le (show l.length ≤ j by omega); rw [e] at h; exact h)
      clear hlt
      go_wp2
      go_ret2
      refine ⟨mb, _, rfl, HMB.out, ?_, HF.out⟩
      have h1 := congrArg Prod.fst HZF.out
      have h2 := congrArg Prod.snd HZF.out
      dsimp only at h1 h2
      rw [← h1, ← h2]
      exact HM.out
theorem IsRqs.take {w : World} {a : Option Addr} {cap : Nat} {l : List Rq} (h : IsRqs w a cap l) (n : Nat) : IsRqs w a cap (l.take n) :=
  ⟨by have := h.le; rw [List.length_take]; omega, h.small, fun hn => by
    rw [List.length_take] at hn
    obtain ⟨b, o, e, hb, hc⟩ := h.at_ (by omega)
    exact ⟨b, o, e, hb, fun j r hj i hi => hc j r (by rw [List.getElem?_take] at hj; split at hj; exact hj; cases hj) i hi⟩, fun r hr => h.ok r (List.mem_of_mem_take hr)⟩
set_option maxHeartbeats 4000000 in
theorem At_calls {w : World} {a : Option Addr} {ca : Nat} {l : List Rq} (h : IsRqs w a ca l) (hlen : l.length ≤ 2000) (m : Nat) (hm : (m : Int) ≤ 4294967295) (vs' cs' : List Int) (hz : playM V0 C0 (l.take m) = (vs', cs')) :
    Calls Try.prog 12 #[.slice a l.length ca, .int .u32 m] w fun e w' => ∃ mb, e = .returned (.pointer (some ⟨mb, 0, none⟩)) ∧ w.heap.size ≤ mb ∧ IsMap w' mb vs' cs' ∧ Below w.heap.size w w' := by
  have hle := h.le
  have hsm := h.small
  have H0 := hid h; have HZ := hid hz; have HLN := hid hlen
  clear h hz
  have hlen' : (l.length : Int) ≤ 2000 := by omega
  have hsm' : (ca : Int) ≤ 9223372036854775807 := by omega
  have hle' : (l.length : Int) ≤ ca := by omega
  by_cases hml : m < l.length
  · have hml' : (m : Int) ≤ (l.length : Int) := by omega
    have hml2 : (m : Int) < (l.length : Int) := by omega
    have hmc : (m : Int) ≤ (ca : Int) := by omega
    have HN := hid (show (l.take m).length = m by rw [List.length_take]; omega)
    have HM2 := hid (show m ≤ 2000 by omega)
    go_enter Try.func12, Try.ntmps12
    go_wp2_with (go_at_call 22; (with_reducible refine (Play_calls (H0.out.take m) HN.out HM2.out vs' cs' HZ.out).mono ?_); rintro e w2 ⟨mb, v', rfl, hb, h', f'⟩; have HB := hid hb; have HM := hid h'; have HF := hid f'; clear hb h' f')
    go_ret
    exact ⟨mb, rfl, HB.out, HM.out, HF.out⟩
  · have hml' : (l.length : Int) ≤ (m : Int) := by omega
    have HN := hid (show (l.take l.length).length = l.length by rw [List.take_length])
    have HZ2 := hid (show playM V0 C0 (l.take l.length) = (vs', cs') by rw [← HZ.out, List.take_length, List.take_of_length_le (by omega)])
    go_enter Try.func12, Try.ntmps12
    go_wp2_with (go_at_call 22; (with_reducible refine (Play_calls (H0.out.take l.length) HN.out HLN.out vs' cs' HZ2.out).mono ?_); rintro e w2 ⟨mb, v', rfl, hb, h', f'⟩; have HB := hid hb; have HM := hid h'; have HF := hid f'; clear hb h' f')
    go_ret
    exact ⟨mb, rfl, HB.out, HM.out, HF.out⟩
end Go.Proofs.Ytljfbaakgjmmfaa
