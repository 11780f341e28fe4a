/- check.Right: are all answers what the list tells. -/
import Derived.Test.YtljfbaakgjmmfaaChkRight
namespace Go.Proofs.Ytljfbaakgjmmfaa
open Go.RowKit Go.ChangeShapes
set_option linter.unusedVariables false
set_option linter.unusedSimpArgs false
set_option maxRecDepth 100000
/-- A slice of answers, as it lies in memory. -/
structure IsAns (w : World) (a : Option Addr) (cap : Nat) (l : List (Rq × Int)) : Prop where
  le : l.length ≤ cap
  small : cap ≤ 9223372036854775807
  at_ : l.length ≠ 0 → ∃ b o, a = some ⟨b, o, none⟩ ∧ b < w.heap.size ∧ ∀ j r, l[j]? = some r → ∀ i, i < 6 → w.cell? ⟨b, o + j * 6 + i, none⟩ = (anC r.1 r.2)[i]?
def rightsF (l : List Rq) : List (Rq × Int) → Bool
  | [] => true
  | p :: an => rightF p.1 p.2 V0 C0 l && rightsF l an
theorem IsRqs.b0 {w w' : World} {a : Option Addr} {cap : Nat} {l : List Rq} (h : IsRqs w a cap l) (f : Below w.heap.size w w') : IsRqs w' a cap l :=
  ⟨h.le, h.small, fun hn => by
    obtain ⟨b, o, e, hb, hc⟩ := h.at_ hn
    exact ⟨b, o, e, Nat.lt_of_lt_of_le hb f.size, fun j r hj i hi => by rw [f.cell (p := ⟨b, o + j * 5 + i, none⟩) hb]; exact hc j r hj i hi⟩, h.ok⟩
set_option maxHeartbeats 8000000 in
theorem Rights_calls {w : World} {a b : Option Addr} {ca cb : Nat} {l : List Rq} {an : List (Rq × Int)} (h : IsRqs w a ca l) (h' : IsAns w b cb an) (z : Bool) (hz : rightsF l an = z) :
    Calls Try.prog 11 #[.slice a l.length ca, .slice b an.length cb] w fun e w' => e = .returned (.bool z) ∧ Below w.heap.size w w' := by
  have hle := h'.le
  have hsm := h'.small
  have H0 := hid h; have H1 := hid h'; have HZ := hid hz
  clear h h' hz
  go_enter Try.func11, Try.ntmps11
  go_wp2
  go_loopw [9] (fun iv wr => ∃ (j : Nat), j ≤ an.length ∧ iv = .int .i64 j ∧ rightsF l (an.drop j) = z ∧ Below w.heap.size w wr) (fun i _ => an.length - (intOf i).toNat)
  case atStart => exact ⟨0, by omega, rfl, HZ.out, Below.refl _ _⟩
  case round =>
    obtain ⟨j, hj, rfl, hrz, hf⟩ := hrel
    have HRZ := hid hrz; have HF := hid hf
    clear hrz hf
    by_cases hlt : j < an.length
    · obtain ⟨ga, oa, rfl, hga, hca⟩ := H1.out.at_ (by omega)
      obtain ⟨r, hr⟩ : ∃ r, an[j]? = some r := ⟨an[j]'hlt, List.getElem?_eq_getElem hlt⟩
      have q0 := (HF.out.cell (p := ⟨ga, oa + j * 6 + 0, none⟩) hga).trans (hca j r hr 0 (by decide)); have q1 := (HF.out.cell (p := ⟨ga, oa + j * 6 + 1, none⟩) hga).trans (hca j r hr 1 (by decide)); have q2 := (HF.out.cell (p := ⟨ga, oa + j * 6 + 2, none⟩) hga).trans (hca j r hr 2 (by decide)); have q3 := (HF.out.cell (p := ⟨ga, oa + j * 6 + 3, none⟩) hga).trans (hca j r hr 3 (by decide)); have q4 := (HF.out.cell (p := ⟨ga, oa + j * 6 + 4, none⟩) hga).trans (hca j r hr 4 (by decide)); have q5 := (HF.out.cell (p := ⟨ga, oa + j * 6 + 5, none⟩) hga).trans (hca j r hr 5 (by decide))
      have hs := HRZ.out
      rw [drop_cons hr, rightsF] at hs
      have HS := hid hs; clear hs HRZ hr hca
      obtain ⟨⟨c, t, k, y, v⟩, x⟩ := r
      simp only [anC, List.getElem?_cons_succ, List.getElem?_cons_zero, Nat.add_zero] at q0 q1 q2 q3 q4 q5
      obtain ⟨e, he⟩ : ∃ e, rightF ⟨c, t, k, y, v⟩ x V0 C0 l = e := ⟨_, rfl⟩
      have HE := hid he
      have HS2 := hid (show (e && rightsF l (an.drop (j + 1))) = z by have h := HS.out; dsimp only at h; rw [HE.out] at h; exact h)
      have hjl : (j : Int) < (an.length : Int) := by omega
      have HLT := hid hlt
      clear HS he hlt hga
      cases e
      · have HZF := hid (show false = z from HS2.out)
        clear HS2
        go_wp2_with (first
          | (go_at_call 21; (with_reducible refine (Rt_calls (H0.out.b0 (HF.out.alloc HF.out.size _)) c t k y v x _ HE.out).mono ?_); rintro e w3 ⟨rfl, f'⟩; have HF2 := hid (below_next (HF.out.alloc HF.out.size _) f'); clear HF; have HF := HF2; clear HF2 f' q0 q1 q2 q3 q4 q5))
        go_ret
        exact ⟨ret_bool HZF.out, HF.out⟩
      · have HZF := hid (show rightsF l (an.drop (j + 1)) = z from (Bool.true_and _).symm.trans HS2.out)
        clear HS2
        go_wp2_with (first
          | (go_at_call 21; (with_reducible refine (Rt_calls (H0.out.b0 (HF.out.alloc HF.out.size _)) c t k y v x _ HE.out).mono ?_); rintro e w3 ⟨rfl, f'⟩; have HF2 := hid (below_next (HF.out.alloc HF.out.size _) f'); clear HF; have HF := HF2; clear HF2 f' q0 q1 q2 q3 q4 q5))
        go_roundw
        case rel => exact ⟨j + 1, by have := HLT.out; omega, by go_num, HZF.out, HF.out⟩
        case measure => simp [intOf]; have := HLT.out; omega
    · have hjl : (an.length : Int) ≤ (j : Int) := by omega
      have HZF := hid (show true = z from by have h := HRZ.out; have e := List.drop_eq_nil_of_le (show an.length ≤ j by omega); rw [e] at h; exact h)
      clear hlt
      go_wp2
      go_ret
      exact ⟨ret_bool HZF.out, HF.out⟩
end Go.Proofs.Ytljfbaakgjmmfaa
