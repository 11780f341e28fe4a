/- palisadehelp.Reqs: are these the same requests. -/
import Derived.Test.YtljfbaakgjmmfaaChkRq
namespace Go.Proofs.Ytljfbaakgjmmfaa
open Go.RowKit Go.ChangeShapes
set_option linter.unusedVariables false
set_option linter.unusedSimpArgs false
set_option maxRecDepth 100000
def reqsF : List Rq → List Rq → Bool
  | r :: l, q :: m => r.eqb q && reqsF l m
  | _, _ => true
theorem reqsF_nil (l : List Rq) : reqsF l [] = true := by cases l <;> rfl
theorem reqsF_self (l : List Rq) : reqsF l l = true := by
  induction l with
  | nil => rfl
  | cons r l ih => rw [reqsF, Rq.eqb_self, ih]; rfl
theorem drop_cons {α : Type} {l : List α} {j : Nat} {r : α} (h : l[j]? = some r) : l.drop j = r :: l.drop (j + 1) := by
  obtain ⟨hj, e⟩ := List.getElem?_eq_some_iff.1 h
  rw [List.drop_eq_getElem_cons hj, e]
set_option maxHeartbeats 4000000 in
theorem Reqs_calls {w : World} {a b : Option Addr} {ca cb : Nat} {l m : List Rq} (h : IsRqs w a ca l) (h' : IsRqs w b cb m) (z : Bool) (hz : (l.length == m.length && reqsF l m) = z) :
    Calls Try.prog 10 #[.slice a l.length ca, .slice b m.length cb] w fun e w' => e = .returned (.bool z) ∧ Frm (fun _ => False) w w' := by
  have hle := h.le
  have hsm := h.small
  have hle1 := h'.le
  have hsm1 := h'.small
  by_cases hlen : l.length = m.length
  · rw [hlen] at hz ⊢
    rw [beq_self_eq_true, Bool.true_and] at hz
    have HLE := hid hlen
    have H0 := hid h; have H1 := hid h'; have HZ := hid hz
    clear h h' hlen hz hle hle1
    have hle : m.length ≤ ca := by have := H0.out.le; rw [HLE.out] at this; exact this
    have hle1 := H1.out.le
    go_enter Try.func10, Try.ntmps10
    go_wp2
    go_loopw [5] (fun iv wr => ∃ j : Nat, j ≤ m.length ∧ iv = .int .i64 j ∧ reqsF (l.drop j) (m.drop j) = z ∧ Frm (fun _ => False) w wr) (fun i _ => m.length - (intOf i).toNat)
    case atStart => exact ⟨0, by omega, rfl, HZ.out, Frm.refl _ _⟩
    case round =>
      obtain ⟨j, hj, rfl, hrz, hf⟩ := hrel
      have HRZ := hid hrz; have HF := hid hf
      clear hrz hf
      by_cases hlt : j < m.length
      · obtain ⟨ga, oa, rfl, hga, hca⟩ := H0.out.at_ (by have := HLE.out; omega)
        obtain ⟨gb, ob, rfl, hgb, hcb⟩ := H1.out.at_ (by omega)
        obtain ⟨r, hr⟩ : ∃ r, l[j]? = some r := ⟨l[j]'(by have := HLE.out; omega), List.getElem?_eq_getElem (by have := HLE.out; omega)⟩
        obtain ⟨q, hq⟩ : ∃ q, m[j]? = some q := ⟨m[j]'(by omega), List.getElem?_eq_getElem (by omega)⟩
        have r0 := (HF.out.cell (p := ⟨ga, oa + j * 5 + 0, none⟩) hga (fun h => h)).trans (hca j r hr 0 (by decide)); have r1 := (HF.out.cell (p := ⟨ga, oa + j * 5 + 1, none⟩) hga (fun h => h)).trans (hca j r hr 1 (by decide)); have r2 := (HF.out.cell (p := ⟨ga, oa + j * 5 + 2, none⟩) hga (fun h => h)).trans (hca j r hr 2 (by decide)); have r3 := (HF.out.cell (p := ⟨ga, oa + j * 5 + 3, none⟩) hga (fun h => h)).trans (hca j r hr 3 (by decide)); have r4 := (HF.out.cell (p := ⟨ga, oa + j * 5 + 4, none⟩) hga (fun h => h)).trans (hca j r hr 4 (by decide))
        have q0 := (HF.out.cell (p := ⟨gb, ob + j * 5 + 0, none⟩) hgb (fun h => h)).trans (hcb j q hq 0 (by decide)); have q1 := (HF.out.cell (p := ⟨gb, ob + j * 5 + 1, none⟩) hgb (fun h => h)).trans (hcb j q hq 1 (by decide)); have q2 := (HF.out.cell (p := ⟨gb, ob + j * 5 + 2, none⟩) hgb (fun h => h)).trans (hcb j q hq 2 (by decide)); have q3 := (HF.out.cell (p := ⟨gb, ob + j * 5 + 3, none⟩) hgb (fun h => h)).trans (hcb j q hq 3 (by decide)); have q4 := (HF.out.cell (p := ⟨gb, ob + j * 5 + 4, none⟩) hgb (fun h => h)).trans (hcb j q hq 4 (by decide))
        have hs := HRZ.out
        rw [drop_cons hr, drop_cons hq, reqsF] at hs
        have HS := hid hs; clear hs HRZ hr hq hca hcb
        obtain ⟨c, t, k, y, v⟩ := r
        obtain ⟨c', t', k', y', v'⟩ := q
        simp only [rqC, List.getElem?_cons_succ, List.getElem?_cons_zero, Nat.add_zero] at r0 r1 r2 r3 r4 q0 q1 q2 q3 q4
        obtain ⟨e, he⟩ : ∃ e, (c == c' && (t == t' && (k == k' && (y == y' && v == v')))) = e := ⟨_, rfl⟩
        have hqn := fun w => neqRq w c t k y v c' t' k' y' v' e he
        have hqe := fun w => eqlRq w c t k y v c' t' k' y' v' e he
        have HS2 := hid (show (e && reqsF (l.drop (j + 1)) (m.drop (j + 1))) = z from he ▸ HS.out)
        have hjl : (j : Int) < (m.length : Int) := by omega
        have HLT := hid hlt
        clear HS he hlt hga hgb
        cases e
        · have HZF := hid (show false = z from HS2.out)
          go_wp2
          go_region
          go_wp2
          go_ret
          exact ⟨ret_bool HZF.out, HF.out.drew⟩
        · have HZF := hid (show reqsF (l.drop (j + 1)) (m.drop (j + 1)) = z from (Bool.true_and _).symm.trans HS2.out)
          go_wp2
          go_region
          go_wp2
          go_roundw
          case rel => exact ⟨j + 1, by have := HLT.out; omega, by go_num, HZF.out, HF.out.drew⟩
          case measure => simp [intOf]; have := HLT.out; omega
      · have hjl : (m.length : Int) ≤ (j : Int) := by omega
        have HZF := hid (show true = z from by have h := HRZ.out; have e := List.drop_eq_nil_of_le (show m.length ≤ j by omega); rw [e] at h; exact (reqsF_nil _).symm.trans h)
        clear hlt
        go_wp2
        go_ret
        exact ⟨ret_bool HZF.out, HF.out⟩
  · have hne : (l.length == m.length) = false := beq_eq_false_iff_ne.2 hlen
    rw [hne, Bool.false_and] at hz
    subst hz
    have hnei : ((l.length : Int) == (m.length : Int)) = false := beq_eq_false_iff_ne.2 (by omega)
    have hnei2 : ((l.length : Int) != (m.length : Int)) = true := bne_iff_ne.2 (by omega)
    clear h h' hne
    go_enter Try.func10, Try.ntmps10
    go_wp2
    go_ret
    exact ⟨rfl, Frm.refl _ _⟩
end Go.Proofs.Ytljfbaakgjmmfaa
