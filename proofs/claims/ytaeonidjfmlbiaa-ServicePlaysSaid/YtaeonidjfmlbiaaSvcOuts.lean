/- service.Play with what it tells; Peek; a page as a string; an argument of requests. -/
import Derived.Test.YtaeonidjfmlbiaaChkRq
import Derived.Test.YtaeonidjfmlbiaaOwnW
import Derived.Test.YtaeonidjfmlbiaaRq
import Derived.Test.YtaeonidjfmlbiaaPgPage
import Derived.Test.YtaeonidjfmlbiaaRPage
import Derived.Test.YtaeonidjfmlbiaaPgCopy
import Derived.Test.YtaeonidjfmlbiaaSvcKnown
namespace Go.Proofs.Ytaeonidjfmlbiaa
open Go.RowKit Go.ChangeShapes
set_option linter.unusedVariables false
set_option linter.unusedSimpArgs false
set_option maxRecDepth 100000
abbrev SV0 : List Int := List.replicate 64 0
abbrev SC0 : List Int := List.replicate 10 0
def runM : List Int → List Int → List Rq → List Int × List Int
  | vs, cs, [] => (vs, cs)
  | vs, cs, r :: l => runM (applyM vs cs r.c r.t r.k r.y r.v).2.2.1 (applyM vs cs r.c r.t r.k r.y r.v).2.2.2 l
def outM : List Int → List Int → List Rq → List Int
  | _, _, [] => []
  | vs, cs, r :: l => (applyM vs cs r.c r.t r.k r.y r.v).1 :: outM (applyM vs cs r.c r.t r.k r.y r.v).2.2.1 (applyM vs cs r.c r.t r.k r.y r.v).2.2.2 l
theorem sdrop_cons {α : Type} {l : List α} {j : Nat} {r : α} (h : l[j]? = some r) : l.drop j = r :: l.drop (j + 1) := by
  obtain ⟨hj, he⟩ := List.getElem?_eq_some_iff.1 h
  rw [List.drop_eq_getElem_cons hj, he]
theorem outM_len (l : List Rq) : ∀ vs cs, (outM vs cs l).length = l.length := by
  induction l with
  | nil => exact fun _ _ => rfl
  | cons r l ih => exact fun vs cs => by rw [outM, List.length_cons, ih, List.length_cons]
theorem apply_bds {vs cs : List Int} (hv : ∀ x ∈ vs, 0 ≤ x ∧ x ≤ 65535) (hc : ∀ x ∈ cs, 0 ≤ x ∧ x ≤ 4294967295) {c t k y v : Int} (hb : 0 ≤ v ∧ v ≤ 65535) : 0 ≤ (applyM vs cs c t k y v).1 ∧ (applyM vs cs c t k y v).1 ≤ 4294967295 := by
  unfold applyM
  split
  · split
    · have h := doesR_bd k (getV_bd hv y) hb
      dsimp only; omega
    · split
      · dsimp only; unfold getR; split
        · exact getD_bd hc (by decide) _
        · exact ⟨by decide, by decide⟩
      · exact ⟨by dsimp only; decide, by dsimp only; decide⟩
  · exact ⟨by dsimp only; decide, by dsimp only; decide⟩
/-- What is not done tells nought. -/
theorem apply_no {vs cs : List Int} {c t k y v X : Int} {vs2 cs2 : List Int} (h : applyM vs cs c t k y v = (X, false, vs2, cs2)) : X = 0 := by
  unfold applyM at h
  split at h
  · split at h
    · injection h with h1 h2
      injection h2 with h2 h3
      cases h2
    · split at h
      · injection h with h1 h2
        injection h2 with h2 h3
        cases h2
      · injection h with h1 h2
        exact h1.symm
  · injection h with h1 h2
    exact h1.symm
/-- Nobody's entry stays nought. -/
theorem apply_00 {vs cs : List Int} {c t k y v X : Int} {ok : Bool} {vs2 cs2 : List Int} (h : applyM vs cs c t k y v = (X, ok, vs2, cs2)) (h0 : cs.getD 0 0 = 0) : cs2.getD 0 0 = 0 := by
  unfold applyM at h
  split at h
  · split at h
    · injection h with h1 h2
      injection h2 with h2 h3
      injection h3 with h3 h4
      rw [← h4, setC]
      split
      · rename_i hb
        rw [List.getD_eq_getElem?_getD, List.getElem?_set_ne (by omega), List.getElem?_set_ne (by omega), ← List.getD_eq_getElem?_getD]
        exact h0
      · exact h0
    · split at h <;>
      · injection h with h1 h2
        injection h2 with h2 h3
        injection h3 with h3 h4
        rw [← h4]; exact h0
  · injection h with h1 h2
    injection h2 with h2 h3
    injection h3 with h3 h4
    rw [← h4]; exact h0
theorem swf32 {x : Int} (h : 0 ≤ x ∧ x ≤ 4294967295) : (Lit.int .u32 x).wf = true := by simp [Lit.wf, IntKind.min, IntKind.max, IntKind.bits, IntKind.signed]; omega
theorem sone32 (w : World) (d : Int) (T : Nat) (hd : (Lit.int .u32 d).wf = true) : IsInts .u32 (w.alloc (.cells #[.int .u32 d] T)) (some ⟨w.heap.size, 0, none⟩) 1 [d] := one_intsW w d T hd
theorem Peek_any {w : World} {b : Nat} {vs cs : List Int} (h : IsMap w b vs cs) (c t k y v : Int) (hc : 0 ≤ c) (hy : 0 ≤ y) (hv : 0 ≤ v ∧ v ≤ 65535) (x : Int) (ok : Bool) (vs' cs' : List Int) (hx : applyM vs cs c t k y v = (x, ok, vs', cs')) :
    Calls Try.prog 16 #[.pointer (some ⟨b, 0, none⟩), .agg #[.int .u8 c, .int .u32 t, .int .u8 k, .int .u8 y, .int .u16 v]] w fun e w' => e = .returned (.tuple #[.int .u32 x, .bool ok]) ∧ Frm (fun _ => False) w w' := by
  unfold applyM at hx
  split at hx
  · rename_i hr
    split at hx
    · rename_i hlt
      simp only [Prod.mk.injEq] at hx
      obtain ⟨rfl, rfl, rfl, rfl⟩ := hx
      exact Peek_new h c t k y v hc hy hv (by rw [isNew, hr, Bool.true_and]; exact decide_eq_true hlt) _ rfl (doesR_bd k (getV_bd h.bv y) hv)
    · rename_i hlt
      split at hx
      · rename_i he
        simp only [Prod.mk.injEq] at hx
        obtain ⟨rfl, rfl, rfl, rfl⟩ := hx
        exact Peek_same h c t k y v hc hy hv hr he _ rfl
      · rename_i he
        simp only [Prod.mk.injEq] at hx
        obtain ⟨rfl, rfl, rfl, rfl⟩ := hx
        exact Peek_none h c t k y v hc (by rw [isNew, hr, Bool.true_and]; exact decide_eq_false hlt) (fun h => he h.2)
  · rename_i hr
    simp only [Prod.mk.injEq] at hx
    obtain ⟨rfl, rfl, rfl, rfl⟩ := hx
    exact Peek_none h c t k y v hc (by rw [isNew, Bool.eq_false_iff.2 hr, Bool.false_and]) (fun h => hr h.1)
/-- v is a slice of these bytes. -/
def IsBs (w : World) (v : Value) (x : List Int) : Prop := ∃ a c, v = .slice a x.length c ∧ IsInts .u8 w a c x
theorem Page_bs {w : World} {b : Nat} {vs cs : List Int} (h : IsMap w b vs cs) (p : Nat) (hp : p ≤ 7) :
    Calls Try.prog 19 #[.pointer (some ⟨b, 0, none⟩), .int .i64 p] w fun e w' => ∃ a c, e = .returned (.slice a (pageB vs cs p).length c) ∧ IsInts .u8 w' a c (pageB vs cs p) ∧ Frm (fun _ => False) w w' := by
  by_cases h7 : p = 7
  · subst h7
    refine (Page_clis h).mono ?_
    rintro e w' ⟨g, rfl, _, hi, f⟩
    exact ⟨_, _, rfl, hi, f⟩
  · refine (Page_vals h p (by omega)).mono ?_
    rintro e w' ⟨g, rfl, _, hi, f⟩
    exact ⟨_, _, rfl, hi, f⟩
theorem RPage_bs {w : World} {b : Nat} {vs cs : List Int} (h : IsRM w b vs cs) (h00 : cs.getD 0 0 = 0) (p : Nat) (hp : p ≤ 7) :
    Calls Try.prog 20 #[.pointer (some ⟨b, 0, none⟩), .int .i64 p] w fun e w' => ∃ a c, e = .returned (.slice a (pageB vs cs p).length c) ∧ IsInts .u8 w' a c (pageB vs cs p) ∧ Below w.heap.size w w' := by
  by_cases h7 : p = 7
  · subst h7
    refine (RPage_clis h h00 _ rfl).mono ?_
    rintro e w' ⟨v, rfl, ho, f⟩
    obtain ⟨a, c, rfl, hi, _⟩ := ho.ints
    exact ⟨_, _, rfl, hi, f⟩
  · refine (RPage_vals h p (by omega)).mono ?_
    rintro e w' ⟨v, rfl, ho, f⟩
    obtain ⟨a, c, rfl, hi, _⟩ := ho.ints
    exact ⟨_, _, rfl, hi, f⟩
abbrev RqX : Type := Int × Int × (Int × Int × Int × Unit) × Unit
def toRq (x : RqX) : Rq := ⟨x.1, x.2.1, x.2.2.1.1, x.2.2.1.2.1, x.2.2.1.2.2.1⟩
theorem rq_is {w : World} {x : RqX} {cs : List Value} (h : c35.K w x cs) : cs = rqC (toRq x) ∧ RqOk (toRq x) := by
  obtain ⟨hl, h0, b0, h1, b1, h2⟩ := k35 h
  obtain ⟨_, g0, d0, g1, d1, g2, d2⟩ := k33 h2
  rw [List.getElem?_take, if_pos (by decide), List.getElem?_drop] at g0 g1 g2
  exact ⟨list5 hl h0 h1 g0 g1 g2, bnd8 b0, bnd32 b1, bnd8 d0, bnd8 d1, bnd16 d2⟩
theorem cells_rqS : Try.prog.cellsOf TRq = 5 := by kernel_rfl
theorem IsRqs.of_slk {w : World} {a : Option Addr} {cap : Nat} {xs : List RqX} (h : SlK c35 w a cap xs) : IsRqs w a cap (xs.map toRq) := by
  refine ⟨by rw [List.length_map]; exact h.le, h.small, fun hn => ?_, fun r hr => ?_⟩
  · rw [List.length_map] at hn
    obtain ⟨b, off, e, hb, hc⟩ := h.at_ hn
    refine ⟨b, off, e, hb, fun j r hj i hi => ?_⟩
    rw [List.getElem?_map] at hj
    obtain ⟨x, hx, rfl⟩ := Option.map_eq_some_iff.1 hj
    obtain ⟨cs, hk, hcell⟩ := hc j x hx
    obtain ⟨rfl, _⟩ := rq_is hk
    rw [cells_rqS] at hcell
    obtain ⟨u, hu⟩ : ∃ u, (rqC (toRq x))[i]? = some u := ⟨(rqC (toRq x))[i]'(by show i < 5; exact hi), List.getElem?_eq_getElem _⟩
    rw [hcell i u hu, hu]
  · obtain ⟨x, hx, rfl⟩ := List.mem_map.1 hr
    obtain ⟨i, hi⟩ := List.mem_iff_getElem?.1 hx
    obtain ⟨b, off, e, hb, hc⟩ := h.at_ (fun h0 => by rw [List.eq_nil_of_length_eq_zero h0] at hx; cases hx)
    obtain ⟨cs, hk, _⟩ := hc i x hi
    exact (rq_is hk).2
set_option maxHeartbeats 8000000 in
theorem Play_outs {w : World} {a : Option Addr} {ca n : Nat} {l : List Rq} (h : IsRqs w a ca l) (hn : l.length = n) (hlen : n ≤ 2000) (vs' cs' : List Int) (hz : runM SV0 SC0 l = (vs', cs')) (outs : List Int) (ho : outM SV0 SC0 l = outs) :
    Calls Try.prog 21 #[.slice a n ca] w fun e w' => ∃ mb v', e = .returned (.tuple #[.pointer (some ⟨mb, 0, none⟩), v']) ∧ w.heap.size ≤ mb ∧ IsMap w' mb vs' cs' ∧ OwnBW w' (fun k => k ≤ mb) v' outs ∧ Below w.heap.size w w' := by
  subst hn
  have hle := h.le
  have hsm := h.small
  have H0 := hid h; have HZ := hid hz; have HOU := hid ho
  clear h hz ho
  have HLN := hid hlen
  clear hlen
  go_enter Try.func21, Try.ntmps21
  go_wp2_with (go_at_call 9; (with_reducible refine (PNew_calls _).mono ?_); rintro e w2 ⟨rfl, h', f'⟩)
  have HF0 := hid f'
  have HM0 := hid h'
  clear h' f'
  generalize hmb : w.heap.size = mb at *
  have HMB := hid (show w.heap.size ≤ mb from hmb ▸ Nat.le_refl _)
  go_loopw [5, 13] (fun lv iv wr => ∃ (j : Nat) (vs cs told : List Int), j ≤ l.length ∧ iv = .int .i64 j ∧ told.length = j ∧ runM vs cs (l.drop j) = (vs', cs') ∧ told ++ outM vs cs (l.drop j) = outs ∧ IsMap wr mb vs cs ∧ OwnBW wr (fun k => k ≤ mb) lv told ∧ Below w.heap.size w wr) (fun _ i _ => l.length - (intOf i).toNat)
  case atStart => exact ⟨0, _, _, [], by omega, rfl, rfl, HZ.out, HOU.out, HM0.out, OwnBW.nil _ _, hmb ▸ HF0.out⟩
  case round =>
    clear HM0 HF0
    obtain ⟨j, vs, cs, told, hj, rfl, htl, hrz, hro, hm, hb, hf⟩ := hrel
    have HRZ := hid hrz; have HRO := hid hro; have HF := hid hf; have HM := hid hm; have HO := hid hb; have HTL := hid htl
    clear hrz hro hf hm hb htl
    by_cases hlt : j < l.length
    · obtain ⟨ga, oa, rfl, hga, hca⟩ := H0.out.at_ (by omega)
      obtain ⟨r, hr⟩ : ∃ r, l[j]? = some r := ⟨l[j]'hlt, List.getElem?_eq_getElem hlt⟩
      have hok := H0.out.ok r (List.mem_of_getElem? hr)
      have q0 := (HF.out.cell (p := ⟨ga, oa + j * 5 + 0, none⟩) hga).trans (hca j r hr 0 (by decide)); have q1 := (HF.out.cell (p := ⟨ga, oa + j * 5 + 1, none⟩) hga).trans (hca j r hr 1 (by decide)); have q2 := (HF.out.cell (p := ⟨ga, oa + j * 5 + 2, none⟩) hga).trans (hca j r hr 2 (by decide)); have q3 := (HF.out.cell (p := ⟨ga, oa + j * 5 + 3, none⟩) hga).trans (hca j r hr 3 (by decide)); have q4 := (HF.out.cell (p := ⟨ga, oa + j * 5 + 4, none⟩) hga).trans (hca j r hr 4 (by decide))
      have hs := HRZ.out
      rw [sdrop_cons hr, runM] at hs
      have hso := HRO.out
      rw [sdrop_cons hr, outM] at hso
      have HSO := hid hso
      have HS := hid hs; clear hs hso HRZ HRO hr hca
      obtain ⟨c, t, k, y, v⟩ := r
      obtain ⟨hc0, ht0, hk0, hy0, hv0⟩ := hok
      dsimp only at hc0 ht0 hk0 hy0 hv0
      simp only [rqC, List.getElem?_cons_succ, List.getElem?_cons_zero, Nat.add_zero] at q0 q1 q2 q3 q4
      obtain ⟨X, ok, vs2, cs2, hX⟩ : ∃ X ok vs2 cs2, applyM vs cs c t k y v = (X, ok, vs2, cs2) := ⟨_, _, _, _, rfl⟩
      have HCC := hid hc0; have HTT := hid ht0; have HYY := hid hy0; have HVV := hid hv0; have HX := hid hX
      have HS2 := hid (show runM vs2 cs2 (l.drop (j + 1)) = (vs', cs') by have h := HS.out; dsimp only at h; rw [HX.out] at h; exact h)
      have HSO2 := hid (show (told ++ [X]) ++ outM vs2 cs2 (l.drop (j + 1)) = outs by have h := HSO.out; dsimp only at h; rw [HX.out] at h; rw [List.append_assoc]; exact h)
      have HXB := hid (show (Lit.int .u32 X).wf = true by have h := apply_bds HM.out.bv HM.out.bc (c := c) (t := t) (k := k) (y := y) HVV.out; rw [HX.out] at h; exact swf32 h)
      have hjl : (j : Int) < (l.length : Int) := by omega
      have HLT := hid hlt
      clear HS HSO hlt hc0 ht0 hk0 hy0 hv0 hX hga
      go_wp2_with (first
        | (go_at_call 11; (with_reducible refine (Apply_any (HM.out.frm (frm_box _ _) (fun h => h)) c t k y v HCC.out.1 HTT.out HYY.out.1 HVV.out X ok vs2 cs2 HX.out).mono ?_); rintro e w4 ⟨rfl, h', f'⟩; clear q0 q1 q2 q3 q4; have n0_ := hid ((HO.out.frm0 (frm_box _ _)).frm f' (fun k hk e => HO.out.off k hk (Nat.le_of_eq e))); have n1_ := hid (below_frm1 (HF.out.alloc HF.out.size _) f' HMB.out); clear HO HF; have HO := n0_; clear n0_; have HF := n1_; clear n1_; clear HM; have HM := hid h'; clear h' f')
        | (at_builtin; refine wpList_moreW rfl _ _ rfl rfl (HO.out.frm0 (frm_box _ _)) (fun k hk => by have := HM.out.blk.lt; simp; omega) (sone32 w4 X TU8W HXB.out) (show ([X] : List Int).length = 1 from rfl) (by have := HTL.out; have := HLT.out; have := HLN.out; omega) rfl rfl ?_; intro a' l' c' w5 ho' hf' hat'; have HM2 := hid ((HM.out.frm (frm_box w4 _) (fun h => h)).frm hf' (fun e => HO.out.off _ e (Nat.le_refl _))); have HF2 := hid ((HF.out.alloc HF.out.size _).trans (hf'.below (by have := HF.out.size; simp; omega) (fun k hk hn => HO.out.off k hn (Nat.le_of_lt (Nat.lt_of_lt_of_le hk HMB.out))))); clear HF HO HM hf' hat'; have HF := HF2; have HM := HM2; have HO := hid ho'; clear ho' HF2 HM2))
      go_roundw
      case rel => exact ⟨j + 1, _, _, told ++ [X], by have := HLT.out; omega, by go_num, by rw [List.length_append, HTL.out]; rfl, HS2.out, HSO2.out, HM.out, HO.out, HF.out⟩
      case measure => simp [intOf]; have := HLT.out; omega
    · have hjl : (l.length : Int) ≤ (j : Int) := by omega
      have HZO := hid (show told = outs from by have h := HRO.out; have e := List.drop_eq_nil_of_le (show l.length ≤ j by omega); rw [e, outM, List.append_nil] at h; exact h)
      have HZF := hid (show (vs, cs) = (vs', cs') from by have h := HRZ.out; have e := List.drop_eq_nil_of_le (show l.length ≤ j by omega); rw [e] at h; exact h)
      clear hlt
      go_wp2
      go_ret2
      refine ⟨mb, _, rfl, HMB.out, ?_, by rw [← HZO.out]; exact HO.out, HF.out⟩
      have h1 := congrArg Prod.fst HZF.out
      have h2 := congrArg Prod.snd HZF.out
      dsimp only at h1 h2
      rw [← h1, ← h2]
      exact HM.out
end Go.Proofs.Ytaeonidjfmlbiaa
