/- MerkleFinds, walked: what was changed shows in its page's sum alone, and in the root. -/
import Derived.Test.YtknaalaajmhjgaaMerkHelp
namespace Go.Proofs.Ytknaalaajmhjgaa
open Go.RowKit Go.ChangeShapes
set_option linter.unusedVariables false
set_option linter.unusedSimpArgs false
theorem getDset_eq {l : List Int} {i : Nat} (hi : i < l.length) (v : Int) : (l.set i v).getD i 0 = v := by
  rw [List.getD_eq_getElem?_getD, List.getElem?_set, if_pos rfl, if_pos hi]; rfl
theorem getDset_ne {l : List Int} {i j : Nat} (h : i ≠ j) (v : Int) : (l.set i v).getD j 0 = l.getD j 0 := by
  rw [List.getD_eq_getElem?_getD, List.getElem?_set, if_neg h, ← List.getD_eq_getElem?_getD]
theorem set_getD_self (l : List Int) (i : Nat) : l.set i (l.getD i 0) = l := by
  apply List.ext_getElem?
  intro j
  rw [List.getElem?_set]
  by_cases h : i = j
  · subst h
    rw [if_pos rfl]
    by_cases hi : i < l.length
    · rw [if_pos hi, List.getD_eq_getElem?_getD, List.getElem?_eq_getElem hi]; rfl
    · rw [if_neg hi, List.getElem?_eq_none (by omega)]
  · rw [if_neg h]
theorem pageB_set_ne (vs cs : List Int) (k : Nat) (v : Int) (q : Nat) (hq : q ≠ k % 7) (hq7 : q ≤ 7) : pageB (vs.set k v) cs q = pageB vs cs q := by
  unfold pageB
  split
  · rfl
  · rename_i h7
    unfold pvals
    congr 1
    funext j
    unfold kbytes
    rw [getDset_ne (by omega)]
theorem unl_set (x : List Int) (hx : x.length = 8) (p : Nat) (hp : p < 8) (v : Int) (hv : x.getD p 0 ≠ v) : unl x (x.set p v) 8 = [(p : Int)] := by
  have : ((List.range 8).filter fun i => x.length ≠ 8 ∨ (x.set p v).length ≠ 8 ∨ x.getD i 0 ≠ (x.set p v).getD i 0) = (List.range 8).filter fun i => i = p := by
    apply List.filter_congr
    intro i hi
    by_cases hip : i = p
    · subst hip
      rw [getDset_eq (by omega), decide_eq_true (.inr (.inr hv)), decide_eq_true rfl]
    · rw [getDset_ne (Ne.symm hip), decide_eq_false (by rw [List.length_set, hx]; simp), decide_eq_false hip]
  unfold unl
  rw [this]
  have h8 : p = 0 ∨ p = 1 ∨ p = 2 ∨ p = 3 ∨ p = 4 ∨ p = 5 ∨ p = 6 ∨ p = 7 := by omega
  rcases h8 with rfl | rfl | rfl | rfl | rfl | rfl | rfl | rfl <;> rfl
theorem sumsL_set (vs cs : List Int) (k : Nat) (v : Int) (p : Nat) (hp : k % 7 = p) : sumsL (vs.set k v) cs = (sumsL vs cs).set p (leafS p (pageB (vs.set k v) cs p)) := by
  have hne : ∀ q, q ≠ p → q ≤ 7 → pageB (vs.set k v) cs q = pageB vs cs q := fun q hq hq7 => pageB_set_ne vs cs k v q (by omega) hq7
  have h7 : p = 0 ∨ p = 1 ∨ p = 2 ∨ p = 3 ∨ p = 4 ∨ p = 5 ∨ p = 6 := by omega
  unfold sumsL
  rcases h7 with rfl | rfl | rfl | rfl | rfl | rfl | rfl
  · rw [hne 1 (by decide) (by decide), hne 2 (by decide) (by decide), hne 3 (by decide) (by decide), hne 4 (by decide) (by decide), hne 5 (by decide) (by decide), hne 6 (by decide) (by decide), hne 7 (by decide) (by decide)]; rfl
  · rw [hne 0 (by decide) (by decide), hne 2 (by decide) (by decide), hne 3 (by decide) (by decide), hne 4 (by decide) (by decide), hne 5 (by decide) (by decide), hne 6 (by decide) (by decide), hne 7 (by decide) (by decide)]; rfl
  · rw [hne 0 (by decide) (by decide), hne 1 (by decide) (by decide), hne 3 (by decide) (by decide), hne 4 (by decide) (by decide), hne 5 (by decide) (by decide), hne 6 (by decide) (by decide), hne 7 (by decide) (by decide)]; rfl
  · rw [hne 0 (by decide) (by decide), hne 1 (by decide) (by decide), hne 2 (by decide) (by decide), hne 4 (by decide) (by decide), hne 5 (by decide) (by decide), hne 6 (by decide) (by decide), hne 7 (by decide) (by decide)]; rfl
  · rw [hne 0 (by decide) (by decide), hne 1 (by decide) (by decide), hne 2 (by decide) (by decide), hne 3 (by decide) (by decide), hne 5 (by decide) (by decide), hne 6 (by decide) (by decide), hne 7 (by decide) (by decide)]; rfl
  · rw [hne 0 (by decide) (by decide), hne 1 (by decide) (by decide), hne 2 (by decide) (by decide), hne 3 (by decide) (by decide), hne 4 (by decide) (by decide), hne 6 (by decide) (by decide), hne 7 (by decide) (by decide)]; rfl
  · rw [hne 0 (by decide) (by decide), hne 1 (by decide) (by decide), hne 2 (by decide) (by decide), hne 3 (by decide) (by decide), hne 4 (by decide) (by decide), hne 5 (by decide) (by decide), hne 7 (by decide) (by decide)]; rfl
theorem sumsL_get (vs cs : List Int) (p : Nat) (hp : p < 7) : (sumsL vs cs).getD p 0 = leafS p (pageB vs cs p) := by
  have h7 : p = 0 ∨ p = 1 ∨ p = 2 ∨ p = 3 ∨ p = 4 ∨ p = 5 ∨ p = 6 := by omega
  rcases h7 with rfl | rfl | rfl | rfl | rfl | rfl | rfl <;> rfl
set_option maxRecDepth 100000 in
set_option maxHeartbeats 16000000 in
theorem MerkleFinds_walk (a0 : Option Addr) (c0 : Nat) (z0 : List Int) (key val : Int) (w : World) (h0 : IsInts .u8 w a0 c0 z0) (w1 : (Lit.int .u8 key).wf = true) (w2 : (Lit.int .u16 val).wf = true) :
    Calls Try.prog 5 #[.slice a0 z0.length c0, .int .u8 key, .int .u16 val] w fun e w' => e = .returned (.bool true) ∧ Below w.heap.size w w' := by
  have hkey := bounds_u8 w1
  have hval := bounds_u16 w2
  clear w1 w2
  have hle := h0.le
  have hsm := h0.small
  by_cases hlen : z0.length > 80
  · go_enter Try.func5, Try.ntmps5
    go_wp2_with (go_at_call 8; (with_reducible refine (known_calls _).mono ?_); rintro e w' ⟨rfl, f1⟩)
    go_ret
    exact ⟨rfl, f1⟩
  have H0 := hid h0; clear h0
  obtain ⟨cs, hcs⟩ : ∃ cs, cs = List.replicate 10 (0 : Int) := ⟨_, rfl⟩
  have HCS := hid hcs; clear hcs
  go_enter Try.func5, Try.ntmps5
  go_wp2_with (first
    | (go_at_call 8; (with_reducible refine (known_calls _).mono ?_); rintro e w1 ⟨rfl, f1⟩; have HF := hid f1; clear f1)
    | (go_at_call 15; (with_reducible refine (PNew_calls _).mono ?_); rintro e w2 ⟨rfl, h', f'⟩; have HB := hid HF.out.size; have HM := hid (HCS.out ▸ h'); have n0_ := hid (below_next HF.out f'); clear HF; have HF := n0_; clear n0_; clear f' h'))
  generalize w1.heap.size = b at *
  go_loopw [8] (fun i wr => ∃ (k : Nat) (vs : List Int), k ≤ z0.length ∧ i = .int .i64 k ∧ IsMap wr b vs cs ∧ Below w.heap.size w wr) (fun i _ => z0.length - (intOf i).toNat)
  case atStart => exact ⟨0, _, by omega, rfl, HM.out, HF.out⟩
  case round =>
    clear HM HF
    obtain ⟨k, vs, hk, rfl, hm, hf⟩ := hrel
    have HM := hid hm; have HF := hid hf; clear hm hf
    by_cases hlt : k < z0.length
    · obtain ⟨ga, off, rfl, hga, hc⟩ := H0.out.at_ (by omega)
      have hcx := hc k hlt
      have hwf : (Lit.int .u8 (z0.getD k 0)).wf = true := H0.out.wf _ (by rw [List.getD_eq_getElem?_getD, List.getElem?_eq_getElem hlt]; exact List.getElem_mem hlt)
      generalize z0.getD k 0 = x0 at hcx hwf
      have hx0 := bounds_u8 hwf
      have q0 := (HF.out.cell (p := ⟨ga, off + k, none⟩) hga).trans hcx
      have hkl : (k : Int) < (z0.length : Int) := by omega
      have hk80 : (k : Int) ≤ 80 := by omega
      have e1 : IntKind.u16.wrap (k : Int) = (k : Int) := by simp [IntKind.wrap, IntKind.bits, IntKind.signed]; omega
      have e2 : IntKind.u16.wrap ((k : Int) + 1) = (k : Int) + 1 := by simp [IntKind.wrap, IntKind.bits, IntKind.signed]; omega
      have HX := hid hx0.1
      have HK := hid (show 0 ≤ (k : Int) + 1 ∧ (k : Int) + 1 ≤ 65535 by omega)
      clear hc hwf hcx
      go_wp2_with (first
        | (go_at_call 16; (with_reducible refine (PPut_calls HM.out x0 HX.out ((k : Int) + 1) HK.out _ rfl).mono ?_); rintro e w' ⟨rfl, h', f'⟩; have n0_ := hid (h'); have n1_ := hid (below_frm1 HF.out f' HB.out); clear HM HF; have HM := n0_; clear n0_; have HF := n1_; clear n1_; clear f' h' q0))
      go_roundw
      case rel => exact ⟨k + 1, _, by omega, by go_num, HM.out, HF.out⟩
      case measure => simp [intOf]; omega
    · have hkl : (z0.length : Int) ≤ (k : Int) := by omega
      obtain ⟨S, hS⟩ : ∃ S, sumsL vs cs = S := ⟨_, rfl⟩
      obtain ⟨R, hR⟩ : ∃ R, rootS S = R := ⟨_, rfl⟩
      have hS8 : S.length = 8 := by rw [← hS]; rfl
      obtain ⟨y, hy⟩ : ∃ y : Nat, key % 64 = (y : Int) := ⟨(key % 64).toNat, by omega⟩
      have hy64 : y < 64 := by omega
      obtain ⟨p, hp⟩ : ∃ p : Nat, y % 7 = p := ⟨_, rfl⟩
      have hpy : (y : Int) % 7 = (p : Int) := by omega
      have hp7 : p < 7 := by omega
      have hyi : (y : Int) < 64 := by omega
      have hlv := HM.out.lv
      have hgv : getV vs (y : Int) = vs.getD y 0 := by rw [getV, if_pos hyi]; rfl
      have hpv : ∀ (us : List Int) (v : Int), putV us (y : Int) v = us.set y v := fun us v => by rw [putV, if_pos hyi]; rfl
      obtain ⟨od, hod⟩ : ∃ od, vs.getD y 0 = od := ⟨_, rfl⟩
      have hodb := getD_bd HM.out.bv (by decide) y
      rw [hod] at hodb
      obtain ⟨us, hus⟩ : ∃ us, vs.set y val = us := ⟨_, rfl⟩
      have hback : us.set y od = vs := by rw [← hus, ← hod, List.set_set, set_getD_self]
      obtain ⟨X, hX⟩ : ∃ X, leafS (p : Int) (pageB vs cs p) = X := ⟨_, rfl⟩
      obtain ⟨Y, hY⟩ : ∃ Y, leafS (p : Int) (pageB us cs p) = Y := ⟨_, rfl⟩
      have hSu : sumsL us cs = S.set p Y := by rw [← hus, sumsL_set vs cs y val p hp, hS, hus, hY]
      have hSp : S.getD p 0 = X := by rw [← hS, sumsL_get vs cs p hp7, hX]
      have HG := hid (hgv.trans hod)
      have HP1 := hid ((hpv vs val).trans hus)
      have HP2 := hid ((hpv us od).trans hback)
      have HS := hid hS; have HS8 := hid hS8; have HX := hid hX; have HY := hid hY; have HSU := hid hSu
      have HO := hid (show rootS (sumsL vs cs) = R by rw [hS, hR])
      have HY0 := hid (show (0 : Int) ≤ (y : Int) by omega)
      have HVB := hid (show 0 ≤ val ∧ val ≤ 65535 from hval)
      have HOB := hid hodb
      have HP7 := hid (show p ≤ 7 by omega)
      have hHM := hid (show ¬ False from fun h => h)
      have HPL := hid (page_len vs cs p); have HPL2 := hid (page_len us cs p)
      have HSL := hid (show (S.set p Y).length = 8 by rw [List.length_set]; exact hS8)
      by_cases hsame : S.set p Y = S
      · have hxy : X = Y := by rw [← hSp]; have := congrArg (fun l => l.getD p 0) hsame; rw [getDset_eq (by omega)] at this; exact this.symm
        have qxy : (X == Y) = true := beq_iff_eq.2 hxy
        have HO2 := hid (show rootS (sumsL us cs) = R by rw [hSu, hsame, hR])
        have HU := hid (show (unl S (S.set p Y) 8).length = 0 by rw [hsame, unl_self S hS8]; rfl)
        have HXY := hid hxy
        clear hS hR hS8 hp hpv hgv hod hus hback hX hY hSu hSp hlv hsame hxy hp7
        by_cases hov : od = val
        · have qov : (od == val) = true := beq_iff_eq.2 hov
          have HOV := hid hov; clear hov
          go_wp2_with (first
            | (go_at_call 17; (with_reducible refine (Sums_calls HM.out S HS.out).mono ?_); rintro e w' ⟨g1, rfl, hg, hI, f'⟩; have HN1 := hid (show ¬ g1 = b by have := HM.out.blk.lt; omega); have HS1 := hid hI; have n0_ := hid (HM.out.frm f' (fun h => h)); have n1_ := hid (below_frm0 HF.out f'); clear HM HF; have HM := n0_; clear n0_; have HF := n1_; clear n1_; clear f' hI hg)
            | (go_at_call 18; (with_reducible refine (Of_calls HM.out R HO.out).mono ?_); rintro e w' ⟨rfl, f'⟩; have n0_ := hid (HM.out.frm f' (fun h => h)); have n1_ := hid (below_frm0 HF.out f'); have n2_ := hid (HS1.out.frm f' (fun _ _ h => h)); clear HM HF HS1; have HM := n0_; clear n0_; have HF := n1_; clear n1_; have HS1 := n2_; clear n2_; clear f')
            | (go_at_call 19; (with_reducible refine (PGet_calls HM.out (y : Int) HY0.out od HG.out).mono ?_); rintro e w' ⟨rfl, rfl⟩; skip)
            | (go_at_call 20; (with_reducible refine (Page_at (vs := vs) HM.out (p : Int) p rfl HP7.out).mono ?_); rintro e w' ⟨g2, rfl, hg, hI, f'⟩; have HN2 := hid (show ¬ g2 = b by have := HM.out.blk.lt; omega); have HBP := hid hI; have n0_ := hid (HM.out.frm f' (fun h => h)); have n1_ := hid (below_frm0 HF.out f'); have n2_ := hid (HS1.out.frm f' (fun _ _ h => h)); clear HM HF HS1; have HM := n0_; clear n0_; have HF := n1_; clear n1_; have HS1 := n2_; clear n2_; clear f' hI hg)
            | (go_at_call 16; (with_reducible refine (PPut_calls HM.out (y : Int) HY0.out val HVB.out us HP1.out).mono ?_); rintro e w' ⟨rfl, h', f'⟩; have HZ0 := hid (HS1.out.frm f' (fun p hp e => by cases hp; exact HN1.out e)); have HZ1 := hid (HBP.out.frm f' (fun p hp e => by cases hp; exact HN2.out e)); have n0_ := hid (h'); have n1_ := hid (below_frm1 HF.out f' HB.out); clear HM HF; have HM := n0_; clear n0_; have HF := n1_; clear n1_; clear HS1 HBP; have HS1 := HZ0; clear HZ0; have HBP := HZ1; clear HZ1; clear f' h')
            | (go_at_call 17; (with_reducible refine (Sums_calls HM.out (S.set p Y) HSU.out).mono ?_); rintro e w' ⟨g3, rfl, hg, hI, f'⟩; have HS2 := hid hI; have n0_ := hid (HM.out.frm f' (fun h => h)); have n1_ := hid (below_frm0 HF.out f'); have n2_ := hid (HS1.out.frm f' (fun _ _ h => h)); have n3_ := hid (HBP.out.frm f' (fun _ _ h => h)); clear HM HF HS1 HBP; have HM := n0_; clear n0_; have HF := n1_; clear n1_; have HS1 := n2_; clear n2_; have HBP := n3_; clear n3_; clear f' hI hg)
            | (go_at_call 12; (with_reducible refine (Unlike_calls 8 8 HS1.out HS2.out HS8.out HSL.out).mono ?_); rintro e w' ⟨au, cu, rfl, hu, f'⟩; (rw [HU.out]); have n0_ := hid (HM.out.frm f' (fun h => h)); have n1_ := hid (below_frm0 HF.out f'); have n2_ := hid (HS1.out.frm f' (fun _ _ h => h)); have n3_ := hid (HBP.out.frm f' (fun _ _ h => h)); clear HM HF HS1 HBP; have HM := n0_; clear n0_; have HF := n1_; clear n1_; have HS1 := n2_; clear n2_; have HBP := n3_; clear n3_; clear f' hu HS2)
            | (go_at_call 13; (with_reducible refine (Leaf_calls (p : Int) (pageB vs cs p).length HBP.out rfl (by have := HPL.out; omega) X HX.out).mono ?_); rintro e w' ⟨rfl, f'⟩; have n0_ := hid (HM.out.frm f' (fun h => h)); have n1_ := hid (below_frm0 HF.out f'); have n2_ := hid (HS1.out.frm f' (fun _ _ h => h)); clear HM HF HS1; have HM := n0_; clear n0_; have HF := n1_; clear n1_; have HS1 := n2_; clear n2_; clear f' HBP)
            | (go_at_call 20; (with_reducible refine (Page_at (vs := us) HM.out (p : Int) p rfl HP7.out).mono ?_); rintro e w' ⟨g4, rfl, hg, hI, f'⟩; have HBQ := hid hI; have n0_ := hid (HM.out.frm f' (fun h => h)); have n1_ := hid (below_frm0 HF.out f'); have n2_ := hid (HS1.out.frm f' (fun _ _ h => h)); clear HM HF HS1; have HM := n0_; clear n0_; have HF := n1_; clear n1_; have HS1 := n2_; clear n2_; clear f' hI hg)
            | (go_at_call 13; (with_reducible refine (Leaf_calls (p : Int) (pageB us cs p).length HBQ.out rfl (by have := HPL2.out; omega) Y HY.out).mono ?_); rintro e w' ⟨rfl, f'⟩; have n0_ := hid (HM.out.frm f' (fun h => h)); have n1_ := hid (below_frm0 HF.out f'); have n2_ := hid (HS1.out.frm f' (fun _ _ h => h)); clear HM HF HS1; have HM := n0_; clear n0_; have HF := n1_; clear n1_; have HS1 := n2_; clear n2_; clear f' HBQ)
            | (go_at_call 18; (with_reducible refine (Of_calls HM.out R HO2.out).mono ?_); rintro e w' ⟨rfl, f'⟩; have n0_ := hid (HM.out.frm f' (fun h => h)); have n1_ := hid (below_frm0 HF.out f'); clear HM HF; have HM := n0_; clear n0_; have HF := n1_; clear n1_; clear f'))
          go_ret
          exact ⟨rfl, HF.out⟩
        · have qov : (od == val) = false := beq_eq_false_iff_ne.2 hov
          clear hov
          go_wp2_with (first
            | (go_at_call 17; (with_reducible refine (Sums_calls HM.out S HS.out).mono ?_); rintro e w' ⟨g1, rfl, hg, hI, f'⟩; have HN1 := hid (show ¬ g1 = b by have := HM.out.blk.lt; omega); have HS1 := hid hI; have n0_ := hid (HM.out.frm f' (fun h => h)); have n1_ := hid (below_frm0 HF.out f'); clear HM HF; have HM := n0_; clear n0_; have HF := n1_; clear n1_; clear f' hI hg)
            | (go_at_call 18; (with_reducible refine (Of_calls HM.out R HO.out).mono ?_); rintro e w' ⟨rfl, f'⟩; have n0_ := hid (HM.out.frm f' (fun h => h)); have n1_ := hid (below_frm0 HF.out f'); have n2_ := hid (HS1.out.frm f' (fun _ _ h => h)); clear HM HF HS1; have HM := n0_; clear n0_; have HF := n1_; clear n1_; have HS1 := n2_; clear n2_; clear f')
            | (go_at_call 19; (with_reducible refine (PGet_calls HM.out (y : Int) HY0.out od HG.out).mono ?_); rintro e w' ⟨rfl, rfl⟩; skip)
            | (go_at_call 20; (with_reducible refine (Page_at (vs := vs) HM.out (p : Int) p rfl HP7.out).mono ?_); rintro e w' ⟨g2, rfl, hg, hI, f'⟩; have HN2 := hid (show ¬ g2 = b by have := HM.out.blk.lt; omega); have HBP := hid hI; have n0_ := hid (HM.out.frm f' (fun h => h)); have n1_ := hid (below_frm0 HF.out f'); have n2_ := hid (HS1.out.frm f' (fun _ _ h => h)); clear HM HF HS1; have HM := n0_; clear n0_; have HF := n1_; clear n1_; have HS1 := n2_; clear n2_; clear f' hI hg)
            | (go_at_call 16; (with_reducible refine (PPut_calls HM.out (y : Int) HY0.out val HVB.out us HP1.out).mono ?_); rintro e w' ⟨rfl, h', f'⟩; have HZ0 := hid (HS1.out.frm f' (fun p hp e => by cases hp; exact HN1.out e)); have HZ1 := hid (HBP.out.frm f' (fun p hp e => by cases hp; exact HN2.out e)); have n0_ := hid (h'); have n1_ := hid (below_frm1 HF.out f' HB.out); clear HM HF; have HM := n0_; clear n0_; have HF := n1_; clear n1_; clear HS1 HBP; have HS1 := HZ0; clear HZ0; have HBP := HZ1; clear HZ1; clear f' h')
            | (go_at_call 17; (with_reducible refine (Sums_calls HM.out (S.set p Y) HSU.out).mono ?_); rintro e w' ⟨g3, rfl, hg, hI, f'⟩; have HS2 := hid hI; have n0_ := hid (HM.out.frm f' (fun h => h)); have n1_ := hid (below_frm0 HF.out f'); have n2_ := hid (HS1.out.frm f' (fun _ _ h => h)); have n3_ := hid (HBP.out.frm f' (fun _ _ h => h)); clear HM HF HS1 HBP; have HM := n0_; clear n0_; have HF := n1_; clear n1_; have HS1 := n2_; clear n2_; have HBP := n3_; clear n3_; clear f' hI hg)
            | (go_at_call 12; (with_reducible refine (Unlike_calls 8 8 HS1.out HS2.out HS8.out HSL.out).mono ?_); rintro e w' ⟨au, cu, rfl, hu, f'⟩; (rw [HU.out]); have n0_ := hid (HM.out.frm f' (fun h => h)); have n1_ := hid (below_frm0 HF.out f'); have n2_ := hid (HS1.out.frm f' (fun _ _ h => h)); have n3_ := hid (HBP.out.frm f' (fun _ _ h => h)); clear HM HF HS1 HBP; have HM := n0_; clear n0_; have HF := n1_; clear n1_; have HS1 := n2_; clear n2_; have HBP := n3_; clear n3_; clear f' hu HS2)
            | (go_at_call 13; (with_reducible refine (Leaf_calls (p : Int) (pageB vs cs p).length HBP.out rfl (by have := HPL.out; omega) X HX.out).mono ?_); rintro e w' ⟨rfl, f'⟩; have n0_ := hid (HM.out.frm f' (fun h => h)); have n1_ := hid (below_frm0 HF.out f'); have n2_ := hid (HS1.out.frm f' (fun _ _ h => h)); clear HM HF HS1; have HM := n0_; clear n0_; have HF := n1_; clear n1_; have HS1 := n2_; clear n2_; clear f' HBP)
            | (go_at_call 20; (with_reducible refine (Page_at (vs := us) HM.out (p : Int) p rfl HP7.out).mono ?_); rintro e w' ⟨g4, rfl, hg, hI, f'⟩; have HBQ := hid hI; have n0_ := hid (HM.out.frm f' (fun h => h)); have n1_ := hid (below_frm0 HF.out f'); have n2_ := hid (HS1.out.frm f' (fun _ _ h => h)); clear HM HF HS1; have HM := n0_; clear n0_; have HF := n1_; clear n1_; have HS1 := n2_; clear n2_; clear f' hI hg)
            | (go_at_call 13; (with_reducible refine (Leaf_calls (p : Int) (pageB us cs p).length HBQ.out rfl (by have := HPL2.out; omega) Y HY.out).mono ?_); rintro e w' ⟨rfl, f'⟩; have n0_ := hid (HM.out.frm f' (fun h => h)); have n1_ := hid (below_frm0 HF.out f'); have n2_ := hid (HS1.out.frm f' (fun _ _ h => h)); clear HM HF HS1; have HM := n0_; clear n0_; have HF := n1_; clear n1_; have HS1 := n2_; clear n2_; clear f' HBQ)
            | (go_at_call 18; (with_reducible refine (Of_calls HM.out R HO2.out).mono ?_); rintro e w' ⟨rfl, f'⟩; have n0_ := hid (HM.out.frm f' (fun h => h)); have n1_ := hid (below_frm0 HF.out f'); clear HM HF; have HM := n0_; clear n0_; have HF := n1_; clear n1_; clear f'))
          go_ret
          exact ⟨rfl, HF.out⟩
      · have hxy : X ≠ Y := fun h => hsame (by rw [← h, ← hSp]; exact set_getD_self S p)
        have hov : od ≠ val := fun h => hsame (by rw [← hSu, ← hus, ← h, ← hod, set_getD_self, hS])
        have qxy : (X == Y) = false := beq_eq_false_iff_ne.2 hxy
        have qov : (od == val) = false := beq_eq_false_iff_ne.2 hov
        have HU := hid (show unl S (S.set p Y) 8 = [(p : Int)] from unl_set S hS8 p (by omega) Y (by rw [hSp]; exact hxy))
        have HPI := hid (show (Lit.int .i64 (p : Int)).wf = true by simp [Lit.wf, IntKind.min, IntKind.max, IntKind.bits, IntKind.signed]; omega)
        clear hS hR hS8 hp hpv hgv hod hus hback hX hY hSu hSp hlv hsame hxy hp7 hov
        go_wp2_with (first
          | (go_at_call 17; (with_reducible refine (Sums_calls HM.out S HS.out).mono ?_); rintro e w' ⟨g5, rfl, hg, hI, f'⟩; have HS3 := hid hI; have n0_ := hid (HM.out.frm f' (fun h => h)); have n1_ := hid (below_frm0 HF.out f'); have n2_ := hid (HS1.out.frm f' (fun _ _ h => h)); clear HM HF HS1; have HM := n0_; clear n0_; have HF := n1_; clear n1_; have HS1 := n2_; clear n2_; clear f' hI hg)
          | (go_at_call 17; (with_reducible refine (Sums_calls HM.out S HS.out).mono ?_); rintro e w' ⟨g1, rfl, hg, hI, f'⟩; have HN1 := hid (show ¬ g1 = b by have := HM.out.blk.lt; omega); have HS1 := hid hI; have n0_ := hid (HM.out.frm f' (fun h => h)); have n1_ := hid (below_frm0 HF.out f'); clear HM HF; have HM := n0_; clear n0_; have HF := n1_; clear n1_; clear f' hI hg)
          | (go_at_call 18; (with_reducible refine (Of_calls HM.out R HO.out).mono ?_); rintro e w' ⟨rfl, f'⟩; have n0_ := hid (HM.out.frm f' (fun h => h)); have n1_ := hid (below_frm0 HF.out f'); have n2_ := hid (HS1.out.frm f' (fun _ _ h => h)); clear HM HF HS1; have HM := n0_; clear n0_; have HF := n1_; clear n1_; have HS1 := n2_; clear n2_; clear f')
          | (go_at_call 19; (with_reducible refine (PGet_calls HM.out (y : Int) HY0.out od HG.out).mono ?_); rintro e w' ⟨rfl, rfl⟩; skip)
          | (go_at_call 20; (with_reducible refine (Page_at (vs := vs) HM.out (p : Int) p rfl HP7.out).mono ?_); rintro e w' ⟨g2, rfl, hg, hI, f'⟩; have HN2 := hid (show ¬ g2 = b by have := HM.out.blk.lt; omega); have HBP := hid hI; have n0_ := hid (HM.out.frm f' (fun h => h)); have n1_ := hid (below_frm0 HF.out f'); have n2_ := hid (HS1.out.frm f' (fun _ _ h => h)); clear HM HF HS1; have HM := n0_; clear n0_; have HF := n1_; clear n1_; have HS1 := n2_; clear n2_; clear f' hI hg)
          | (go_at_call 16; (with_reducible refine (PPut_calls HM.out (y : Int) HY0.out val HVB.out us HP1.out).mono ?_); rintro e w' ⟨rfl, h', f'⟩; have HZ0 := hid (HS1.out.frm f' (fun p hp e => by cases hp; exact HN1.out e)); have HZ1 := hid (HBP.out.frm f' (fun p hp e => by cases hp; exact HN2.out e)); have n0_ := hid (h'); have n1_ := hid (below_frm1 HF.out f' HB.out); clear HM HF; have HM := n0_; clear n0_; have HF := n1_; clear n1_; clear HS1 HBP; have HS1 := HZ0; clear HZ0; have HBP := HZ1; clear HZ1; clear f' h')
          | (go_at_call 17; (with_reducible refine (Sums_calls HM.out (S.set p Y) HSU.out).mono ?_); rintro e w' ⟨g3, rfl, hg, hI, f'⟩; have HS2 := hid hI; have n0_ := hid (HM.out.frm f' (fun h => h)); have n1_ := hid (below_frm0 HF.out f'); have n2_ := hid (HS1.out.frm f' (fun _ _ h => h)); have n3_ := hid (HBP.out.frm f' (fun _ _ h => h)); clear HM HF HS1 HBP; have HM := n0_; clear n0_; have HF := n1_; clear n1_; have HS1 := n2_; clear n2_; have HBP := n3_; clear n3_; clear f' hI hg)
          | (go_at_call 12; (with_reducible refine (Unlike_calls 8 8 HS1.out HS2.out HS8.out HSL.out).mono ?_); rintro e w' ⟨au, cu, rfl, hu, f'⟩; (rw [HU.out] at hu ⊢); have HUL := hid hu; have n0_ := hid (HM.out.frm f' (fun h => h)); have n1_ := hid (below_frm0 HF.out f'); have n2_ := hid (HS1.out.frm f' (fun _ _ h => h)); have n3_ := hid (HBP.out.frm f' (fun _ _ h => h)); clear HM HF HS1 HBP; have HM := n0_; clear n0_; have HF := n1_; clear n1_; have HS1 := n2_; clear n2_; have HBP := n3_; clear n3_; clear f' hu HS2)
          | (go_at_call 13; (with_reducible refine (Leaf_calls (p : Int) (pageB vs cs p).length HBP.out rfl (by have := HPL.out; omega) X HX.out).mono ?_); rintro e w' ⟨rfl, f'⟩; have n0_ := hid (HM.out.frm f' (fun h => h)); have n1_ := hid (below_frm0 HF.out f'); have n2_ := hid (HS1.out.frm f' (fun _ _ h => h)); have n3_ := hid (HUL.out.frm f' (fun _ _ h => h)); clear HM HF HS1 HUL; have HM := n0_; clear n0_; have HF := n1_; clear n1_; have HS1 := n2_; clear n2_; have HUL := n3_; clear n3_; clear f' HBP)
          | (go_at_call 20; (with_reducible refine (Page_at (vs := us) HM.out (p : Int) p rfl HP7.out).mono ?_); rintro e w' ⟨g4, rfl, hg, hI, f'⟩; have HBQ := hid hI; have n0_ := hid (HM.out.frm f' (fun h => h)); have n1_ := hid (below_frm0 HF.out f'); have n2_ := hid (HS1.out.frm f' (fun _ _ h => h)); have n3_ := hid (HUL.out.frm f' (fun _ _ h => h)); clear HM HF HS1 HUL; have HM := n0_; clear n0_; have HF := n1_; clear n1_; have HS1 := n2_; clear n2_; have HUL := n3_; clear n3_; clear f' hI hg)
          | (go_at_call 13; (with_reducible refine (Leaf_calls (p : Int) (pageB us cs p).length HBQ.out rfl (by have := HPL2.out; omega) Y HY.out).mono ?_); rintro e w' ⟨rfl, f'⟩; have n0_ := hid (HM.out.frm f' (fun h => h)); have n1_ := hid (below_frm0 HF.out f'); have n2_ := hid (HS1.out.frm f' (fun _ _ h => h)); have n3_ := hid (HUL.out.frm f' (fun _ _ h => h)); clear HM HF HS1 HUL; have HM := n0_; clear n0_; have HF := n1_; clear n1_; have HS1 := n2_; clear n2_; have HUL := n3_; clear n3_; clear f' HBQ)
          | (go_at_call 21; (with_reducible refine (HInts_eq 1 1 (HUL.out.frm (frm_box _ _) (fun _ _ h => h)) (one_intsI _ (p : Int) _ HPI.out) rfl rfl).mono ?_); rintro e w' ⟨rfl, f'⟩; have HM2 := hid ((HM.out.frm (frm_box _ _) (fun h => h)).frm f' (fun h => h)); have HS12 := hid ((HS1.out.frm (frm_box _ _) (fun _ _ h => h)).frm f' (fun _ _ h => h)); have HF2 := hid (below_frm0 (HF.out.alloc HF.out.size _) f'); clear HM HS1 HF f' HUL; have HM := HM2; have HS1 := HS12; have HF := HF2; clear HM2 HS12 HF2)
          | (go_at_call 16; (with_reducible refine (PPut_calls HM.out (y : Int) HY0.out od HOB.out vs HP2.out).mono ?_); rintro e w' ⟨rfl, h', f'⟩; have HZ0 := hid (HS1.out.frm f' (fun p hp e => by cases hp; exact HN1.out e)); have n0_ := hid (h'); have n1_ := hid (below_frm1 HF.out f' HB.out); clear HM HF; have HM := n0_; clear n0_; have HF := n1_; clear n1_; clear HS1; have HS1 := HZ0; clear HZ0; clear f' h')
          | (go_at_call 18; (with_reducible refine (Of_calls HM.out R HO.out).mono ?_); rintro e w' ⟨rfl, f'⟩; have n0_ := hid (HM.out.frm f' (fun h => h)); have n1_ := hid (below_frm0 HF.out f'); have n2_ := hid (HS1.out.frm f' (fun _ _ h => h)); clear HM HF HS1; have HM := n0_; clear n0_; have HF := n1_; clear n1_; have HS1 := n2_; clear n2_; clear f')
          | (go_at_call 22; (with_reducible refine (HSums_eq 8 8 HS3.out HS1.out HS8.out HS8.out).mono ?_); rintro e w' ⟨rfl, f'⟩; have n0_ := hid (below_frm0 HF.out f'); clear HF; have HF := n0_; clear n0_; clear f'))
        go_ret
        exact ⟨rfl, HF.out⟩
end Go.Proofs.Ytknaalaajmhjgaa
