/- MerkleTree, walked: a root is made of groups, a group of leaves, two by two, in their order. -/
import Derived.Test.YtknaalaajmhjgaaMerkFinds
import Derived.Test.YtknaalaajmhjgaaTypes
namespace Go.Proofs.Ytknaalaajmhjgaa
open Go.RowKit Go.ChangeShapes
set_option linter.unusedVariables false
set_option linter.unusedSimpArgs false
abbrev TA8 : Nat := 23
abbrev TA4 : Nat := 26
theorem lb_ints {w : World} {g T : Nat} {x : List Int} (h : Blk w g (bytU x) T) (hl : x.length = 8) (hw : ∀ n ∈ x, (Lit.int .u64 n).wf = true) : IsInts .u64 w (some ⟨g, 0, none⟩) 8 x :=
  IsInts.of_takeU h (List.take_of_length_le (by rw [List.length_map]; omega)) (by omega) (by decide) hw
theorem lb_cell {w : World} {g T : Nat} {x : List Int} (h : Blk w g (bytU x) T) (k : Nat) (hk : k < x.length) {v : Int} (hv : x.getD k 0 = v) : w.cell? ⟨g, k, none⟩ = some (.int .u64 v) := by
  rw [h.cell, List.getElem?_map, List.getElem?_eq_getElem hk, ← hv, List.getD_eq_getElem?_getD, List.getElem?_eq_getElem hk]; rfl
theorem u64_bd {x : List Int} (hw : ∀ n ∈ x, (Lit.int .u64 n).wf = true) (k : Nat) : 0 ≤ x.getD k 0 ∧ x.getD k 0 < 18446744073709551616 := by
  have := getD_bd (l := x) (m := 18446744073709551615) (fun n hn => bounds_u64 (hw n hn)) (by decide) k
  omega
theorem unl_swap (x : List Int) (hx : x.length = 8) (i j : Nat) (hi : i < 8) (hj : j < 8) : (unl x ((x.set i (x.getD j 0)).set j (x.getD i 0)) 8).length = if x.getD i 0 = x.getD j 0 then 0 else 2 := by
  have hget : ∀ k, ((x.set i (x.getD j 0)).set j (x.getD i 0)).getD k 0 = if k = j then x.getD i 0 else if k = i then x.getD j 0 else x.getD k 0 := by
    intro k
    by_cases hkj : k = j
    · subst hkj; rw [if_pos rfl, getDset_eq (by rw [List.length_set]; omega)]
    · rw [if_neg hkj, getDset_ne (Ne.symm hkj)]
      by_cases hki : k = i
      · subst hki; rw [if_pos rfl, getDset_eq (by omega)]
      · rw [if_neg hki, getDset_ne (Ne.symm hki)]
  unfold unl
  rw [List.length_map]
  by_cases he : x.getD i 0 = x.getD j 0
  · rw [if_pos he, List.filter_eq_nil_iff.2]
    · rfl
    · intro k _ hk
      have hk' := of_decide_eq_true hk
      rw [hget, List.length_set, List.length_set, hx] at hk'
      rcases hk' with h | h | h
      · exact h rfl
      · exact h rfl
      · split at h
        · rename_i e; subst e; exact h he.symm
        · split at h
          · rename_i e; subst e; exact h he
          · exact h rfl
  · rw [if_neg he]
    have hne : i ≠ j := fun e => he (by rw [e])
    have : ((List.range 8).filter fun k => x.length ≠ 8 ∨ ((x.set i (x.getD j 0)).set j (x.getD i 0)).length ≠ 8 ∨ x.getD k 0 ≠ ((x.set i (x.getD j 0)).set j (x.getD i 0)).getD k 0) = (List.range 8).filter fun k => k = i ∨ k = j := by
      apply List.filter_congr
      intro k _
      rw [hget, List.length_set, List.length_set, hx]
      by_cases hkj : k = j
      · subst hkj
        rw [if_pos rfl, decide_eq_true (.inr (.inr (Ne.symm he))), decide_eq_true (.inr rfl)]
      · rw [if_neg hkj]
        by_cases hki : k = i
        · subst hki
          rw [if_pos rfl, decide_eq_true (.inr (.inr he)), decide_eq_true (.inl rfl)]
        · rw [if_neg hki, decide_eq_false (by simp), decide_eq_false (by omega)]
    rw [this]
    have key : ∀ i, i < 8 → ∀ j, j < 8 → i ≠ j → ((List.range 8).filter fun k => k = i ∨ k = j).length = 2 := by decide
    exact key i hi j hj hne
set_option maxRecDepth 100000 in
set_option maxHeartbeats 16000000 in
theorem MerkleTree_walk (l0 : List Value) (x0 : List Int) (a b : Int) (w : World) (h0 : c23.K w x0 l0) (w1 : (Lit.int .u8 a).wf = true) (w2 : (Lit.int .u8 b).wf = true) :
    Calls Try.prog 3 #[.agg l0.toArray, .int .u8 a, .int .u8 b] w fun e w' => e = .returned (.bool true) ∧ Below w.heap.size w w' := by
  obtain ⟨rfl, hl8, hwf⟩ := k23 h0
  clear h0
  have ha := bounds_u8 w1
  have hb := bounds_u8 w2
  clear w1 w2
  obtain ⟨Z, hZ⟩ : ∃ Z, (bytU x0).toArray = Z := ⟨_, rfl⟩
  have hZ' : (x0.map (Value.int .u64)).toArray = Z := hZ
  rw [hZ']
  clear hZ'
  have HL8 := hid hl8; have HWF := hid hwf; clear hl8 hwf
  have hB0 : Blk (w.alloc (.cells Z TA8)) w.heap.size (bytU x0) TA8 := by rw [← hZ]; exact Blk.new w (bytU x0) TA8
  have HB0 := hid hB0; clear hB0 hZ
  obtain ⟨v0, hv0⟩ : ∃ v, x0.getD 0 0 = v := ⟨_, rfl⟩
  have H0 := hid hv0; have B0 := hid (show 0 ≤ v0 ∧ v0 < 18446744073709551616 from hv0 ▸ u64_bd HWF.out 0); clear hv0
  obtain ⟨v1, hv1⟩ : ∃ v, x0.getD 1 0 = v := ⟨_, rfl⟩
  have H1 := hid hv1; have B1 := hid (show 0 ≤ v1 ∧ v1 < 18446744073709551616 from hv1 ▸ u64_bd HWF.out 1); clear hv1
  obtain ⟨v2, hv2⟩ : ∃ v, x0.getD 2 0 = v := ⟨_, rfl⟩
  have H2 := hid hv2; have B2 := hid (show 0 ≤ v2 ∧ v2 < 18446744073709551616 from hv2 ▸ u64_bd HWF.out 2); clear hv2
  obtain ⟨v3, hv3⟩ : ∃ v, x0.getD 3 0 = v := ⟨_, rfl⟩
  have H3 := hid hv3; have B3 := hid (show 0 ≤ v3 ∧ v3 < 18446744073709551616 from hv3 ▸ u64_bd HWF.out 3); clear hv3
  obtain ⟨v4, hv4⟩ : ∃ v, x0.getD 4 0 = v := ⟨_, rfl⟩
  have H4 := hid hv4; have B4 := hid (show 0 ≤ v4 ∧ v4 < 18446744073709551616 from hv4 ▸ u64_bd HWF.out 4); clear hv4
  obtain ⟨v5, hv5⟩ : ∃ v, x0.getD 5 0 = v := ⟨_, rfl⟩
  have H5 := hid hv5; have B5 := hid (show 0 ≤ v5 ∧ v5 < 18446744073709551616 from hv5 ▸ u64_bd HWF.out 5); clear hv5
  obtain ⟨v6, hv6⟩ : ∃ v, x0.getD 6 0 = v := ⟨_, rfl⟩
  have H6 := hid hv6; have B6 := hid (show 0 ≤ v6 ∧ v6 < 18446744073709551616 from hv6 ▸ u64_bd HWF.out 6); clear hv6
  obtain ⟨v7, hv7⟩ : ∃ v, x0.getD 7 0 = v := ⟨_, rfl⟩
  have H7 := hid hv7; have B7 := hid (show 0 ≤ v7 ∧ v7 < 18446744073709551616 from hv7 ▸ u64_bd HWF.out 7); clear hv7
  obtain ⟨g0, hG0⟩ : ∃ g, mixS (x0.getD 0 0) (x0.getD 1 0) = g := ⟨_, rfl⟩
  obtain ⟨g1, hG1⟩ : ∃ g, mixS (x0.getD 2 0) (x0.getD 3 0) = g := ⟨_, rfl⟩
  obtain ⟨g2, hG2⟩ : ∃ g, mixS (x0.getD 4 0) (x0.getD 5 0) = g := ⟨_, rfl⟩
  obtain ⟨g3, hG3⟩ : ∃ g, mixS (x0.getD 6 0) (x0.getD 7 0) = g := ⟨_, rfl⟩
  have HG0 := hid (show mixS v0 v1 = g0 by rw [← H0.out, ← H1.out]; exact hG0)
  have HG1 := hid (show mixS v2 v3 = g1 by rw [← H2.out, ← H3.out]; exact hG1)
  have HG2 := hid (show mixS v4 v5 = g2 by rw [← H4.out, ← H5.out]; exact hG2)
  have HG3 := hid (show mixS v6 v7 = g3 by rw [← H6.out, ← H7.out]; exact hG3)
  obtain ⟨R, hR⟩ : ∃ R, rootS x0 = R := ⟨_, rfl⟩
  obtain ⟨m0, hm0⟩ : ∃ m, mixS g0 g1 = m := ⟨_, rfl⟩
  obtain ⟨m1, hm1⟩ : ∃ m, mixS g2 g3 = m := ⟨_, rfl⟩
  have HM0 := hid hm0; have HM1 := hid hm1
  have HGS0 := hid (show groupS x0 0 = g0 by rw [groupS, if_pos ⟨HL8.out, by decide, by decide⟩]; exact hG0)
  have HGS1 := hid (show groupS x0 1 = g1 by rw [groupS, if_pos ⟨HL8.out, by decide, by decide⟩]; exact hG1)
  have HGS2 := hid (show groupS x0 2 = g2 by rw [groupS, if_pos ⟨HL8.out, by decide, by decide⟩]; exact hG2)
  have HGS3 := hid (show groupS x0 3 = g3 by rw [groupS, if_pos ⟨HL8.out, by decide, by decide⟩]; exact hG3)
  have HMR := hid (show mixS m0 m1 = R by rw [← hR, rootS, if_pos HL8.out, HGS0.out, HGS1.out, HGS2.out, HGS3.out, hm0, hm1])
  have HR := hid hR
  have BG0 := hid (show 0 ≤ g0 ∧ g0 < 18446744073709551616 by rw [← hG0]; exact mixS_bd _ _)
  have BG1 := hid (show 0 ≤ g1 ∧ g1 < 18446744073709551616 by rw [← hG1]; exact mixS_bd _ _)
  have BG2 := hid (show 0 ≤ g2 ∧ g2 < 18446744073709551616 by rw [← hG2]; exact mixS_bd _ _)
  have BG3 := hid (show 0 ≤ g3 ∧ g3 < 18446744073709551616 by rw [← hG3]; exact mixS_bd _ _)
  have BM0 := hid (show 0 ≤ m0 ∧ m0 < 18446744073709551616 by rw [← hm0]; exact mixS_bd _ _)
  have BM1 := hid (show 0 ≤ m1 ∧ m1 < 18446744073709551616 by rw [← hm1]; exact mixS_bd _ _)
  clear hG0 hG1 hG2 hG3 hR hm0 hm1
  go_enter Try.func3, Try.ntmps3
  go_wp2_with (first
    | (go_at_call 8; (with_reducible refine (known_calls _).mono ?_); rintro e w1 ⟨rfl, f1⟩; have HL := hid (HB0.out.frm (frm0_of f1) (fun h => h)); have HF := hid (below_next ((Below.refl _ _).alloc (Nat.le_refl _) _) f1); clear HB0 f1))
  have hne : ¬ w.heap.size = w1.heap.size := by have := HL.out.lt; omega
  have hle1 := HF.out.size
  generalize hwz : w1.alloc (Obj.cells _ TA4) = wz
  have stG : Blk wz w1.heap.size (bytU (four g0 g1 g2 g3 0)) TA4 := hwz ▸ Blk.new w1 (bytU (four g0 g1 g2 g3 0)) TA4
  have stL : Blk wz w.heap.size (bytU x0) TA8 := hwz ▸ HL.out.alloc _
  have stF : Below w.heap.size w wz := hwz ▸ HF.out.alloc hle1 _
  clear hwz HL HF
  generalize hgb : w1.heap.size = gb at *
  generalize hlb : w.heap.size = lb at *
  have HLB := hid hlb; clear hlb hgb
  have hne2 : ¬ gb = lb := fun e => hne e.symm
  go_loopw [9] (fun i wr => ∃ k : Nat, k ≤ 4 ∧ i = .int .i64 k ∧ Blk wr gb (bytU (four g0 g1 g2 g3 k)) TA4 ∧ Blk wr lb (bytU x0) TA8 ∧ Below lb w wr) (fun i _ => 4 - (intOf i).toNat)
  case atStart => exact ⟨0, by omega, rfl, stG, stL, stF⟩
  case round =>
    clear stG stL stF
    obtain ⟨k, hk, rfl, hg, hl, hf⟩ := hrel
    have c4 : k = 0 ∨ k = 1 ∨ k = 2 ∨ k = 3 ∨ k = 4 := by omega
    have HG := hid hg; have HL := hid hl; have HF := hid hf; clear hg hl hf
    rcases c4 with rfl | rfl | rfl | rfl | rfl
    · have q0 := lb_cell HL.out 0 (by rw [HL8.out]; decide) H0.out
      have q1 := lb_cell HL.out 1 (by rw [HL8.out]; decide) H1.out
      have e0 : IntKind.i64.wrap (2 * 0) = 0 := by decide
      have e1 : IntKind.i64.wrap 0 = 0 := by decide
      have e2 : IntKind.i64.wrap (0 + 1) = 1 := by decide
      have e3 : IntKind.i64.wrap 1 = 1 := by decide
      go_wp2_with (fail)
      have HG2 := hid (show Blk _ gb (bytU (four g0 g1 g2 g3 0)) TA4 from (HG.out.frm (frm_drew _) (fun h => h))); have HL2 := hid (HL.out.frm (frm_drew _) (fun h => h)); have HF2 := hid (bdrew HF.out); clear HG HL HF; have HG := HG2; have HL := HL2; have HF := HF2; clear HG2 HL2 HF2
      go_region_held3 (fun wx => wx.cell? ⟨lb, 0, none⟩ = some (.int .u64 v0) ∧ wx.cell? ⟨lb, 1, none⟩ = some (.int .u64 v1)) (first | go_keep | exact ⟨r0, r1⟩ | (refine ⟨?_, ?_⟩ <;> (rw [World.cell?_setCell_other _ _ _ _ (by simp; first | exact hne | exact hne2)]; assumption))) ((go_at_call 9; (with_reducible refine (RMix_calls v0 v1 _ B0.out.1 B0.out.2 B1.out.1 B1.out.2 g0 HG0.out).mono ?_); rintro e w' ⟨rfl, f'⟩; have n0_ := hid (HG.out.frm f' (fun h => h)); have n1_ := hid (HL.out.frm f' (fun h => h)); have n2_ := hid (HF.out.trans (f'.below (HLB.out ▸ (show Below w.heap.size w _ from HLB.out ▸ HF.out).size) (fun _ _ h => h))); clear HG HL HF; have HG := n0_; clear n0_; have HL := n1_; clear n1_; have HF := n2_; clear n2_; clear f'; have r0 := lb_cell HL.out 0 (by rw [HL8.out]; decide) H0.out; have r1 := lb_cell HL.out 1 (by rw [HL8.out]; decide) H1.out; have y0 := HG.out.cell 0; have y1 := HG.out.free 0; (simp only [bytU, four, List.take, List.replicate, List.map_cons, List.map_nil, List.cons_append, List.nil_append, List.append_nil, List.getElem?_cons_succ, List.getElem?_cons_zero] at y0)))
      go_wp2_with (fail)
      have HG2 := hid (show Blk (w'.setCell ⟨gb, 0, none⟩ (.int .u64 g0)) gb (bytU (four g0 g1 g2 g3 1)) TA4 from HG.out.setCell 0 _)
      have HL2 := hid (HL.out.setOther ⟨gb, 0, none⟩ (.int .u64 g0) hne2)
      have HF2 := hid (HF.out.setCell (p := ⟨gb, 0, none⟩) hle1 (.int .u64 g0))
      clear HG HL HF q0 q1 r0 r1 y0 y1
      have HG := HG2; have HL := HL2; have HF := HF2; clear HG2 HL2 HF2
      have q2 := HG.out.cell 0
      simp only [bytU, four, List.take, List.replicate, List.map_cons, List.map_nil, List.cons_append, List.nil_append, List.append_nil, List.getElem?_cons_succ, List.getElem?_cons_zero] at q2
      have HG2 := hid (show Blk _ gb (bytU (four g0 g1 g2 g3 1)) TA4 from (HG.out.frm (frm_drew _) (fun h => h))); have HL2 := hid (HL.out.frm (frm_drew _) (fun h => h)); have HF2 := hid (bdrew HF.out); clear HG HL HF; have HG := HG2; have HL := HL2; have HF := HF2; clear HG2 HL2 HF2
      go_region_held3 (fun wx => wx.cell? ⟨gb, 0, none⟩ = some (.int .u64 g0)) (first | go_keep | exact r2) ((go_at_call 10; (with_reducible refine (Group_0 (lb_ints HL.out HL8.out HWF.out) HL8.out g0 HGS0.out).mono ?_); rintro e w' ⟨rfl, f'⟩; have n0_ := hid (HG.out.frm f' (fun h => h)); have n1_ := hid (HL.out.frm f' (fun h => h)); have n2_ := hid (HF.out.trans (f'.below (HLB.out ▸ (show Below w.heap.size w _ from HLB.out ▸ HF.out).size) (fun _ _ h => h))); clear HG HL HF; have HG := n0_; clear n0_; have HL := n1_; clear n1_; have HF := n2_; clear n2_; clear f'; have r2 := HG.out.cell 0; (simp only [bytU, four, List.take, List.replicate, List.map_cons, List.map_nil, List.cons_append, List.nil_append, List.append_nil, List.getElem?_cons_succ, List.getElem?_cons_zero] at r2)))
      go_wp2_with (fail)
      go_roundw
      case rel => exact ⟨1, by omega, by go_num, HG.out, HL.out, HF.out⟩
      case measure => simp [intOf]
    · have q0 := lb_cell HL.out 2 (by rw [HL8.out]; decide) H2.out
      have q1 := lb_cell HL.out 3 (by rw [HL8.out]; decide) H3.out
      have e0 : IntKind.i64.wrap (2 * 1) = 2 := by decide
      have e1 : IntKind.i64.wrap 2 = 2 := by decide
      have e2 : IntKind.i64.wrap (2 + 1) = 3 := by decide
      have e3 : IntKind.i64.wrap 3 = 3 := by decide
      go_wp2_with (fail)
      have HG2 := hid (show Blk _ gb (bytU (four g0 g1 g2 g3 1)) TA4 from (HG.out.frm (frm_drew _) (fun h => h))); have HL2 := hid (HL.out.frm (frm_drew _) (fun h => h)); have HF2 := hid (bdrew HF.out); clear HG HL HF; have HG := HG2; have HL := HL2; have HF := HF2; clear HG2 HL2 HF2
      go_region_held3 (fun wx => wx.cell? ⟨lb, 2, none⟩ = some (.int .u64 v2) ∧ wx.cell? ⟨lb, 3, none⟩ = some (.int .u64 v3)) (first | go_keep | exact ⟨r0, r1⟩ | (refine ⟨?_, ?_⟩ <;> (rw [World.cell?_setCell_other _ _ _ _ (by simp; first | exact hne | exact hne2)]; assumption))) ((go_at_call 9; (with_reducible refine (RMix_calls v2 v3 _ B2.out.1 B2.out.2 B3.out.1 B3.out.2 g1 HG1.out).mono ?_); rintro e w' ⟨rfl, f'⟩; have n0_ := hid (HG.out.frm f' (fun h => h)); have n1_ := hid (HL.out.frm f' (fun h => h)); have n2_ := hid (HF.out.trans (f'.below (HLB.out ▸ (show Below w.heap.size w _ from HLB.out ▸ HF.out).size) (fun _ _ h => h))); clear HG HL HF; have HG := n0_; clear n0_; have HL := n1_; clear n1_; have HF := n2_; clear n2_; clear f'; have r0 := lb_cell HL.out 2 (by rw [HL8.out]; decide) H2.out; have r1 := lb_cell HL.out 3 (by rw [HL8.out]; decide) H3.out; have y0 := HG.out.cell 1; have y1 := HG.out.free 1; (simp only [bytU, four, List.take, List.replicate, List.map_cons, List.map_nil, List.cons_append, List.nil_append, List.append_nil, List.getElem?_cons_succ, List.getElem?_cons_zero] at y0)))
      go_wp2_with (fail)
      have HG2 := hid (show Blk (w'.setCell ⟨gb, 1, none⟩ (.int .u64 g1)) gb (bytU (four g0 g1 g2 g3 2)) TA4 from HG.out.setCell 1 _)
      have HL2 := hid (HL.out.setOther ⟨gb, 1, none⟩ (.int .u64 g1) hne2)
      have HF2 := hid (HF.out.setCell (p := ⟨gb, 1, none⟩) hle1 (.int .u64 g1))
      clear HG HL HF q0 q1 r0 r1 y0 y1
      have HG := HG2; have HL := HL2; have HF := HF2; clear HG2 HL2 HF2
      have q2 := HG.out.cell 1
      simp only [bytU, four, List.take, List.replicate, List.map_cons, List.map_nil, List.cons_append, List.nil_append, List.append_nil, List.getElem?_cons_succ, List.getElem?_cons_zero] at q2
      have HG2 := hid (show Blk _ gb (bytU (four g0 g1 g2 g3 2)) TA4 from (HG.out.frm (frm_drew _) (fun h => h))); have HL2 := hid (HL.out.frm (frm_drew _) (fun h => h)); have HF2 := hid (bdrew HF.out); clear HG HL HF; have HG := HG2; have HL := HL2; have HF := HF2; clear HG2 HL2 HF2
      go_region_held3 (fun wx => wx.cell? ⟨gb, 1, none⟩ = some (.int .u64 g1)) (first | go_keep | exact r2) ((go_at_call 10; (with_reducible refine (Group_1 (lb_ints HL.out HL8.out HWF.out) HL8.out g1 HGS1.out).mono ?_); rintro e w' ⟨rfl, f'⟩; have n0_ := hid (HG.out.frm f' (fun h => h)); have n1_ := hid (HL.out.frm f' (fun h => h)); have n2_ := hid (HF.out.trans (f'.below (HLB.out ▸ (show Below w.heap.size w _ from HLB.out ▸ HF.out).size) (fun _ _ h => h))); clear HG HL HF; have HG := n0_; clear n0_; have HL := n1_; clear n1_; have HF := n2_; clear n2_; clear f'; have r2 := HG.out.cell 1; (simp only [bytU, four, List.take, List.replicate, List.map_cons, List.map_nil, List.cons_append, List.nil_append, List.append_nil, List.getElem?_cons_succ, List.getElem?_cons_zero] at r2)))
      go_wp2_with (fail)
      go_roundw
      case rel => exact ⟨2, by omega, by go_num, HG.out, HL.out, HF.out⟩
      case measure => simp [intOf]
    · have q0 := lb_cell HL.out 4 (by rw [HL8.out]; decide) H4.out
      have q1 := lb_cell HL.out 5 (by rw [HL8.out]; decide) H5.out
      have e0 : IntKind.i64.wrap (2 * 2) = 4 := by decide
      have e1 : IntKind.i64.wrap 4 = 4 := by decide
      have e2 : IntKind.i64.wrap (4 + 1) = 5 := by decide
      have e3 : IntKind.i64.wrap 5 = 5 := by decide
      go_wp2_with (fail)
      have HG2 := hid (show Blk _ gb (bytU (four g0 g1 g2 g3 2)) TA4 from (HG.out.frm (frm_drew _) (fun h => h))); have HL2 := hid (HL.out.frm (frm_drew _) (fun h => h)); have HF2 := hid (bdrew HF.out); clear HG HL HF; have HG := HG2; have HL := HL2; have HF := HF2; clear HG2 HL2 HF2
      go_region_held3 (fun wx => wx.cell? ⟨lb, 4, none⟩ = some (.int .u64 v4) ∧ wx.cell? ⟨lb, 5, none⟩ = some (.int .u64 v5)) (first | go_keep | exact ⟨r0, r1⟩ | (refine ⟨?_, ?_⟩ <;> (rw [World.cell?_setCell_other _ _ _ _ (by simp; first | exact hne | exact hne2)]; assumption))) ((go_at_call 9; (with_reducible refine (RMix_calls v4 v5 _ B4.out.1 B4.out.2 B5.out.1 B5.out.2 g2 HG2.out).mono ?_); rintro e w' ⟨rfl, f'⟩; have n0_ := hid (HG.out.frm f' (fun h => h)); have n1_ := hid (HL.out.frm f' (fun h => h)); have n2_ := hid (HF.out.trans (f'.below (HLB.out ▸ (show Below w.heap.size w _ from HLB.out ▸ HF.out).size) (fun _ _ h => h))); clear HG HL HF; have HG := n0_; clear n0_; have HL := n1_; clear n1_; have HF := n2_; clear n2_; clear f'; have r0 := lb_cell HL.out 4 (by rw [HL8.out]; decide) H4.out; have r1 := lb_cell HL.out 5 (by rw [HL8.out]; decide) H5.out; have y0 := HG.out.cell 2; have y1 := HG.out.free 2; (simp only [bytU, four, List.take, List.replicate, List.map_cons, List.map_nil, List.cons_append, List.nil_append, List.append_nil, List.getElem?_cons_succ, List.getElem?_cons_zero] at y0)))
      go_wp2_with (fail)
      have HG2 := hid (show Blk (w'.setCell ⟨gb, 2, none⟩ (.int .u64 g2)) gb (bytU (four g0 g1 g2 g3 3)) TA4 from HG.out.setCell 2 _)
      have HL2 := hid (HL.out.setOther ⟨gb, 2, none⟩ (.int .u64 g2) hne2)
      have HF2 := hid (HF.out.setCell (p := ⟨gb, 2, none⟩) hle1 (.int .u64 g2))
      clear HG HL HF q0 q1 r0 r1 y0 y1
      have HG := HG2; have HL := HL2; have HF := HF2; clear HG2 HL2 HF2
      have q2 := HG.out.cell 2
      simp only [bytU, four, List.take, List.replicate, List.map_cons, List.map_nil, List.cons_append, List.nil_append, List.append_nil, List.getElem?_cons_succ, List.getElem?_cons_zero] at q2
      have HG2 := hid (show Blk _ gb (bytU (four g0 g1 g2 g3 3)) TA4 from (HG.out.frm (frm_drew _) (fun h => h))); have HL2 := hid (HL.out.frm (frm_drew _) (fun h => h)); have HF2 := hid (bdrew HF.out); clear HG HL HF; have HG := HG2; have HL := HL2; have HF := HF2; clear HG2 HL2 HF2
      go_region_held3 (fun wx => wx.cell? ⟨gb, 2, none⟩ = some (.int .u64 g2)) (first | go_keep | exact r2) ((go_at_call 10; (with_reducible refine (Group_2 (lb_ints HL.out HL8.out HWF.out) HL8.out g2 HGS2.out).mono ?_); rintro e w' ⟨rfl, f'⟩; have n0_ := hid (HG.out.frm f' (fun h => h)); have n1_ := hid (HL.out.frm f' (fun h => h)); have n2_ := hid (HF.out.trans (f'.below (HLB.out ▸ (show Below w.heap.size w _ from HLB.out ▸ HF.out).size) (fun _ _ h => h))); clear HG HL HF; have HG := n0_; clear n0_; have HL := n1_; clear n1_; have HF := n2_; clear n2_; clear f'; have r2 := HG.out.cell 2; (simp only [bytU, four, List.take, List.replicate, List.map_cons, List.map_nil, List.cons_append, List.nil_append, List.append_nil, List.getElem?_cons_succ, List.getElem?_cons_zero] at r2)))
      go_wp2_with (fail)
      go_roundw
      case rel => exact ⟨3, by omega, by go_num, HG.out, HL.out, HF.out⟩
      case measure => simp [intOf]
    · have q0 := lb_cell HL.out 6 (by rw [HL8.out]; decide) H6.out
      have q1 := lb_cell HL.out 7 (by rw [HL8.out]; decide) H7.out
      have e0 : IntKind.i64.wrap (2 * 3) = 6 := by decide
      have e1 : IntKind.i64.wrap 6 = 6 := by decide
      have e2 : IntKind.i64.wrap (6 + 1) = 7 := by decide
      have e3 : IntKind.i64.wrap 7 = 7 := by decide
      go_wp2_with (fail)
      have HG2 := hid (show Blk _ gb (bytU (four g0 g1 g2 g3 3)) TA4 from (HG.out.frm (frm_drew _) (fun h => h))); have HL2 := hid (HL.out.frm (frm_drew _) (fun h => h)); have HF2 := hid (bdrew HF.out); clear HG HL HF; have HG := HG2; have HL := HL2; have HF := HF2; clear HG2 HL2 HF2
      go_region_held3 (fun wx => wx.cell? ⟨lb, 6, none⟩ = some (.int .u64 v6) ∧ wx.cell? ⟨lb, 7, none⟩ = some (.int .u64 v7)) (first | go_keep | exact ⟨r0, r1⟩ | (refine ⟨?_, ?_⟩ <;> (rw [World.cell?_setCell_other _ _ _ _ (by simp; first | exact hne | exact hne2)]; assumption))) ((go_at_call 9; (with_reducible refine (RMix_calls v6 v7 _ B6.out.1 B6.out.2 B7.out.1 B7.out.2 g3 HG3.out).mono ?_); rintro e w' ⟨rfl, f'⟩; have n0_ := hid (HG.out.frm f' (fun h => h)); have n1_ := hid (HL.out.frm f' (fun h => h)); have n2_ := hid (HF.out.trans (f'.below (HLB.out ▸ (show Below w.heap.size w _ from HLB.out ▸ HF.out).size) (fun _ _ h => h))); clear HG HL HF; have HG := n0_; clear n0_; have HL := n1_; clear n1_; have HF := n2_; clear n2_; clear f'; have r0 := lb_cell HL.out 6 (by rw [HL8.out]; decide) H6.out; have r1 := lb_cell HL.out 7 (by rw [HL8.out]; decide) H7.out; have y0 := HG.out.cell 3; have y1 := HG.out.free 3; (simp only [bytU, four, List.take, List.replicate, List.map_cons, List.map_nil, List.cons_append, List.nil_append, List.append_nil, List.getElem?_cons_succ, List.getElem?_cons_zero] at y0)))
      go_wp2_with (fail)
      have HG2 := hid (show Blk (w'.setCell ⟨gb, 3, none⟩ (.int .u64 g3)) gb (bytU (four g0 g1 g2 g3 4)) TA4 from HG.out.setCell 3 _)
      have HL2 := hid (HL.out.setOther ⟨gb, 3, none⟩ (.int .u64 g3) hne2)
      have HF2 := hid (HF.out.setCell (p := ⟨gb, 3, none⟩) hle1 (.int .u64 g3))
      clear HG HL HF q0 q1 r0 r1 y0 y1
      have HG := HG2; have HL := HL2; have HF := HF2; clear HG2 HL2 HF2
      have q2 := HG.out.cell 3
      simp only [bytU, four, List.take, List.replicate, List.map_cons, List.map_nil, List.cons_append, List.nil_append, List.append_nil, List.getElem?_cons_succ, List.getElem?_cons_zero] at q2
      have HG2 := hid (show Blk _ gb (bytU (four g0 g1 g2 g3 4)) TA4 from (HG.out.frm (frm_drew _) (fun h => h))); have HL2 := hid (HL.out.frm (frm_drew _) (fun h => h)); have HF2 := hid (bdrew HF.out); clear HG HL HF; have HG := HG2; have HL := HL2; have HF := HF2; clear HG2 HL2 HF2
      go_region_held3 (fun wx => wx.cell? ⟨gb, 3, none⟩ = some (.int .u64 g3)) (first | go_keep | exact r2) ((go_at_call 10; (with_reducible refine (Group_3 (lb_ints HL.out HL8.out HWF.out) HL8.out g3 HGS3.out).mono ?_); rintro e w' ⟨rfl, f'⟩; have n0_ := hid (HG.out.frm f' (fun h => h)); have n1_ := hid (HL.out.frm f' (fun h => h)); have n2_ := hid (HF.out.trans (f'.below (HLB.out ▸ (show Below w.heap.size w _ from HLB.out ▸ HF.out).size) (fun _ _ h => h))); clear HG HL HF; have HG := n0_; clear n0_; have HL := n1_; clear n1_; have HF := n2_; clear n2_; clear f'; have r2 := HG.out.cell 3; (simp only [bytU, four, List.take, List.replicate, List.map_cons, List.map_nil, List.cons_append, List.nil_append, List.append_nil, List.getElem?_cons_succ, List.getElem?_cons_zero] at r2)))
      go_wp2_with (fail)
      go_roundw
      case rel => exact ⟨4, by omega, by go_num, HG.out, HL.out, HF.out⟩
      case measure => simp [intOf]
    · have q0 := HG.out.cell 0; have q1 := HG.out.cell 1; have q2 := HG.out.cell 2; have q3 := HG.out.cell 3
      simp only [bytU, four, List.take, List.replicate, List.map_cons, List.map_nil, List.cons_append, List.nil_append, List.append_nil, List.getElem?_cons_succ, List.getElem?_cons_zero] at q0 q1 q2 q3
      go_wp2_with (fail)
      have HG2 := hid (show Blk _ gb (bytU (four g0 g1 g2 g3 4)) TA4 from (HG.out.frm (frm_drew _) (fun h => h))); have HL2 := hid (HL.out.frm (frm_drew _) (fun h => h)); have HF2 := hid (bdrew HF.out); clear HG HL HF; have HG := HG2; have HL := HL2; have HF := HF2; clear HG2 HL2 HF2
      go_region_held3 (fun wx => wx.cell? ⟨gb, 0, none⟩ = some (.int .u64 g0) ∧ wx.cell? ⟨gb, 1, none⟩ = some (.int .u64 g1) ∧ wx.cell? ⟨gb, 2, none⟩ = some (.int .u64 g2) ∧ wx.cell? ⟨gb, 3, none⟩ = some (.int .u64 g3)) (first | go_keep | exact ⟨r0, r1, r2, r3⟩) (first
        | (go_at_call 11; (with_reducible refine (Root_8 (lb_ints HL.out HL8.out HWF.out) HL8.out R HR.out).mono ?_); rintro e w' ⟨rfl, f'⟩; have n0_ := hid (HG.out.frm f' (fun h => h)); have n1_ := hid (HL.out.frm f' (fun h => h)); have n2_ := hid (HF.out.trans (f'.below (HLB.out ▸ (show Below w.heap.size w _ from HLB.out ▸ HF.out).size) (fun _ _ h => h))); clear HG HL HF; have HG := n0_; clear n0_; have HL := n1_; clear n1_; have HF := n2_; clear n2_; clear f'; have r0 := HG.out.cell 0; have r1 := HG.out.cell 1; have r2 := HG.out.cell 2; have r3 := HG.out.cell 3; (simp only [bytU, four, List.take, List.replicate, List.map_cons, List.map_nil, List.cons_append, List.nil_append, List.append_nil, List.getElem?_cons_succ, List.getElem?_cons_zero] at r0 r1 r2 r3))
        | (go_at_call 9; (with_reducible refine (RMix_calls g0 g1 _ BG0.out.1 BG0.out.2 BG1.out.1 BG1.out.2 m0 HM0.out).mono ?_); rintro e w' ⟨rfl, f'⟩; have n0_ := hid (HG.out.frm f' (fun h => h)); have n1_ := hid (HL.out.frm f' (fun h => h)); have n2_ := hid (HF.out.trans (f'.below (HLB.out ▸ (show Below w.heap.size w _ from HLB.out ▸ HF.out).size) (fun _ _ h => h))); clear HG HL HF; have HG := n0_; clear n0_; have HL := n1_; clear n1_; have HF := n2_; clear n2_; clear f'; have r0 := HG.out.cell 0; have r1 := HG.out.cell 1; have r2 := HG.out.cell 2; have r3 := HG.out.cell 3; (simp only [bytU, four, List.take, List.replicate, List.map_cons, List.map_nil, List.cons_append, List.nil_append, List.append_nil, List.getElem?_cons_succ, List.getElem?_cons_zero] at r0 r1 r2 r3))
        | (go_at_call 9; (with_reducible refine (RMix_calls g2 g3 _ BG2.out.1 BG2.out.2 BG3.out.1 BG3.out.2 m1 HM1.out).mono ?_); rintro e w' ⟨rfl, f'⟩; have n0_ := hid (HG.out.frm f' (fun h => h)); have n1_ := hid (HL.out.frm f' (fun h => h)); have n2_ := hid (HF.out.trans (f'.below (HLB.out ▸ (show Below w.heap.size w _ from HLB.out ▸ HF.out).size) (fun _ _ h => h))); clear HG HL HF; have HG := n0_; clear n0_; have HL := n1_; clear n1_; have HF := n2_; clear n2_; clear f'; have r0 := HG.out.cell 0; have r1 := HG.out.cell 1; have r2 := HG.out.cell 2; have r3 := HG.out.cell 3; (simp only [bytU, four, List.take, List.replicate, List.map_cons, List.map_nil, List.cons_append, List.nil_append, List.append_nil, List.getElem?_cons_succ, List.getElem?_cons_zero] at r0 r1 r2 r3))
        | (go_at_call 9; (with_reducible refine (RMix_calls m0 m1 _ BM0.out.1 BM0.out.2 BM1.out.1 BM1.out.2 R HMR.out).mono ?_); rintro e w' ⟨rfl, f'⟩; have n0_ := hid (HG.out.frm f' (fun h => h)); have n1_ := hid (HL.out.frm f' (fun h => h)); have n2_ := hid (HF.out.trans (f'.below (HLB.out ▸ (show Below w.heap.size w _ from HLB.out ▸ HF.out).size) (fun _ _ h => h))); clear HG HL HF; have HG := n0_; clear n0_; have HL := n1_; clear n1_; have HF := n2_; clear n2_; clear f'; have r0 := HG.out.cell 0; have r1 := HG.out.cell 1; have r2 := HG.out.cell 2; have r3 := HG.out.cell 3; (simp only [bytU, four, List.take, List.replicate, List.map_cons, List.map_nil, List.cons_append, List.nil_append, List.append_nil, List.getElem?_cons_succ, List.getElem?_cons_zero] at r0 r1 r2 r3)))
      clear q0 q1 q2 q3 r0 r1 r2 r3
      obtain ⟨X, hX⟩ : ∃ X : Nat, a % 8 = (X : Int) := ⟨(a % 8).toNat, by omega⟩
      obtain ⟨Y, hY⟩ : ∃ Y : Nat, b % 8 = (Y : Int) := ⟨(b % 8).toNat, by omega⟩
      have hX8 : X < 8 := by omega
      have hY8 : Y < 8 := by omega
      have hXi : (X : Int) < 8 := by omega
      have hYi : (Y : Int) < 8 := by omega
      go_wp2_with (first
        | (at_builtin; obtain ⟨tb, cap, cs, wa, hrun, hblk, htk, hcl, hcm, hfr, hgn⟩ := app_ownU (lb_ints HL.out HL8.out HWF.out) (by rw [HL8.out]; decide) (by rw [HL8.out]; decide); rw [HL8.out] at hrun htk hcl; refine wpList_run rfl _ _ _ _ rfl rfl rfl hrun ?_; clear hrun; have HT := hid hblk; have HTK := hid htk; have HCL := hid hcl; have HCM := hid hcm; have HTB := hid (show ¬ lb = tb by have := HL.out.lt; omega); have HTF := hid (show lb ≤ tb by have := HL.out.lt; omega); have n0_ := hid (HG.out.frm hfr (fun h => h)); have n1_ := hid (HL.out.frm hfr (fun h => h)); have n2_ := hid (HF.out.trans (hfr.below (HLB.out ▸ (show Below w.heap.size w _ from HLB.out ▸ HF.out).size) (fun _ _ h => h))); clear HG HL HF; have HG := n0_; clear n0_; have HL := n1_; clear n1_; have HF := n2_; clear n2_; clear hblk htk hcl hcm hfr hgn))
      obtain ⟨vX, hvX⟩ : ∃ v, x0.getD X 0 = v := ⟨_, rfl⟩
      obtain ⟨vY, hvY⟩ : ∃ v, x0.getD Y 0 = v := ⟨_, rfl⟩
      have u0 : wa.cell? ⟨tb, X, none⟩ = some (.int .u64 vX) := (HT.out.cell X).trans (by rw [own_cellU (by rw [HL8.out]; exact HTK.out) (by rw [HL8.out]; exact hX8), hvX])
      have u1 : wa.cell? ⟨tb, Y, none⟩ = some (.int .u64 vY) := (HT.out.cell Y).trans (by rw [own_cellU (by rw [HL8.out]; exact HTK.out) (by rw [HL8.out]; exact hY8), hvY])
      have y0 : wa.frozen? ⟨tb, X, none⟩ = false := HT.out.free X
      have y1 : wa.frozen? ⟨tb, Y, none⟩ = false := HT.out.free Y
      have u2 : (wa.setCell ⟨tb, X, none⟩ (.int .u64 vY)).cell? ⟨tb, Y, none⟩ = some (.int .u64 vY) := by
        by_cases hXY : X = Y
        · rw [← hXY, (HT.out.setCell X (.int .u64 vY)).cell X, List.getElem?_set, if_pos rfl, if_pos]
          have h9 := HT.out.cell X
          rw [u0] at h9
          exact (List.getElem?_eq_some_iff.1 h9.symm).1
        · rw [(HT.out.setCell X (.int .u64 vY)).cell Y, List.getElem?_set, if_neg hXY, ← HT.out.cell Y, u1]
      have u3 : (wa.setCell ⟨tb, X, none⟩ (.int .u64 vY)).drew.cell? ⟨tb, Y, none⟩ = some (.int .u64 vY) := u2
      have y2 : (wa.setCell ⟨tb, X, none⟩ (.int .u64 vY)).frozen? ⟨tb, Y, none⟩ = false := (HT.out.setCell X (.int .u64 vY)).free Y
      have y3 : (wa.setCell ⟨tb, X, none⟩ (.int .u64 vY)).drew.frozen? ⟨tb, Y, none⟩ = false := y2
      have hcap : (8 : Int) ≤ (cap : Int) := by have := HCL.out; omega
      have hsw := unl_swap x0 HL8.out X Y hX8 hY8
      rw [hvX, hvY] at hsw
      have HTL := hid (show ((x0.set X vY).set Y vX).length = 8 by rw [List.length_set, List.length_set]; exact HL8.out)
      have HT2 := hid (show IsInts .u64 ((wa.setCell ⟨tb, X, none⟩ (.int .u64 vY)).setCell ⟨tb, Y, none⟩ (.int .u64 vX)).drew (some ⟨tb, 0, none⟩) cap ((x0.set X vY).set Y vX) from
        IsInts.of_takeU (((HT.out.setCell X (.int .u64 vY)).setCell Y (.int .u64 vX)).frm (frm_drew _) (fun h => h)) (by rw [HTL.out, List.take_set, List.take_set, HTK.out]; simp only [bytU, List.map_set]) (by rw [HTL.out]; exact HCL.out) HCM.out (fun n hn => by
          rcases List.mem_or_eq_of_mem_set hn with hn | rfl
          · rcases List.mem_or_eq_of_mem_set hn with hn | rfl
            · exact HWF.out n hn
            · exact hvY ▸ wf64 (u64_bd HWF.out Y)
          · exact hvX ▸ wf64 (u64_bd HWF.out X)))
      have HL2 := hid (((HL.out.setOther ⟨tb, X, none⟩ (.int .u64 vY) (Ne.symm HTB.out)).setOther ⟨tb, Y, none⟩ (.int .u64 vX) (Ne.symm HTB.out)).frm (frm_drew _) (fun h => h))
      have HF2 := hid (bdrew ((HF.out.setCell (p := ⟨tb, X, none⟩) HTF.out (.int .u64 vY)).setCell (p := ⟨tb, Y, none⟩) HTF.out (.int .u64 vX)))
      have HVX := hid hvX; have HVY := hid hvY; have HX8 := hid hX8; have HY8 := hid hY8
      clear HL HF HG hvX hvY hX8 hY8
      have HL := HL2; have HF := HF2; clear HL2 HF2
      by_cases hxy : vX = vY
      · have HU := hid (show (unl x0 ((x0.set X vY).set Y vX) 8).length = 0 by rw [hsw, if_pos hxy])
        have qe : (vX == vY) = true := beq_iff_eq.2 hxy
        have HXY := hid hxy; clear hxy hsw
        go_region_law
        · go_wp2_with ((go_at_call 12; (with_reducible refine (Unlike_calls 8 8 (lb_ints HL.out HL8.out HWF.out) HT2.out HL8.out HTL.out).mono ?_); rintro e w' ⟨au, cu, rfl, hu, f'⟩; (rw [HU.out]); have HL3 := hid (HL.out.frm f' (fun h => h)); have HF3 := hid (HF.out.trans (f'.below (HLB.out ▸ (show Below w.heap.size w _ from HLB.out ▸ HF.out).size) (fun _ _ h => h))); clear HL HF f' hu; have HL := HL3; have HF := HF3; clear HL3 HF3))
          have l0 := lb_cell HL.out X (by rw [HL8.out]; exact HX8.out) HVX.out
          have l1 := lb_cell HL.out Y (by rw [HL8.out]; exact HY8.out) HVY.out
          have HF2 := hid (bdrew HF.out); clear HF; have HF := HF2; clear HF2
          refine wp_region_held_drew (S := fun wx => wx.cell? ⟨lb, X, none⟩ = some (.int .u64 vX) ∧ wx.cell? ⟨lb, Y, none⟩ = some (.int .u64 vY)) (by kernel_rfl) (by exact ⟨l0, l1⟩) (fun hHeld => ?_)
          refine wpAnyH_take (i := 0) (oi := ⟨some 81, _, _, _, _, _⟩) (v := ?v1) rfl (by kernel_rfl) (by kernel_rfl) (by kernel_rfl) (fun _ _ _ h => h) (Or.inl ⟨by rfl, ?y1⟩) (by assumption) ?r1
          case y1 => (intro wx hSx; (try dsimp only at hSx); go_simp; (try with_reducible rfl))
          try simp only [Act.put, List.setIfInBounds_toArray, List.set_cons_zero, List.set_cons_succ]
          refine wpAnyH_take (i := 1) (oi := ⟨some 82, _, _, _, _, _⟩) (v := ?v2) rfl (by kernel_rfl) (by kernel_rfl) (by kernel_rfl) (fun _ _ _ h => h) (Or.inl ⟨by rfl, ?y2⟩) (by assumption) ?r2
          case y2 => (intro wx hSx; (try dsimp only at hSx); go_simp; (try with_reducible rfl))
          try simp only [Act.put, List.setIfInBounds_toArray, List.set_cons_zero, List.set_cons_succ]
          refine wpAnyH_take (i := 2) (oi := ⟨some 83, _, _, _, _, _⟩) (v := ?v3) rfl (by kernel_rfl) (by kernel_rfl) (by kernel_rfl) (fun _ _ _ h => h) (Or.inl ⟨by rfl, ?y3⟩) (by assumption) ?r3
          case y3 => (intro wx hSx; (try dsimp only at hSx); go_simp; (try with_reducible rfl))
          try simp only [Act.put, List.setIfInBounds_toArray, List.set_cons_zero, List.set_cons_succ]
          refine wpAnyH_take (i := 3) (oi := ⟨some 84, _, _, _, _, _⟩) (v := ?v4) rfl (by kernel_rfl) (by kernel_rfl) (by kernel_rfl) (fun _ _ _ h => h) (Or.inl ⟨by rfl, ?y4⟩) (by assumption) ?r4
          case y4 => (intro wx hSx; (try dsimp only at hSx); go_simp; (try with_reducible rfl))
          try simp only [Act.put, List.setIfInBounds_toArray, List.set_cons_zero, List.set_cons_succ]
          refine wpAnyH_take (i := 4) (oi := ⟨some 85, _, _, _, _, _⟩) (v := ?v5) rfl (by kernel_rfl) (by kernel_rfl) (by kernel_rfl) (fun _ _ _ h => h) (Or.inl ⟨by rfl, ?y5⟩) (by assumption) ?r5
          case y5 => (intro wx hSx; (try dsimp only at hSx); go_simp; (try with_reducible rfl))
          try simp only [Act.put, List.setIfInBounds_toArray, List.set_cons_zero, List.set_cons_succ]
          refine wpAnyH_take (i := 5) (oi := ⟨some 86, _, _, _, _, _⟩) (v := ?v6) rfl (by kernel_rfl) (by kernel_rfl) (by kernel_rfl) (fun _ _ _ h => h) (Or.inl ⟨by rfl, ?y6⟩) (by assumption) ?r6
          case y6 => (intro wx hSx; (try dsimp only at hSx); go_simp; (try with_reducible rfl))
          try simp only [Act.put, List.setIfInBounds_toArray, List.set_cons_zero, List.set_cons_succ]
          refine wpAnyH_take (i := 6) (oi := ⟨some 87, _, _, _, _, _⟩) (v := ?v7) rfl (by kernel_rfl) (by kernel_rfl) (by kernel_rfl) (fun _ _ _ h => h) (Or.inl ⟨by rfl, ?y7⟩) (by assumption) ?r7
          case y7 => (intro wx hSx; (try dsimp only at hSx); go_simp; (try with_reducible rfl))
          try simp only [Act.put, List.setIfInBounds_toArray, List.set_cons_zero, List.set_cons_succ]
          refine wpAnyH_take (i := 7) (oi := ⟨some 88, _, _, _, _, _⟩) (v := ?v8) rfl (by kernel_rfl) (by kernel_rfl) (by kernel_rfl) (fun _ _ _ h => h) (Or.inl ⟨by rfl, ?y8⟩) (by assumption) ?r8
          case y8 => (intro wx hSx; (try dsimp only at hSx); go_simp; (try with_reducible rfl))
          try simp only [Act.put, List.setIfInBounds_toArray, List.set_cons_zero, List.set_cons_succ]
          refine wpAnyH_take (i := 8) (oi := ⟨some 89, _, _, _, _, _⟩) (v := ?v9) rfl (by kernel_rfl) (by kernel_rfl) (by kernel_rfl) (fun _ _ _ h => h) (Or.inl ⟨by rfl, ?y9⟩) (by assumption) ?r9
          case y9 => (intro wx hSx; (try dsimp only at hSx); go_simp; (try with_reducible rfl))
          try simp only [Act.put, List.setIfInBounds_toArray, List.set_cons_zero, List.set_cons_succ]
          refine wpAnyH_take (i := 9) (oi := ⟨some 90, _, _, _, _, _⟩) (v := ?v10) rfl (by kernel_rfl) (by kernel_rfl) (by kernel_rfl) (fun _ _ _ h => h) (Or.inl ⟨by rfl, ?y10⟩) (by assumption) ?r10
          case y10 => (intro wx hSx; (try dsimp only at hSx); go_simp; (try with_reducible rfl))
          try simp only [Act.put, List.setIfInBounds_toArray, List.set_cons_zero, List.set_cons_succ]
          refine wpAnyH_take (i := 10) (oi := ⟨some 91, _, _, _, _, _⟩) (v := ?v11) rfl (by kernel_rfl) (by kernel_rfl) (by kernel_rfl) (fun _ _ _ h => h) (Or.inl ⟨by rfl, ?y11⟩) (by assumption) ?r11
          case y11 => (intro wx hSx; (try dsimp only at hSx); go_simp; (try with_reducible rfl))
          try simp only [Act.put, List.setIfInBounds_toArray, List.set_cons_zero, List.set_cons_succ]
          refine wpAnyH_take (i := 11) (oi := ⟨some 92, _, _, _, _, _⟩) (v := ?v12) rfl (by kernel_rfl) (by kernel_rfl) (by kernel_rfl) (fun _ _ _ h => h) (Or.inl ⟨by rfl, ?y12⟩) (by assumption) ?r12
          case y12 => (intro wx hSx; (try dsimp only at hSx); go_simp; (try with_reducible rfl))
          try simp only [Act.put, List.setIfInBounds_toArray, List.set_cons_zero, List.set_cons_succ]
          refine wpAnyH_take (i := 12) (oi := ⟨some 93, _, _, _, _, _⟩) (v := undef) rfl (by kernel_rfl) (by kernel_rfl) (by kernel_rfl) (fun _ _ _ h => h) (Or.inr ⟨by rfl, rfl⟩) (by assumption) ?_
          try simp only [Act.put, List.setIfInBounds_toArray, List.set_cons_zero, List.set_cons_succ]
          refine wpAnyH_take (i := 13) (oi := ⟨some 94, _, _, _, _, _⟩) (v := undef) rfl (by kernel_rfl) (by kernel_rfl) (by kernel_rfl) (fun _ _ _ h => h) (Or.inr ⟨by rfl, rfl⟩) (by assumption) ?_
          try simp only [Act.put, List.setIfInBounds_toArray, List.set_cons_zero, List.set_cons_succ]
          refine wpAnyH_take (i := 14) (oi := ⟨some 95, _, _, _, _, _⟩) (v := undef) rfl (by kernel_rfl) (by kernel_rfl) (by kernel_rfl) (fun _ _ _ h => h) (Or.inr ⟨by rfl, rfl⟩) (by assumption) ?_
          try simp only [Act.put, List.setIfInBounds_toArray, List.set_cons_zero, List.set_cons_succ]
          refine wpAnyH_take (i := 15) (oi := ⟨some 96, _, _, _, _, _⟩) (v := undef) rfl (by kernel_rfl) (by kernel_rfl) (by kernel_rfl) (fun _ _ _ h => h) (Or.inr ⟨by rfl, rfl⟩) (by assumption) ?_
          try simp only [Act.put, List.setIfInBounds_toArray, List.set_cons_zero, List.set_cons_succ]
          refine wpAnyH_take (i := 16) (oi := ⟨some 97, _, _, _, _, _⟩) (v := undef) rfl (by kernel_rfl) (by kernel_rfl) (by kernel_rfl) (fun _ _ _ h => h) (Or.inr ⟨by rfl, rfl⟩) (by assumption) ?_
          try simp only [Act.put, List.setIfInBounds_toArray, List.set_cons_zero, List.set_cons_succ]
          refine wpAnyH_take (i := 17) (oi := ⟨some 98, _, _, _, _, _⟩) (v := undef) rfl (by kernel_rfl) (by kernel_rfl) (by kernel_rfl) (fun _ _ _ h => h) (Or.inr ⟨by rfl, rfl⟩) (by assumption) ?_
          try simp only [Act.put, List.setIfInBounds_toArray, List.set_cons_zero, List.set_cons_succ]
          refine wpAnyH_take (i := 18) (oi := ⟨some 99, _, _, _, _, _⟩) (v := undef) rfl (by kernel_rfl) (by kernel_rfl) (by kernel_rfl) (fun _ _ _ h => h) (Or.inr ⟨by rfl, rfl⟩) (by assumption) ?_
          try simp only [Act.put, List.setIfInBounds_toArray, List.set_cons_zero, List.set_cons_succ]
          refine wpAnyH_take (i := 19) (oi := ⟨some 100, _, _, _, _, _⟩) (v := undef) rfl (by kernel_rfl) (by kernel_rfl) (by kernel_rfl) (fun _ _ _ h => h) (Or.inr ⟨by rfl, rfl⟩) (by assumption) ?_
          try simp only [Act.put, List.setIfInBounds_toArray, List.set_cons_zero, List.set_cons_succ]
          refine wpAnyH_take (i := 20) (oi := ⟨some 101, _, _, _, _, _⟩) (v := undef) rfl (by kernel_rfl) (by kernel_rfl) (by kernel_rfl) (fun _ _ _ h => h) (Or.inr ⟨by rfl, rfl⟩) (by assumption) ?_
          try simp only [Act.put, List.setIfInBounds_toArray, List.set_cons_zero, List.set_cons_succ]
          refine wpAnyH_take (i := 21) (oi := ⟨some 102, _, _, _, _, _⟩) (v := undef) rfl (by kernel_rfl) (by kernel_rfl) (by kernel_rfl) (fun _ _ _ h => h) (Or.inr ⟨by rfl, rfl⟩) (by assumption) ?_
          try simp only [Act.put, List.setIfInBounds_toArray, List.set_cons_zero, List.set_cons_succ]
          refine wpAnyH_take (i := 22) (oi := ⟨some 103, _, _, _, _, _⟩) (v := undef) rfl (by kernel_rfl) (by kernel_rfl) (by kernel_rfl) (fun _ _ _ h => h) (Or.inr ⟨by rfl, rfl⟩) (by assumption) ?_
          try simp only [Act.put, List.setIfInBounds_toArray, List.set_cons_zero, List.set_cons_succ]
          refine wpAnyH_take (i := 23) (oi := ⟨some 104, _, _, _, _, _⟩) (v := ?v13) rfl (by kernel_rfl) (by kernel_rfl) (by kernel_rfl) (fun _ _ _ h => h) (Or.inl ⟨by rfl, ?y13⟩) (by assumption) ?r13
          case y13 => (intro wx hSx; (try dsimp only at hSx); go_simp; (try with_reducible rfl))
          try simp only [Act.put, List.setIfInBounds_toArray, List.set_cons_zero, List.set_cons_succ]
          refine wpAnyH_take (i := 24) (oi := ⟨some 6, _, _, _, _, _⟩) (v := ?v14) rfl (by kernel_rfl) (by kernel_rfl) (by kernel_rfl) (fun _ _ _ h => h) (Or.inl ⟨by rfl, ?y14⟩) (by assumption) ?r14
          case y14 => (intro wx hSx; (try dsimp only at hSx); go_simp; (try with_reducible rfl))
          try simp only [Act.put, List.setIfInBounds_toArray, List.set_cons_zero, List.set_cons_succ]
          refine wpAnyH_done (by kernel_rfl) ?_ _
          go_wp2
          go_ret
          exact ⟨rfl, HLB.out ▸ HF.out⟩
        · go_wp2_with ((go_at_call 12; (with_reducible refine (Unlike_calls 8 8 (lb_ints HL.out HL8.out HWF.out) HT2.out HL8.out HTL.out).mono ?_); rintro e w' ⟨au, cu, rfl, hu, f'⟩; (rw [HU.out]); have HL3 := hid (HL.out.frm f' (fun h => h)); have HF3 := hid (HF.out.trans (f'.below (HLB.out ▸ (show Below w.heap.size w _ from HLB.out ▸ HF.out).size) (fun _ _ h => h))); clear HL HF f' hu; have HL := HL3; have HF := HF3; clear HL3 HF3))
          have l0 := lb_cell HL.out X (by rw [HL8.out]; exact HX8.out) HVX.out
          have l1 := lb_cell HL.out Y (by rw [HL8.out]; exact HY8.out) HVY.out
          have HF2 := hid (bdrew HF.out); clear HF; have HF := HF2; clear HF2
          refine wp_region_held_drew (S := fun wx => wx.cell? ⟨lb, X, none⟩ = some (.int .u64 vX) ∧ wx.cell? ⟨lb, Y, none⟩ = some (.int .u64 vY)) (by kernel_rfl) (by exact ⟨l0, l1⟩) (fun hHeld => ?_)
          refine wpAnyH_take (i := 0) (oi := ⟨some 81, _, _, _, _, _⟩) (v := ?v15) rfl (by kernel_rfl) (by kernel_rfl) (by kernel_rfl) (fun _ _ _ h => h) (Or.inl ⟨by rfl, ?y15⟩) (by assumption) ?r15
          case y15 => (intro wx hSx; (try dsimp only at hSx); go_simp; (try with_reducible rfl))
          try simp only [Act.put, List.setIfInBounds_toArray, List.set_cons_zero, List.set_cons_succ]
          refine wpAnyH_take (i := 1) (oi := ⟨some 82, _, _, _, _, _⟩) (v := ?v16) rfl (by kernel_rfl) (by kernel_rfl) (by kernel_rfl) (fun _ _ _ h => h) (Or.inl ⟨by rfl, ?y16⟩) (by assumption) ?r16
          case y16 => (intro wx hSx; (try dsimp only at hSx); go_simp; (try with_reducible rfl))
          try simp only [Act.put, List.setIfInBounds_toArray, List.set_cons_zero, List.set_cons_succ]
          refine wpAnyH_take (i := 2) (oi := ⟨some 83, _, _, _, _, _⟩) (v := ?v17) rfl (by kernel_rfl) (by kernel_rfl) (by kernel_rfl) (fun _ _ _ h => h) (Or.inl ⟨by rfl, ?y17⟩) (by assumption) ?r17
          case y17 => (intro wx hSx; (try dsimp only at hSx); go_simp; (try with_reducible rfl))
          try simp only [Act.put, List.setIfInBounds_toArray, List.set_cons_zero, List.set_cons_succ]
          refine wpAnyH_take (i := 3) (oi := ⟨some 84, _, _, _, _, _⟩) (v := ?v18) rfl (by kernel_rfl) (by kernel_rfl) (by kernel_rfl) (fun _ _ _ h => h) (Or.inl ⟨by rfl, ?y18⟩) (by assumption) ?r18
          case y18 => (intro wx hSx; (try dsimp only at hSx); go_simp; (try with_reducible rfl))
          try simp only [Act.put, List.setIfInBounds_toArray, List.set_cons_zero, List.set_cons_succ]
          refine wpAnyH_take (i := 4) (oi := ⟨some 85, _, _, _, _, _⟩) (v := ?v19) rfl (by kernel_rfl) (by kernel_rfl) (by kernel_rfl) (fun _ _ _ h => h) (Or.inl ⟨by rfl, ?y19⟩) (by assumption) ?r19
          case y19 => (intro wx hSx; (try dsimp only at hSx); go_simp; (try with_reducible rfl))
          try simp only [Act.put, List.setIfInBounds_toArray, List.set_cons_zero, List.set_cons_succ]
          refine wpAnyH_take (i := 5) (oi := ⟨some 86, _, _, _, _, _⟩) (v := ?v20) rfl (by kernel_rfl) (by kernel_rfl) (by kernel_rfl) (fun _ _ _ h => h) (Or.inl ⟨by rfl, ?y20⟩) (by assumption) ?r20
          case y20 => (intro wx hSx; (try dsimp only at hSx); go_simp; (try with_reducible rfl))
          try simp only [Act.put, List.setIfInBounds_toArray, List.set_cons_zero, List.set_cons_succ]
          refine wpAnyH_take (i := 6) (oi := ⟨some 87, _, _, _, _, _⟩) (v := ?v21) rfl (by kernel_rfl) (by kernel_rfl) (by kernel_rfl) (fun _ _ _ h => h) (Or.inl ⟨by rfl, ?y21⟩) (by assumption) ?r21
          case y21 => (intro wx hSx; (try dsimp only at hSx); go_simp; (try with_reducible rfl))
          try simp only [Act.put, List.setIfInBounds_toArray, List.set_cons_zero, List.set_cons_succ]
          refine wpAnyH_take (i := 7) (oi := ⟨some 88, _, _, _, _, _⟩) (v := ?v22) rfl (by kernel_rfl) (by kernel_rfl) (by kernel_rfl) (fun _ _ _ h => h) (Or.inl ⟨by rfl, ?y22⟩) (by assumption) ?r22
          case y22 => (intro wx hSx; (try dsimp only at hSx); go_simp; (try with_reducible rfl))
          try simp only [Act.put, List.setIfInBounds_toArray, List.set_cons_zero, List.set_cons_succ]
          refine wpAnyH_take (i := 8) (oi := ⟨some 89, _, _, _, _, _⟩) (v := ?v23) rfl (by kernel_rfl) (by kernel_rfl) (by kernel_rfl) (fun _ _ _ h => h) (Or.inl ⟨by rfl, ?y23⟩) (by assumption) ?r23
          case y23 => (intro wx hSx; (try dsimp only at hSx); go_simp; (try with_reducible rfl))
          try simp only [Act.put, List.setIfInBounds_toArray, List.set_cons_zero, List.set_cons_succ]
          refine wpAnyH_take (i := 9) (oi := ⟨some 90, _, _, _, _, _⟩) (v := ?v24) rfl (by kernel_rfl) (by kernel_rfl) (by kernel_rfl) (fun _ _ _ h => h) (Or.inl ⟨by rfl, ?y24⟩) (by assumption) ?r24
          case y24 => (intro wx hSx; (try dsimp only at hSx); go_simp; (try with_reducible rfl))
          try simp only [Act.put, List.setIfInBounds_toArray, List.set_cons_zero, List.set_cons_succ]
          refine wpAnyH_take (i := 10) (oi := ⟨some 91, _, _, _, _, _⟩) (v := ?v25) rfl (by kernel_rfl) (by kernel_rfl) (by kernel_rfl) (fun _ _ _ h => h) (Or.inl ⟨by rfl, ?y25⟩) (by assumption) ?r25
          case y25 => (intro wx hSx; (try dsimp only at hSx); go_simp; (try with_reducible rfl))
          try simp only [Act.put, List.setIfInBounds_toArray, List.set_cons_zero, List.set_cons_succ]
          refine wpAnyH_take (i := 11) (oi := ⟨some 92, _, _, _, _, _⟩) (v := ?v26) rfl (by kernel_rfl) (by kernel_rfl) (by kernel_rfl) (fun _ _ _ h => h) (Or.inl ⟨by rfl, ?y26⟩) (by assumption) ?r26
          case y26 => (intro wx hSx; (try dsimp only at hSx); go_simp; (try with_reducible rfl))
          try simp only [Act.put, List.setIfInBounds_toArray, List.set_cons_zero, List.set_cons_succ]
          refine wpAnyH_take (i := 12) (oi := ⟨some 93, _, _, _, _, _⟩) (v := undef) rfl (by kernel_rfl) (by kernel_rfl) (by kernel_rfl) (fun _ _ _ h => h) (Or.inr ⟨by rfl, rfl⟩) (by assumption) ?_
          try simp only [Act.put, List.setIfInBounds_toArray, List.set_cons_zero, List.set_cons_succ]
          refine wpAnyH_take (i := 13) (oi := ⟨some 94, _, _, _, _, _⟩) (v := undef) rfl (by kernel_rfl) (by kernel_rfl) (by kernel_rfl) (fun _ _ _ h => h) (Or.inr ⟨by rfl, rfl⟩) (by assumption) ?_
          try simp only [Act.put, List.setIfInBounds_toArray, List.set_cons_zero, List.set_cons_succ]
          refine wpAnyH_take (i := 14) (oi := ⟨some 95, _, _, _, _, _⟩) (v := undef) rfl (by kernel_rfl) (by kernel_rfl) (by kernel_rfl) (fun _ _ _ h => h) (Or.inr ⟨by rfl, rfl⟩) (by assumption) ?_
          try simp only [Act.put, List.setIfInBounds_toArray, List.set_cons_zero, List.set_cons_succ]
          refine wpAnyH_take (i := 15) (oi := ⟨some 96, _, _, _, _, _⟩) (v := undef) rfl (by kernel_rfl) (by kernel_rfl) (by kernel_rfl) (fun _ _ _ h => h) (Or.inr ⟨by rfl, rfl⟩) (by assumption) ?_
          try simp only [Act.put, List.setIfInBounds_toArray, List.set_cons_zero, List.set_cons_succ]
          refine wpAnyH_take (i := 16) (oi := ⟨some 97, _, _, _, _, _⟩) (v := undef) rfl (by kernel_rfl) (by kernel_rfl) (by kernel_rfl) (fun _ _ _ h => h) (Or.inr ⟨by rfl, rfl⟩) (by assumption) ?_
          try simp only [Act.put, List.setIfInBounds_toArray, List.set_cons_zero, List.set_cons_succ]
          refine wpAnyH_take (i := 17) (oi := ⟨some 98, _, _, _, _, _⟩) (v := undef) rfl (by kernel_rfl) (by kernel_rfl) (by kernel_rfl) (fun _ _ _ h => h) (Or.inr ⟨by rfl, rfl⟩) (by assumption) ?_
          try simp only [Act.put, List.setIfInBounds_toArray, List.set_cons_zero, List.set_cons_succ]
          refine wpAnyH_take (i := 18) (oi := ⟨some 99, _, _, _, _, _⟩) (v := undef) rfl (by kernel_rfl) (by kernel_rfl) (by kernel_rfl) (fun _ _ _ h => h) (Or.inr ⟨by rfl, rfl⟩) (by assumption) ?_
          try simp only [Act.put, List.setIfInBounds_toArray, List.set_cons_zero, List.set_cons_succ]
          refine wpAnyH_take (i := 19) (oi := ⟨some 100, _, _, _, _, _⟩) (v := undef) rfl (by kernel_rfl) (by kernel_rfl) (by kernel_rfl) (fun _ _ _ h => h) (Or.inr ⟨by rfl, rfl⟩) (by assumption) ?_
          try simp only [Act.put, List.setIfInBounds_toArray, List.set_cons_zero, List.set_cons_succ]
          refine wpAnyH_take (i := 20) (oi := ⟨some 101, _, _, _, _, _⟩) (v := undef) rfl (by kernel_rfl) (by kernel_rfl) (by kernel_rfl) (fun _ _ _ h => h) (Or.inr ⟨by rfl, rfl⟩) (by assumption) ?_
          try simp only [Act.put, List.setIfInBounds_toArray, List.set_cons_zero, List.set_cons_succ]
          refine wpAnyH_take (i := 21) (oi := ⟨some 102, _, _, _, _, _⟩) (v := undef) rfl (by kernel_rfl) (by kernel_rfl) (by kernel_rfl) (fun _ _ _ h => h) (Or.inr ⟨by rfl, rfl⟩) (by assumption) ?_
          try simp only [Act.put, List.setIfInBounds_toArray, List.set_cons_zero, List.set_cons_succ]
          refine wpAnyH_take (i := 22) (oi := ⟨some 103, _, _, _, _, _⟩) (v := undef) rfl (by kernel_rfl) (by kernel_rfl) (by kernel_rfl) (fun _ _ _ h => h) (Or.inr ⟨by rfl, rfl⟩) (by assumption) ?_
          try simp only [Act.put, List.setIfInBounds_toArray, List.set_cons_zero, List.set_cons_succ]
          refine wpAnyH_take (i := 23) (oi := ⟨some 104, _, _, _, _, _⟩) (v := ?v27) rfl (by kernel_rfl) (by kernel_rfl) (by kernel_rfl) (fun _ _ _ h => h) (Or.inl ⟨by rfl, ?y27⟩) (by assumption) ?r27
          case y27 => (intro wx hSx; (try dsimp only at hSx); go_simp; (try with_reducible rfl))
          try simp only [Act.put, List.setIfInBounds_toArray, List.set_cons_zero, List.set_cons_succ]
          refine wpAnyH_take (i := 24) (oi := ⟨some 6, _, _, _, _, _⟩) (v := ?v28) rfl (by kernel_rfl) (by kernel_rfl) (by kernel_rfl) (fun _ _ _ h => h) (Or.inl ⟨by rfl, ?y28⟩) (by assumption) ?r28
          case y28 => (intro wx hSx; (try dsimp only at hSx); go_simp; (try with_reducible rfl))
          try simp only [Act.put, List.setIfInBounds_toArray, List.set_cons_zero, List.set_cons_succ]
          refine wpAnyH_done (by kernel_rfl) ?_ _
          go_wp2
          go_ret
          exact ⟨rfl, HLB.out ▸ HF.out⟩
        · go_wp2_with ((go_at_call 12; (with_reducible refine (Unlike_calls 8 8 (lb_ints HL.out HL8.out HWF.out) HT2.out HL8.out HTL.out).mono ?_); rintro e w' ⟨au, cu, rfl, hu, f'⟩; (rw [HU.out]); have HL3 := hid (HL.out.frm f' (fun h => h)); have HF3 := hid (HF.out.trans (f'.below (HLB.out ▸ (show Below w.heap.size w _ from HLB.out ▸ HF.out).size) (fun _ _ h => h))); clear HL HF f' hu; have HL := HL3; have HF := HF3; clear HL3 HF3))
          have l0 := lb_cell HL.out X (by rw [HL8.out]; exact HX8.out) HVX.out
          have l1 := lb_cell HL.out Y (by rw [HL8.out]; exact HY8.out) HVY.out
          have HF2 := hid (bdrew HF.out); clear HF; have HF := HF2; clear HF2
          refine wp_region_held_drew (S := fun wx => wx.cell? ⟨lb, X, none⟩ = some (.int .u64 vX) ∧ wx.cell? ⟨lb, Y, none⟩ = some (.int .u64 vY)) (by kernel_rfl) (by exact ⟨l0, l1⟩) (fun hHeld => ?_)
          refine wpAnyH_take (i := 0) (oi := ⟨some 81, _, _, _, _, _⟩) (v := ?v65) rfl (by kernel_rfl) (by kernel_rfl) (by kernel_rfl) (fun _ _ _ h => h) (Or.inl ⟨by rfl, ?y65⟩) (by assumption) ?r65
          case y65 => (intro wx hSx; (try dsimp only at hSx); go_simp; (try with_reducible rfl))
          try simp only [Act.put, List.setIfInBounds_toArray, List.set_cons_zero, List.set_cons_succ]
          refine wpAnyH_take (i := 1) (oi := ⟨some 82, _, _, _, _, _⟩) (v := ?v66) rfl (by kernel_rfl) (by kernel_rfl) (by kernel_rfl) (fun _ _ _ h => h) (Or.inl ⟨by rfl, ?y66⟩) (by assumption) ?r66
          case y66 => (intro wx hSx; (try dsimp only at hSx); go_simp; (try with_reducible rfl))
          try simp only [Act.put, List.setIfInBounds_toArray, List.set_cons_zero, List.set_cons_succ]
          refine wpAnyH_take (i := 2) (oi := ⟨some 83, _, _, _, _, _⟩) (v := ?v67) rfl (by kernel_rfl) (by kernel_rfl) (by kernel_rfl) (fun _ _ _ h => h) (Or.inl ⟨by rfl, ?y67⟩) (by assumption) ?r67
          case y67 => (intro wx hSx; (try dsimp only at hSx); go_simp; (try with_reducible rfl))
          try simp only [Act.put, List.setIfInBounds_toArray, List.set_cons_zero, List.set_cons_succ]
          refine wpAnyH_take (i := 3) (oi := ⟨some 84, _, _, _, _, _⟩) (v := ?v68) rfl (by kernel_rfl) (by kernel_rfl) (by kernel_rfl) (fun _ _ _ h => h) (Or.inl ⟨by rfl, ?y68⟩) (by assumption) ?r68
          case y68 => (intro wx hSx; (try dsimp only at hSx); go_simp; (try with_reducible rfl))
          try simp only [Act.put, List.setIfInBounds_toArray, List.set_cons_zero, List.set_cons_succ]
          refine wpAnyH_take (i := 4) (oi := ⟨some 85, _, _, _, _, _⟩) (v := ?v69) rfl (by kernel_rfl) (by kernel_rfl) (by kernel_rfl) (fun _ _ _ h => h) (Or.inl ⟨by rfl, ?y69⟩) (by assumption) ?r69
          case y69 => (intro wx hSx; (try dsimp only at hSx); go_simp; (try with_reducible rfl))
          try simp only [Act.put, List.setIfInBounds_toArray, List.set_cons_zero, List.set_cons_succ]
          refine wpAnyH_take (i := 5) (oi := ⟨some 86, _, _, _, _, _⟩) (v := ?v70) rfl (by kernel_rfl) (by kernel_rfl) (by kernel_rfl) (fun _ _ _ h => h) (Or.inl ⟨by rfl, ?y70⟩) (by assumption) ?r70
          case y70 => (intro wx hSx; (try dsimp only at hSx); go_simp; (try with_reducible rfl))
          try simp only [Act.put, List.setIfInBounds_toArray, List.set_cons_zero, List.set_cons_succ]
          refine wpAnyH_take (i := 6) (oi := ⟨some 87, _, _, _, _, _⟩) (v := ?v71) rfl (by kernel_rfl) (by kernel_rfl) (by kernel_rfl) (fun _ _ _ h => h) (Or.inl ⟨by rfl, ?y71⟩) (by assumption) ?r71
          case y71 => (intro wx hSx; (try dsimp only at hSx); go_simp; (try with_reducible rfl))
          try simp only [Act.put, List.setIfInBounds_toArray, List.set_cons_zero, List.set_cons_succ]
          refine wpAnyH_take (i := 7) (oi := ⟨some 88, _, _, _, _, _⟩) (v := ?v72) rfl (by kernel_rfl) (by kernel_rfl) (by kernel_rfl) (fun _ _ _ h => h) (Or.inl ⟨by rfl, ?y72⟩) (by assumption) ?r72
          case y72 => (intro wx hSx; (try dsimp only at hSx); go_simp; (try with_reducible rfl))
          try simp only [Act.put, List.setIfInBounds_toArray, List.set_cons_zero, List.set_cons_succ]
          refine wpAnyH_take (i := 8) (oi := ⟨some 89, _, _, _, _, _⟩) (v := ?v73) rfl (by kernel_rfl) (by kernel_rfl) (by kernel_rfl) (fun _ _ _ h => h) (Or.inl ⟨by rfl, ?y73⟩) (by assumption) ?r73
          case y73 => (intro wx hSx; (try dsimp only at hSx); go_simp; (try with_reducible rfl))
          try simp only [Act.put, List.setIfInBounds_toArray, List.set_cons_zero, List.set_cons_succ]
          refine wpAnyH_take (i := 9) (oi := ⟨some 90, _, _, _, _, _⟩) (v := ?v74) rfl (by kernel_rfl) (by kernel_rfl) (by kernel_rfl) (fun _ _ _ h => h) (Or.inl ⟨by rfl, ?y74⟩) (by assumption) ?r74
          case y74 => (intro wx hSx; (try dsimp only at hSx); go_simp; (try with_reducible rfl))
          try simp only [Act.put, List.setIfInBounds_toArray, List.set_cons_zero, List.set_cons_succ]
          refine wpAnyH_take (i := 10) (oi := ⟨some 91, _, _, _, _, _⟩) (v := ?v75) rfl (by kernel_rfl) (by kernel_rfl) (by kernel_rfl) (fun _ _ _ h => h) (Or.inl ⟨by rfl, ?y75⟩) (by assumption) ?r75
          case y75 => (intro wx hSx; (try dsimp only at hSx); go_simp; (try with_reducible rfl))
          try simp only [Act.put, List.setIfInBounds_toArray, List.set_cons_zero, List.set_cons_succ]
          refine wpAnyH_take (i := 11) (oi := ⟨some 92, _, _, _, _, _⟩) (v := ?v76) rfl (by kernel_rfl) (by kernel_rfl) (by kernel_rfl) (fun _ _ _ h => h) (Or.inl ⟨by rfl, ?y76⟩) (by assumption) ?r76
          case y76 => (intro wx hSx; (try dsimp only at hSx); go_simp; (try with_reducible rfl))
          try simp only [Act.put, List.setIfInBounds_toArray, List.set_cons_zero, List.set_cons_succ]
          refine wpAnyH_take (i := 12) (oi := ⟨some 93, _, _, _, _, _⟩) (v := undef) rfl (by kernel_rfl) (by kernel_rfl) (by kernel_rfl) (fun _ _ _ h => h) (Or.inr ⟨by rfl, rfl⟩) (by assumption) ?_
          try simp only [Act.put, List.setIfInBounds_toArray, List.set_cons_zero, List.set_cons_succ]
          refine wpAnyH_take (i := 13) (oi := ⟨some 94, _, _, _, _, _⟩) (v := undef) rfl (by kernel_rfl) (by kernel_rfl) (by kernel_rfl) (fun _ _ _ h => h) (Or.inr ⟨by rfl, rfl⟩) (by assumption) ?_
          try simp only [Act.put, List.setIfInBounds_toArray, List.set_cons_zero, List.set_cons_succ]
          refine wpAnyH_take (i := 14) (oi := ⟨some 95, _, _, _, _, _⟩) (v := undef) rfl (by kernel_rfl) (by kernel_rfl) (by kernel_rfl) (fun _ _ _ h => h) (Or.inr ⟨by rfl, rfl⟩) (by assumption) ?_
          try simp only [Act.put, List.setIfInBounds_toArray, List.set_cons_zero, List.set_cons_succ]
          refine wpAnyH_take (i := 15) (oi := ⟨some 96, _, _, _, _, _⟩) (v := undef) rfl (by kernel_rfl) (by kernel_rfl) (by kernel_rfl) (fun _ _ _ h => h) (Or.inr ⟨by rfl, rfl⟩) (by assumption) ?_
          try simp only [Act.put, List.setIfInBounds_toArray, List.set_cons_zero, List.set_cons_succ]
          refine wpAnyH_take (i := 16) (oi := ⟨some 97, _, _, _, _, _⟩) (v := undef) rfl (by kernel_rfl) (by kernel_rfl) (by kernel_rfl) (fun _ _ _ h => h) (Or.inr ⟨by rfl, rfl⟩) (by assumption) ?_
          try simp only [Act.put, List.setIfInBounds_toArray, List.set_cons_zero, List.set_cons_succ]
          refine wpAnyH_take (i := 17) (oi := ⟨some 98, _, _, _, _, _⟩) (v := undef) rfl (by kernel_rfl) (by kernel_rfl) (by kernel_rfl) (fun _ _ _ h => h) (Or.inr ⟨by rfl, rfl⟩) (by assumption) ?_
          try simp only [Act.put, List.setIfInBounds_toArray, List.set_cons_zero, List.set_cons_succ]
          refine wpAnyH_take (i := 18) (oi := ⟨some 99, _, _, _, _, _⟩) (v := undef) rfl (by kernel_rfl) (by kernel_rfl) (by kernel_rfl) (fun _ _ _ h => h) (Or.inr ⟨by rfl, rfl⟩) (by assumption) ?_
          try simp only [Act.put, List.setIfInBounds_toArray, List.set_cons_zero, List.set_cons_succ]
          refine wpAnyH_take (i := 19) (oi := ⟨some 100, _, _, _, _, _⟩) (v := undef) rfl (by kernel_rfl) (by kernel_rfl) (by kernel_rfl) (fun _ _ _ h => h) (Or.inr ⟨by rfl, rfl⟩) (by assumption) ?_
          try simp only [Act.put, List.setIfInBounds_toArray, List.set_cons_zero, List.set_cons_succ]
          refine wpAnyH_take (i := 20) (oi := ⟨some 101, _, _, _, _, _⟩) (v := undef) rfl (by kernel_rfl) (by kernel_rfl) (by kernel_rfl) (fun _ _ _ h => h) (Or.inr ⟨by rfl, rfl⟩) (by assumption) ?_
          try simp only [Act.put, List.setIfInBounds_toArray, List.set_cons_zero, List.set_cons_succ]
          refine wpAnyH_take (i := 21) (oi := ⟨some 102, _, _, _, _, _⟩) (v := undef) rfl (by kernel_rfl) (by kernel_rfl) (by kernel_rfl) (fun _ _ _ h => h) (Or.inr ⟨by rfl, rfl⟩) (by assumption) ?_
          try simp only [Act.put, List.setIfInBounds_toArray, List.set_cons_zero, List.set_cons_succ]
          refine wpAnyH_take (i := 22) (oi := ⟨some 103, _, _, _, _, _⟩) (v := undef) rfl (by kernel_rfl) (by kernel_rfl) (by kernel_rfl) (fun _ _ _ h => h) (Or.inr ⟨by rfl, rfl⟩) (by assumption) ?_
          try simp only [Act.put, List.setIfInBounds_toArray, List.set_cons_zero, List.set_cons_succ]
          refine wpAnyH_take (i := 23) (oi := ⟨some 104, _, _, _, _, _⟩) (v := ?v77) rfl (by kernel_rfl) (by kernel_rfl) (by kernel_rfl) (fun _ _ _ h => h) (Or.inl ⟨by rfl, ?y77⟩) (by assumption) ?r77
          case y77 => (intro wx hSx; (try dsimp only at hSx); go_simp; (try with_reducible rfl))
          try simp only [Act.put, List.setIfInBounds_toArray, List.set_cons_zero, List.set_cons_succ]
          refine wpAnyH_take (i := 24) (oi := ⟨some 6, _, _, _, _, _⟩) (v := ?v78) rfl (by kernel_rfl) (by kernel_rfl) (by kernel_rfl) (fun _ _ _ h => h) (Or.inl ⟨by rfl, ?y78⟩) (by assumption) ?r78
          case y78 => (intro wx hSx; (try dsimp only at hSx); go_simp; (try with_reducible rfl))
          try simp only [Act.put, List.setIfInBounds_toArray, List.set_cons_zero, List.set_cons_succ]
          refine wpAnyH_done (by kernel_rfl) ?_ _
          go_wp2
          go_ret
          exact ⟨rfl, HLB.out ▸ HF.out⟩
      · have HU := hid (show (unl x0 ((x0.set X vY).set Y vX) 8).length = 2 by rw [hsw, if_neg hxy])
        have qe : (vX == vY) = false := beq_eq_false_iff_ne.2 hxy
        have qn : (vX != vY) = true := bne_iff_ne.2 hxy
        have HXY := hid hxy; clear hxy hsw
        go_region_law
        · go_wp2_with ((go_at_call 12; (with_reducible refine (Unlike_calls 8 8 (lb_ints HL.out HL8.out HWF.out) HT2.out HL8.out HTL.out).mono ?_); rintro e w' ⟨au, cu, rfl, hu, f'⟩; (rw [HU.out]); have HL3 := hid (HL.out.frm f' (fun h => h)); have HF3 := hid (HF.out.trans (f'.below (HLB.out ▸ (show Below w.heap.size w _ from HLB.out ▸ HF.out).size) (fun _ _ h => h))); clear HL HF f' hu; have HL := HL3; have HF := HF3; clear HL3 HF3))
          have l0 := lb_cell HL.out X (by rw [HL8.out]; exact HX8.out) HVX.out
          have l1 := lb_cell HL.out Y (by rw [HL8.out]; exact HY8.out) HVY.out
          have HF2 := hid (bdrew HF.out); clear HF; have HF := HF2; clear HF2
          refine wp_region_held_drew (S := fun wx => wx.cell? ⟨lb, X, none⟩ = some (.int .u64 vX) ∧ wx.cell? ⟨lb, Y, none⟩ = some (.int .u64 vY)) (by kernel_rfl) (by exact ⟨l0, l1⟩) (fun hHeld => ?_)
          refine wpAnyH_take (i := 0) (oi := ⟨some 81, _, _, _, _, _⟩) (v := ?v29) rfl (by kernel_rfl) (by kernel_rfl) (by kernel_rfl) (fun _ _ _ h => h) (Or.inl ⟨by rfl, ?y29⟩) (by assumption) ?r29
          case y29 => (intro wx hSx; (try dsimp only at hSx); go_simp; (try with_reducible rfl))
          try simp only [Act.put, List.setIfInBounds_toArray, List.set_cons_zero, List.set_cons_succ]
          refine wpAnyH_take (i := 1) (oi := ⟨some 82, _, _, _, _, _⟩) (v := ?v30) rfl (by kernel_rfl) (by kernel_rfl) (by kernel_rfl) (fun _ _ _ h => h) (Or.inl ⟨by rfl, ?y30⟩) (by assumption) ?r30
          case y30 => (intro wx hSx; (try dsimp only at hSx); go_simp; (try with_reducible rfl))
          try simp only [Act.put, List.setIfInBounds_toArray, List.set_cons_zero, List.set_cons_succ]
          refine wpAnyH_take (i := 2) (oi := ⟨some 83, _, _, _, _, _⟩) (v := ?v31) rfl (by kernel_rfl) (by kernel_rfl) (by kernel_rfl) (fun _ _ _ h => h) (Or.inl ⟨by rfl, ?y31⟩) (by assumption) ?r31
          case y31 => (intro wx hSx; (try dsimp only at hSx); go_simp; (try with_reducible rfl))
          try simp only [Act.put, List.setIfInBounds_toArray, List.set_cons_zero, List.set_cons_succ]
          refine wpAnyH_take (i := 3) (oi := ⟨some 84, _, _, _, _, _⟩) (v := undef) rfl (by kernel_rfl) (by kernel_rfl) (by kernel_rfl) (fun _ _ _ h => h) (Or.inr ⟨by rfl, rfl⟩) (by assumption) ?_
          try simp only [Act.put, List.setIfInBounds_toArray, List.set_cons_zero, List.set_cons_succ]
          refine wpAnyH_take (i := 4) (oi := ⟨some 85, _, _, _, _, _⟩) (v := undef) rfl (by kernel_rfl) (by kernel_rfl) (by kernel_rfl) (fun _ _ _ h => h) (Or.inr ⟨by rfl, rfl⟩) (by assumption) ?_
          try simp only [Act.put, List.setIfInBounds_toArray, List.set_cons_zero, List.set_cons_succ]
          refine wpAnyH_take (i := 5) (oi := ⟨some 86, _, _, _, _, _⟩) (v := undef) rfl (by kernel_rfl) (by kernel_rfl) (by kernel_rfl) (fun _ _ _ h => h) (Or.inr ⟨by rfl, rfl⟩) (by assumption) ?_
          try simp only [Act.put, List.setIfInBounds_toArray, List.set_cons_zero, List.set_cons_succ]
          refine wpAnyH_take (i := 6) (oi := ⟨some 87, _, _, _, _, _⟩) (v := undef) rfl (by kernel_rfl) (by kernel_rfl) (by kernel_rfl) (fun _ _ _ h => h) (Or.inr ⟨by rfl, rfl⟩) (by assumption) ?_
          try simp only [Act.put, List.setIfInBounds_toArray, List.set_cons_zero, List.set_cons_succ]
          refine wpAnyH_take (i := 7) (oi := ⟨some 88, _, _, _, _, _⟩) (v := undef) rfl (by kernel_rfl) (by kernel_rfl) (by kernel_rfl) (fun _ _ _ h => h) (Or.inr ⟨by rfl, rfl⟩) (by assumption) ?_
          try simp only [Act.put, List.setIfInBounds_toArray, List.set_cons_zero, List.set_cons_succ]
          refine wpAnyH_take (i := 8) (oi := ⟨some 89, _, _, _, _, _⟩) (v := undef) rfl (by kernel_rfl) (by kernel_rfl) (by kernel_rfl) (fun _ _ _ h => h) (Or.inr ⟨by rfl, rfl⟩) (by assumption) ?_
          try simp only [Act.put, List.setIfInBounds_toArray, List.set_cons_zero, List.set_cons_succ]
          refine wpAnyH_take (i := 9) (oi := ⟨some 90, _, _, _, _, _⟩) (v := undef) rfl (by kernel_rfl) (by kernel_rfl) (by kernel_rfl) (fun _ _ _ h => h) (Or.inr ⟨by rfl, rfl⟩) (by assumption) ?_
          try simp only [Act.put, List.setIfInBounds_toArray, List.set_cons_zero, List.set_cons_succ]
          refine wpAnyH_take (i := 10) (oi := ⟨some 91, _, _, _, _, _⟩) (v := ?v32) rfl (by kernel_rfl) (by kernel_rfl) (by kernel_rfl) (fun _ _ _ h => h) (Or.inl ⟨by rfl, ?y32⟩) (by assumption) ?r32
          case y32 => (intro wx hSx; (try dsimp only at hSx); go_simp; (try with_reducible rfl))
          try simp only [Act.put, List.setIfInBounds_toArray, List.set_cons_zero, List.set_cons_succ]
          refine wpAnyH_take (i := 11) (oi := ⟨some 92, _, _, _, _, _⟩) (v := ?v33) rfl (by kernel_rfl) (by kernel_rfl) (by kernel_rfl) (fun _ _ _ h => h) (Or.inl ⟨by rfl, ?y33⟩) (by assumption) ?r33
          case y33 => (intro wx hSx; (try dsimp only at hSx); go_simp; (try with_reducible rfl))
          try simp only [Act.put, List.setIfInBounds_toArray, List.set_cons_zero, List.set_cons_succ]
          refine wpAnyH_take (i := 12) (oi := ⟨some 93, _, _, _, _, _⟩) (v := ?v34) rfl (by kernel_rfl) (by kernel_rfl) (by kernel_rfl) (fun _ _ _ h => h) (Or.inl ⟨by rfl, ?y34⟩) (by assumption) ?r34
          case y34 => (intro wx hSx; (try dsimp only at hSx); go_simp; (try with_reducible rfl))
          try simp only [Act.put, List.setIfInBounds_toArray, List.set_cons_zero, List.set_cons_succ]
          refine wpAnyH_take (i := 13) (oi := ⟨some 94, _, _, _, _, _⟩) (v := ?v35) rfl (by kernel_rfl) (by kernel_rfl) (by kernel_rfl) (fun _ _ _ h => h) (Or.inl ⟨by rfl, ?y35⟩) (by assumption) ?r35
          case y35 => (intro wx hSx; (try dsimp only at hSx); go_simp; (try with_reducible rfl))
          try simp only [Act.put, List.setIfInBounds_toArray, List.set_cons_zero, List.set_cons_succ]
          refine wpAnyH_take (i := 14) (oi := ⟨some 95, _, _, _, _, _⟩) (v := ?v36) rfl (by kernel_rfl) (by kernel_rfl) (by kernel_rfl) (fun _ _ _ h => h) (Or.inl ⟨by rfl, ?y36⟩) (by assumption) ?r36
          case y36 => (intro wx hSx; (try dsimp only at hSx); go_simp; (try with_reducible rfl))
          try simp only [Act.put, List.setIfInBounds_toArray, List.set_cons_zero, List.set_cons_succ]
          refine wpAnyH_take (i := 15) (oi := ⟨some 96, _, _, _, _, _⟩) (v := ?v37) rfl (by kernel_rfl) (by kernel_rfl) (by kernel_rfl) (fun _ _ _ h => h) (Or.inl ⟨by rfl, ?y37⟩) (by assumption) ?r37
          case y37 => (intro wx hSx; (try dsimp only at hSx); go_simp; (try with_reducible rfl))
          try simp only [Act.put, List.setIfInBounds_toArray, List.set_cons_zero, List.set_cons_succ]
          refine wpAnyH_take (i := 16) (oi := ⟨some 97, _, _, _, _, _⟩) (v := ?v38) rfl (by kernel_rfl) (by kernel_rfl) (by kernel_rfl) (fun _ _ _ h => h) (Or.inl ⟨by rfl, ?y38⟩) (by assumption) ?r38
          case y38 => (intro wx hSx; (try dsimp only at hSx); go_simp; (try with_reducible rfl))
          try simp only [Act.put, List.setIfInBounds_toArray, List.set_cons_zero, List.set_cons_succ]
          refine wpAnyH_take (i := 17) (oi := ⟨some 98, _, _, _, _, _⟩) (v := ?v39) rfl (by kernel_rfl) (by kernel_rfl) (by kernel_rfl) (fun _ _ _ h => h) (Or.inl ⟨by rfl, ?y39⟩) (by assumption) ?r39
          case y39 => (intro wx hSx; (try dsimp only at hSx); go_simp; (try with_reducible rfl))
          try simp only [Act.put, List.setIfInBounds_toArray, List.set_cons_zero, List.set_cons_succ]
          refine wpAnyH_take (i := 18) (oi := ⟨some 99, _, _, _, _, _⟩) (v := ?v40) rfl (by kernel_rfl) (by kernel_rfl) (by kernel_rfl) (fun _ _ _ h => h) (Or.inl ⟨by rfl, ?y40⟩) (by assumption) ?r40
          case y40 => (intro wx hSx; (try dsimp only at hSx); go_simp; (try with_reducible rfl))
          try simp only [Act.put, List.setIfInBounds_toArray, List.set_cons_zero, List.set_cons_succ]
          refine wpAnyH_take (i := 19) (oi := ⟨some 100, _, _, _, _, _⟩) (v := ?v41) rfl (by kernel_rfl) (by kernel_rfl) (by kernel_rfl) (fun _ _ _ h => h) (Or.inl ⟨by rfl, ?y41⟩) (by assumption) ?r41
          case y41 => (intro wx hSx; (try dsimp only at hSx); go_simp; (try with_reducible rfl))
          try simp only [Act.put, List.setIfInBounds_toArray, List.set_cons_zero, List.set_cons_succ]
          refine wpAnyH_take (i := 20) (oi := ⟨some 101, _, _, _, _, _⟩) (v := ?v42) rfl (by kernel_rfl) (by kernel_rfl) (by kernel_rfl) (fun _ _ _ h => h) (Or.inl ⟨by rfl, ?y42⟩) (by assumption) ?r42
          case y42 => (intro wx hSx; (try dsimp only at hSx); go_simp; (try with_reducible rfl))
          try simp only [Act.put, List.setIfInBounds_toArray, List.set_cons_zero, List.set_cons_succ]
          refine wpAnyH_take (i := 21) (oi := ⟨some 102, _, _, _, _, _⟩) (v := ?v43) rfl (by kernel_rfl) (by kernel_rfl) (by kernel_rfl) (fun _ _ _ h => h) (Or.inl ⟨by rfl, ?y43⟩) (by assumption) ?r43
          case y43 => (intro wx hSx; (try dsimp only at hSx); go_simp; (try with_reducible rfl))
          try simp only [Act.put, List.setIfInBounds_toArray, List.set_cons_zero, List.set_cons_succ]
          refine wpAnyH_take (i := 22) (oi := ⟨some 103, _, _, _, _, _⟩) (v := ?v44) rfl (by kernel_rfl) (by kernel_rfl) (by kernel_rfl) (fun _ _ _ h => h) (Or.inl ⟨by rfl, ?y44⟩) (by assumption) ?r44
          case y44 => (intro wx hSx; (try dsimp only at hSx); go_simp; (try with_reducible rfl))
          try simp only [Act.put, List.setIfInBounds_toArray, List.set_cons_zero, List.set_cons_succ]
          refine wpAnyH_take (i := 23) (oi := ⟨some 104, _, _, _, _, _⟩) (v := ?v45) rfl (by kernel_rfl) (by kernel_rfl) (by kernel_rfl) (fun _ _ _ h => h) (Or.inl ⟨by rfl, ?y45⟩) (by assumption) ?r45
          case y45 => (intro wx hSx; (try dsimp only at hSx); go_simp; (try with_reducible rfl))
          try simp only [Act.put, List.setIfInBounds_toArray, List.set_cons_zero, List.set_cons_succ]
          refine wpAnyH_take (i := 24) (oi := ⟨some 6, _, _, _, _, _⟩) (v := ?v46) rfl (by kernel_rfl) (by kernel_rfl) (by kernel_rfl) (fun _ _ _ h => h) (Or.inl ⟨by rfl, ?y46⟩) (by assumption) ?r46
          case y46 => (intro wx hSx; (try dsimp only at hSx); go_simp; (try with_reducible rfl))
          try simp only [Act.put, List.setIfInBounds_toArray, List.set_cons_zero, List.set_cons_succ]
          refine wpAnyH_done (by kernel_rfl) ?_ _
          go_wp2
          go_ret
          exact ⟨rfl, HLB.out ▸ HF.out⟩
        · go_wp2_with ((go_at_call 12; (with_reducible refine (Unlike_calls 8 8 (lb_ints HL.out HL8.out HWF.out) HT2.out HL8.out HTL.out).mono ?_); rintro e w' ⟨au, cu, rfl, hu, f'⟩; (rw [HU.out]); have HL3 := hid (HL.out.frm f' (fun h => h)); have HF3 := hid (HF.out.trans (f'.below (HLB.out ▸ (show Below w.heap.size w _ from HLB.out ▸ HF.out).size) (fun _ _ h => h))); clear HL HF f' hu; have HL := HL3; have HF := HF3; clear HL3 HF3))
          have l0 := lb_cell HL.out X (by rw [HL8.out]; exact HX8.out) HVX.out
          have l1 := lb_cell HL.out Y (by rw [HL8.out]; exact HY8.out) HVY.out
          have HF2 := hid (bdrew HF.out); clear HF; have HF := HF2; clear HF2
          refine wp_region_held_drew (S := fun wx => wx.cell? ⟨lb, X, none⟩ = some (.int .u64 vX) ∧ wx.cell? ⟨lb, Y, none⟩ = some (.int .u64 vY)) (by kernel_rfl) (by exact ⟨l0, l1⟩) (fun hHeld => ?_)
          refine wpAnyH_take (i := 0) (oi := ⟨some 81, _, _, _, _, _⟩) (v := ?v47) rfl (by kernel_rfl) (by kernel_rfl) (by kernel_rfl) (fun _ _ _ h => h) (Or.inl ⟨by rfl, ?y47⟩) (by assumption) ?r47
          case y47 => (intro wx hSx; (try dsimp only at hSx); go_simp; (try with_reducible rfl))
          try simp only [Act.put, List.setIfInBounds_toArray, List.set_cons_zero, List.set_cons_succ]
          refine wpAnyH_take (i := 1) (oi := ⟨some 82, _, _, _, _, _⟩) (v := ?v48) rfl (by kernel_rfl) (by kernel_rfl) (by kernel_rfl) (fun _ _ _ h => h) (Or.inl ⟨by rfl, ?y48⟩) (by assumption) ?r48
          case y48 => (intro wx hSx; (try dsimp only at hSx); go_simp; (try with_reducible rfl))
          try simp only [Act.put, List.setIfInBounds_toArray, List.set_cons_zero, List.set_cons_succ]
          refine wpAnyH_take (i := 2) (oi := ⟨some 83, _, _, _, _, _⟩) (v := ?v49) rfl (by kernel_rfl) (by kernel_rfl) (by kernel_rfl) (fun _ _ _ h => h) (Or.inl ⟨by rfl, ?y49⟩) (by assumption) ?r49
          case y49 => (intro wx hSx; (try dsimp only at hSx); go_simp; (try with_reducible rfl))
          try simp only [Act.put, List.setIfInBounds_toArray, List.set_cons_zero, List.set_cons_succ]
          refine wpAnyH_take (i := 3) (oi := ⟨some 84, _, _, _, _, _⟩) (v := undef) rfl (by kernel_rfl) (by kernel_rfl) (by kernel_rfl) (fun _ _ _ h => h) (Or.inr ⟨by rfl, rfl⟩) (by assumption) ?_
          try simp only [Act.put, List.setIfInBounds_toArray, List.set_cons_zero, List.set_cons_succ]
          refine wpAnyH_take (i := 4) (oi := ⟨some 85, _, _, _, _, _⟩) (v := undef) rfl (by kernel_rfl) (by kernel_rfl) (by kernel_rfl) (fun _ _ _ h => h) (Or.inr ⟨by rfl, rfl⟩) (by assumption) ?_
          try simp only [Act.put, List.setIfInBounds_toArray, List.set_cons_zero, List.set_cons_succ]
          refine wpAnyH_take (i := 5) (oi := ⟨some 86, _, _, _, _, _⟩) (v := undef) rfl (by kernel_rfl) (by kernel_rfl) (by kernel_rfl) (fun _ _ _ h => h) (Or.inr ⟨by rfl, rfl⟩) (by assumption) ?_
          try simp only [Act.put, List.setIfInBounds_toArray, List.set_cons_zero, List.set_cons_succ]
          refine wpAnyH_take (i := 6) (oi := ⟨some 87, _, _, _, _, _⟩) (v := undef) rfl (by kernel_rfl) (by kernel_rfl) (by kernel_rfl) (fun _ _ _ h => h) (Or.inr ⟨by rfl, rfl⟩) (by assumption) ?_
          try simp only [Act.put, List.setIfInBounds_toArray, List.set_cons_zero, List.set_cons_succ]
          refine wpAnyH_take (i := 7) (oi := ⟨some 88, _, _, _, _, _⟩) (v := undef) rfl (by kernel_rfl) (by kernel_rfl) (by kernel_rfl) (fun _ _ _ h => h) (Or.inr ⟨by rfl, rfl⟩) (by assumption) ?_
          try simp only [Act.put, List.setIfInBounds_toArray, List.set_cons_zero, List.set_cons_succ]
          refine wpAnyH_take (i := 8) (oi := ⟨some 89, _, _, _, _, _⟩) (v := undef) rfl (by kernel_rfl) (by kernel_rfl) (by kernel_rfl) (fun _ _ _ h => h) (Or.inr ⟨by rfl, rfl⟩) (by assumption) ?_
          try simp only [Act.put, List.setIfInBounds_toArray, List.set_cons_zero, List.set_cons_succ]
          refine wpAnyH_take (i := 9) (oi := ⟨some 90, _, _, _, _, _⟩) (v := undef) rfl (by kernel_rfl) (by kernel_rfl) (by kernel_rfl) (fun _ _ _ h => h) (Or.inr ⟨by rfl, rfl⟩) (by assumption) ?_
          try simp only [Act.put, List.setIfInBounds_toArray, List.set_cons_zero, List.set_cons_succ]
          refine wpAnyH_take (i := 10) (oi := ⟨some 91, _, _, _, _, _⟩) (v := ?v50) rfl (by kernel_rfl) (by kernel_rfl) (by kernel_rfl) (fun _ _ _ h => h) (Or.inl ⟨by rfl, ?y50⟩) (by assumption) ?r50
          case y50 => (intro wx hSx; (try dsimp only at hSx); go_simp; (try with_reducible rfl))
          try simp only [Act.put, List.setIfInBounds_toArray, List.set_cons_zero, List.set_cons_succ]
          refine wpAnyH_take (i := 11) (oi := ⟨some 92, _, _, _, _, _⟩) (v := ?v51) rfl (by kernel_rfl) (by kernel_rfl) (by kernel_rfl) (fun _ _ _ h => h) (Or.inl ⟨by rfl, ?y51⟩) (by assumption) ?r51
          case y51 => (intro wx hSx; (try dsimp only at hSx); go_simp; (try with_reducible rfl))
          try simp only [Act.put, List.setIfInBounds_toArray, List.set_cons_zero, List.set_cons_succ]
          refine wpAnyH_take (i := 12) (oi := ⟨some 93, _, _, _, _, _⟩) (v := ?v52) rfl (by kernel_rfl) (by kernel_rfl) (by kernel_rfl) (fun _ _ _ h => h) (Or.inl ⟨by rfl, ?y52⟩) (by assumption) ?r52
          case y52 => (intro wx hSx; (try dsimp only at hSx); go_simp; (try with_reducible rfl))
          try simp only [Act.put, List.setIfInBounds_toArray, List.set_cons_zero, List.set_cons_succ]
          refine wpAnyH_take (i := 13) (oi := ⟨some 94, _, _, _, _, _⟩) (v := ?v53) rfl (by kernel_rfl) (by kernel_rfl) (by kernel_rfl) (fun _ _ _ h => h) (Or.inl ⟨by rfl, ?y53⟩) (by assumption) ?r53
          case y53 => (intro wx hSx; (try dsimp only at hSx); go_simp; (try with_reducible rfl))
          try simp only [Act.put, List.setIfInBounds_toArray, List.set_cons_zero, List.set_cons_succ]
          refine wpAnyH_take (i := 14) (oi := ⟨some 95, _, _, _, _, _⟩) (v := ?v54) rfl (by kernel_rfl) (by kernel_rfl) (by kernel_rfl) (fun _ _ _ h => h) (Or.inl ⟨by rfl, ?y54⟩) (by assumption) ?r54
          case y54 => (intro wx hSx; (try dsimp only at hSx); go_simp; (try with_reducible rfl))
          try simp only [Act.put, List.setIfInBounds_toArray, List.set_cons_zero, List.set_cons_succ]
          refine wpAnyH_take (i := 15) (oi := ⟨some 96, _, _, _, _, _⟩) (v := ?v55) rfl (by kernel_rfl) (by kernel_rfl) (by kernel_rfl) (fun _ _ _ h => h) (Or.inl ⟨by rfl, ?y55⟩) (by assumption) ?r55
          case y55 => (intro wx hSx; (try dsimp only at hSx); go_simp; (try with_reducible rfl))
          try simp only [Act.put, List.setIfInBounds_toArray, List.set_cons_zero, List.set_cons_succ]
          refine wpAnyH_take (i := 16) (oi := ⟨some 97, _, _, _, _, _⟩) (v := ?v56) rfl (by kernel_rfl) (by kernel_rfl) (by kernel_rfl) (fun _ _ _ h => h) (Or.inl ⟨by rfl, ?y56⟩) (by assumption) ?r56
          case y56 => (intro wx hSx; (try dsimp only at hSx); go_simp; (try with_reducible rfl))
          try simp only [Act.put, List.setIfInBounds_toArray, List.set_cons_zero, List.set_cons_succ]
          refine wpAnyH_take (i := 17) (oi := ⟨some 98, _, _, _, _, _⟩) (v := ?v57) rfl (by kernel_rfl) (by kernel_rfl) (by kernel_rfl) (fun _ _ _ h => h) (Or.inl ⟨by rfl, ?y57⟩) (by assumption) ?r57
          case y57 => (intro wx hSx; (try dsimp only at hSx); go_simp; (try with_reducible rfl))
          try simp only [Act.put, List.setIfInBounds_toArray, List.set_cons_zero, List.set_cons_succ]
          refine wpAnyH_take (i := 18) (oi := ⟨some 99, _, _, _, _, _⟩) (v := ?v58) rfl (by kernel_rfl) (by kernel_rfl) (by kernel_rfl) (fun _ _ _ h => h) (Or.inl ⟨by rfl, ?y58⟩) (by assumption) ?r58
          case y58 => (intro wx hSx; (try dsimp only at hSx); go_simp; (try with_reducible rfl))
          try simp only [Act.put, List.setIfInBounds_toArray, List.set_cons_zero, List.set_cons_succ]
          refine wpAnyH_take (i := 19) (oi := ⟨some 100, _, _, _, _, _⟩) (v := ?v59) rfl (by kernel_rfl) (by kernel_rfl) (by kernel_rfl) (fun _ _ _ h => h) (Or.inl ⟨by rfl, ?y59⟩) (by assumption) ?r59
          case y59 => (intro wx hSx; (try dsimp only at hSx); go_simp; (try with_reducible rfl))
          try simp only [Act.put, List.setIfInBounds_toArray, List.set_cons_zero, List.set_cons_succ]
          refine wpAnyH_take (i := 20) (oi := ⟨some 101, _, _, _, _, _⟩) (v := ?v60) rfl (by kernel_rfl) (by kernel_rfl) (by kernel_rfl) (fun _ _ _ h => h) (Or.inl ⟨by rfl, ?y60⟩) (by assumption) ?r60
          case y60 => (intro wx hSx; (try dsimp only at hSx); go_simp; (try with_reducible rfl))
          try simp only [Act.put, List.setIfInBounds_toArray, List.set_cons_zero, List.set_cons_succ]
          refine wpAnyH_take (i := 21) (oi := ⟨some 102, _, _, _, _, _⟩) (v := ?v61) rfl (by kernel_rfl) (by kernel_rfl) (by kernel_rfl) (fun _ _ _ h => h) (Or.inl ⟨by rfl, ?y61⟩) (by assumption) ?r61
          case y61 => (intro wx hSx; (try dsimp only at hSx); go_simp; (try with_reducible rfl))
          try simp only [Act.put, List.setIfInBounds_toArray, List.set_cons_zero, List.set_cons_succ]
          refine wpAnyH_take (i := 22) (oi := ⟨some 103, _, _, _, _, _⟩) (v := ?v62) rfl (by kernel_rfl) (by kernel_rfl) (by kernel_rfl) (fun _ _ _ h => h) (Or.inl ⟨by rfl, ?y62⟩) (by assumption) ?r62
          case y62 => (intro wx hSx; (try dsimp only at hSx); go_simp; (try with_reducible rfl))
          try simp only [Act.put, List.setIfInBounds_toArray, List.set_cons_zero, List.set_cons_succ]
          refine wpAnyH_take (i := 23) (oi := ⟨some 104, _, _, _, _, _⟩) (v := ?v63) rfl (by kernel_rfl) (by kernel_rfl) (by kernel_rfl) (fun _ _ _ h => h) (Or.inl ⟨by rfl, ?y63⟩) (by assumption) ?r63
          case y63 => (intro wx hSx; (try dsimp only at hSx); go_simp; (try with_reducible rfl))
          try simp only [Act.put, List.setIfInBounds_toArray, List.set_cons_zero, List.set_cons_succ]
          refine wpAnyH_take (i := 24) (oi := ⟨some 6, _, _, _, _, _⟩) (v := ?v64) rfl (by kernel_rfl) (by kernel_rfl) (by kernel_rfl) (fun _ _ _ h => h) (Or.inl ⟨by rfl, ?y64⟩) (by assumption) ?r64
          case y64 => (intro wx hSx; (try dsimp only at hSx); go_simp; (try with_reducible rfl))
          try simp only [Act.put, List.setIfInBounds_toArray, List.set_cons_zero, List.set_cons_succ]
          refine wpAnyH_done (by kernel_rfl) ?_ _
          go_wp2
          go_ret
          exact ⟨rfl, HLB.out ▸ HF.out⟩
        · go_wp2_with ((go_at_call 12; (with_reducible refine (Unlike_calls 8 8 (lb_ints HL.out HL8.out HWF.out) HT2.out HL8.out HTL.out).mono ?_); rintro e w' ⟨au, cu, rfl, hu, f'⟩; (rw [HU.out]); have HL3 := hid (HL.out.frm f' (fun h => h)); have HF3 := hid (HF.out.trans (f'.below (HLB.out ▸ (show Below w.heap.size w _ from HLB.out ▸ HF.out).size) (fun _ _ h => h))); clear HL HF f' hu; have HL := HL3; have HF := HF3; clear HL3 HF3))
          have l0 := lb_cell HL.out X (by rw [HL8.out]; exact HX8.out) HVX.out
          have l1 := lb_cell HL.out Y (by rw [HL8.out]; exact HY8.out) HVY.out
          have HF2 := hid (bdrew HF.out); clear HF; have HF := HF2; clear HF2
          refine wp_region_held_drew (S := fun wx => wx.cell? ⟨lb, X, none⟩ = some (.int .u64 vX) ∧ wx.cell? ⟨lb, Y, none⟩ = some (.int .u64 vY)) (by kernel_rfl) (by exact ⟨l0, l1⟩) (fun hHeld => ?_)
          refine wpAnyH_take (i := 0) (oi := ⟨some 81, _, _, _, _, _⟩) (v := ?v79) rfl (by kernel_rfl) (by kernel_rfl) (by kernel_rfl) (fun _ _ _ h => h) (Or.inl ⟨by rfl, ?y79⟩) (by assumption) ?r79
          case y79 => (intro wx hSx; (try dsimp only at hSx); go_simp; (try with_reducible rfl))
          try simp only [Act.put, List.setIfInBounds_toArray, List.set_cons_zero, List.set_cons_succ]
          refine wpAnyH_take (i := 1) (oi := ⟨some 82, _, _, _, _, _⟩) (v := ?v80) rfl (by kernel_rfl) (by kernel_rfl) (by kernel_rfl) (fun _ _ _ h => h) (Or.inl ⟨by rfl, ?y80⟩) (by assumption) ?r80
          case y80 => (intro wx hSx; (try dsimp only at hSx); go_simp; (try with_reducible rfl))
          try simp only [Act.put, List.setIfInBounds_toArray, List.set_cons_zero, List.set_cons_succ]
          refine wpAnyH_take (i := 2) (oi := ⟨some 83, _, _, _, _, _⟩) (v := ?v81) rfl (by kernel_rfl) (by kernel_rfl) (by kernel_rfl) (fun _ _ _ h => h) (Or.inl ⟨by rfl, ?y81⟩) (by assumption) ?r81
          case y81 => (intro wx hSx; (try dsimp only at hSx); go_simp; (try with_reducible rfl))
          try simp only [Act.put, List.setIfInBounds_toArray, List.set_cons_zero, List.set_cons_succ]
          refine wpAnyH_take (i := 3) (oi := ⟨some 84, _, _, _, _, _⟩) (v := undef) rfl (by kernel_rfl) (by kernel_rfl) (by kernel_rfl) (fun _ _ _ h => h) (Or.inr ⟨by rfl, rfl⟩) (by assumption) ?_
          try simp only [Act.put, List.setIfInBounds_toArray, List.set_cons_zero, List.set_cons_succ]
          refine wpAnyH_take (i := 4) (oi := ⟨some 85, _, _, _, _, _⟩) (v := undef) rfl (by kernel_rfl) (by kernel_rfl) (by kernel_rfl) (fun _ _ _ h => h) (Or.inr ⟨by rfl, rfl⟩) (by assumption) ?_
          try simp only [Act.put, List.setIfInBounds_toArray, List.set_cons_zero, List.set_cons_succ]
          refine wpAnyH_take (i := 5) (oi := ⟨some 86, _, _, _, _, _⟩) (v := undef) rfl (by kernel_rfl) (by kernel_rfl) (by kernel_rfl) (fun _ _ _ h => h) (Or.inr ⟨by rfl, rfl⟩) (by assumption) ?_
          try simp only [Act.put, List.setIfInBounds_toArray, List.set_cons_zero, List.set_cons_succ]
          refine wpAnyH_take (i := 6) (oi := ⟨some 87, _, _, _, _, _⟩) (v := undef) rfl (by kernel_rfl) (by kernel_rfl) (by kernel_rfl) (fun _ _ _ h => h) (Or.inr ⟨by rfl, rfl⟩) (by assumption) ?_
          try simp only [Act.put, List.setIfInBounds_toArray, List.set_cons_zero, List.set_cons_succ]
          refine wpAnyH_take (i := 7) (oi := ⟨some 88, _, _, _, _, _⟩) (v := undef) rfl (by kernel_rfl) (by kernel_rfl) (by kernel_rfl) (fun _ _ _ h => h) (Or.inr ⟨by rfl, rfl⟩) (by assumption) ?_
          try simp only [Act.put, List.setIfInBounds_toArray, List.set_cons_zero, List.set_cons_succ]
          refine wpAnyH_take (i := 8) (oi := ⟨some 89, _, _, _, _, _⟩) (v := undef) rfl (by kernel_rfl) (by kernel_rfl) (by kernel_rfl) (fun _ _ _ h => h) (Or.inr ⟨by rfl, rfl⟩) (by assumption) ?_
          try simp only [Act.put, List.setIfInBounds_toArray, List.set_cons_zero, List.set_cons_succ]
          refine wpAnyH_take (i := 9) (oi := ⟨some 90, _, _, _, _, _⟩) (v := undef) rfl (by kernel_rfl) (by kernel_rfl) (by kernel_rfl) (fun _ _ _ h => h) (Or.inr ⟨by rfl, rfl⟩) (by assumption) ?_
          try simp only [Act.put, List.setIfInBounds_toArray, List.set_cons_zero, List.set_cons_succ]
          refine wpAnyH_take (i := 10) (oi := ⟨some 91, _, _, _, _, _⟩) (v := ?v82) rfl (by kernel_rfl) (by kernel_rfl) (by kernel_rfl) (fun _ _ _ h => h) (Or.inl ⟨by rfl, ?y82⟩) (by assumption) ?r82
          case y82 => (intro wx hSx; (try dsimp only at hSx); go_simp; (try with_reducible rfl))
          try simp only [Act.put, List.setIfInBounds_toArray, List.set_cons_zero, List.set_cons_succ]
          refine wpAnyH_take (i := 11) (oi := ⟨some 92, _, _, _, _, _⟩) (v := ?v83) rfl (by kernel_rfl) (by kernel_rfl) (by kernel_rfl) (fun _ _ _ h => h) (Or.inl ⟨by rfl, ?y83⟩) (by assumption) ?r83
          case y83 => (intro wx hSx; (try dsimp only at hSx); go_simp; (try with_reducible rfl))
          try simp only [Act.put, List.setIfInBounds_toArray, List.set_cons_zero, List.set_cons_succ]
          refine wpAnyH_take (i := 12) (oi := ⟨some 93, _, _, _, _, _⟩) (v := ?v84) rfl (by kernel_rfl) (by kernel_rfl) (by kernel_rfl) (fun _ _ _ h => h) (Or.inl ⟨by rfl, ?y84⟩) (by assumption) ?r84
          case y84 => (intro wx hSx; (try dsimp only at hSx); go_simp; (try with_reducible rfl))
          try simp only [Act.put, List.setIfInBounds_toArray, List.set_cons_zero, List.set_cons_succ]
          refine wpAnyH_take (i := 13) (oi := ⟨some 94, _, _, _, _, _⟩) (v := ?v85) rfl (by kernel_rfl) (by kernel_rfl) (by kernel_rfl) (fun _ _ _ h => h) (Or.inl ⟨by rfl, ?y85⟩) (by assumption) ?r85
          case y85 => (intro wx hSx; (try dsimp only at hSx); go_simp; (try with_reducible rfl))
          try simp only [Act.put, List.setIfInBounds_toArray, List.set_cons_zero, List.set_cons_succ]
          refine wpAnyH_take (i := 14) (oi := ⟨some 95, _, _, _, _, _⟩) (v := ?v86) rfl (by kernel_rfl) (by kernel_rfl) (by kernel_rfl) (fun _ _ _ h => h) (Or.inl ⟨by rfl, ?y86⟩) (by assumption) ?r86
          case y86 => (intro wx hSx; (try dsimp only at hSx); go_simp; (try with_reducible rfl))
          try simp only [Act.put, List.setIfInBounds_toArray, List.set_cons_zero, List.set_cons_succ]
          refine wpAnyH_take (i := 15) (oi := ⟨some 96, _, _, _, _, _⟩) (v := ?v87) rfl (by kernel_rfl) (by kernel_rfl) (by kernel_rfl) (fun _ _ _ h => h) (Or.inl ⟨by rfl, ?y87⟩) (by assumption) ?r87
          case y87 => (intro wx hSx; (try dsimp only at hSx); go_simp; (try with_reducible rfl))
          try simp only [Act.put, List.setIfInBounds_toArray, List.set_cons_zero, List.set_cons_succ]
          refine wpAnyH_take (i := 16) (oi := ⟨some 97, _, _, _, _, _⟩) (v := ?v88) rfl (by kernel_rfl) (by kernel_rfl) (by kernel_rfl) (fun _ _ _ h => h) (Or.inl ⟨by rfl, ?y88⟩) (by assumption) ?r88
          case y88 => (intro wx hSx; (try dsimp only at hSx); go_simp; (try with_reducible rfl))
          try simp only [Act.put, List.setIfInBounds_toArray, List.set_cons_zero, List.set_cons_succ]
          refine wpAnyH_take (i := 17) (oi := ⟨some 98, _, _, _, _, _⟩) (v := ?v89) rfl (by kernel_rfl) (by kernel_rfl) (by kernel_rfl) (fun _ _ _ h => h) (Or.inl ⟨by rfl, ?y89⟩) (by assumption) ?r89
          case y89 => (intro wx hSx; (try dsimp only at hSx); go_simp; (try with_reducible rfl))
          try simp only [Act.put, List.setIfInBounds_toArray, List.set_cons_zero, List.set_cons_succ]
          refine wpAnyH_take (i := 18) (oi := ⟨some 99, _, _, _, _, _⟩) (v := ?v90) rfl (by kernel_rfl) (by kernel_rfl) (by kernel_rfl) (fun _ _ _ h => h) (Or.inl ⟨by rfl, ?y90⟩) (by assumption) ?r90
          case y90 => (intro wx hSx; (try dsimp only at hSx); go_simp; (try with_reducible rfl))
          try simp only [Act.put, List.setIfInBounds_toArray, List.set_cons_zero, List.set_cons_succ]
          refine wpAnyH_take (i := 19) (oi := ⟨some 100, _, _, _, _, _⟩) (v := ?v91) rfl (by kernel_rfl) (by kernel_rfl) (by kernel_rfl) (fun _ _ _ h => h) (Or.inl ⟨by rfl, ?y91⟩) (by assumption) ?r91
          case y91 => (intro wx hSx; (try dsimp only at hSx); go_simp; (try with_reducible rfl))
          try simp only [Act.put, List.setIfInBounds_toArray, List.set_cons_zero, List.set_cons_succ]
          refine wpAnyH_take (i := 20) (oi := ⟨some 101, _, _, _, _, _⟩) (v := ?v92) rfl (by kernel_rfl) (by kernel_rfl) (by kernel_rfl) (fun _ _ _ h => h) (Or.inl ⟨by rfl, ?y92⟩) (by assumption) ?r92
          case y92 => (intro wx hSx; (try dsimp only at hSx); go_simp; (try with_reducible rfl))
          try simp only [Act.put, List.setIfInBounds_toArray, List.set_cons_zero, List.set_cons_succ]
          refine wpAnyH_take (i := 21) (oi := ⟨some 102, _, _, _, _, _⟩) (v := ?v93) rfl (by kernel_rfl) (by kernel_rfl) (by kernel_rfl) (fun _ _ _ h => h) (Or.inl ⟨by rfl, ?y93⟩) (by assumption) ?r93
          case y93 => (intro wx hSx; (try dsimp only at hSx); go_simp; (try with_reducible rfl))
          try simp only [Act.put, List.setIfInBounds_toArray, List.set_cons_zero, List.set_cons_succ]
          refine wpAnyH_take (i := 22) (oi := ⟨some 103, _, _, _, _, _⟩) (v := ?v94) rfl (by kernel_rfl) (by kernel_rfl) (by kernel_rfl) (fun _ _ _ h => h) (Or.inl ⟨by rfl, ?y94⟩) (by assumption) ?r94
          case y94 => (intro wx hSx; (try dsimp only at hSx); go_simp; (try with_reducible rfl))
          try simp only [Act.put, List.setIfInBounds_toArray, List.set_cons_zero, List.set_cons_succ]
          refine wpAnyH_take (i := 23) (oi := ⟨some 104, _, _, _, _, _⟩) (v := ?v95) rfl (by kernel_rfl) (by kernel_rfl) (by kernel_rfl) (fun _ _ _ h => h) (Or.inl ⟨by rfl, ?y95⟩) (by assumption) ?r95
          case y95 => (intro wx hSx; (try dsimp only at hSx); go_simp; (try with_reducible rfl))
          try simp only [Act.put, List.setIfInBounds_toArray, List.set_cons_zero, List.set_cons_succ]
          refine wpAnyH_take (i := 24) (oi := ⟨some 6, _, _, _, _, _⟩) (v := ?v96) rfl (by kernel_rfl) (by kernel_rfl) (by kernel_rfl) (fun _ _ _ h => h) (Or.inl ⟨by rfl, ?y96⟩) (by assumption) ?r96
          case y96 => (intro wx hSx; (try dsimp only at hSx); go_simp; (try with_reducible rfl))
          try simp only [Act.put, List.setIfInBounds_toArray, List.set_cons_zero, List.set_cons_succ]
          refine wpAnyH_done (by kernel_rfl) ?_ _
          go_wp2
          go_ret
          exact ⟨rfl, HLB.out ▸ HF.out⟩
end Go.Proofs.Ytknaalaajmhjgaa
