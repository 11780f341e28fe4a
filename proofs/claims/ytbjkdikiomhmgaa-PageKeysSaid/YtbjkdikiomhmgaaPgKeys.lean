/- PageKeys, walked: each key lies on its page alone, by its number modulo seven; three bytes each; none of value nought. -/
import Derived.Test.YtbjkdikiomhmgaaPgKnown
namespace Go.Proofs.Ytbjkdikiomhmgaa
open Go.RowKit Go.ChangeShapes
set_option linter.unusedVariables false
set_option linter.unusedSimpArgs false
abbrev TAB : Nat := 37
def hcells (vs : List Int) : List Value := vs.map fun v => Value.bool (decide (v ≠ 0))
theorem hcells_set (vs : List Int) (k : Nat) (v : Int) : (hcells vs).set k (.bool (decide (v ≠ 0))) = hcells (vs.set k v) := by unfold hcells; rw [List.map_set]
theorem hcell_at {w : World} {h : Nat} {vs : List Int} (hb : Blk w h (hcells vs) TAB) (hl : vs.length = 64) {k : Nat} (hk : k < 64) : w.cell? ⟨h, k, none⟩ = some (.bool (decide (vs.getD k 0 ≠ 0))) := by
  rw [hb.cell, hcells, List.getElem?_map, List.getElem?_eq_getElem (by omega), List.getD_eq_getElem?_getD, List.getElem?_eq_getElem (by omega)]; rfl
theorem zeroTAB (w : World) : (zeroValue TAB).run Try.prog w = .ok (.agg (hcells (List.replicate 64 0)).toArray) w := by kernel_rfl
theorem pvals_split (vs : List Int) (p : Nat) {j n : Nat} (h : j ≤ n) : ∃ rest, pvals vs p n = pvals vs p j ++ rest := by
  induction n with
  | zero => obtain rfl : j = 0 := by omega
            exact ⟨[], by simp⟩
  | succ n ih =>
    rcases Nat.lt_or_ge n j with hj | hj
    · obtain rfl : j = n + 1 := by omega
      exact ⟨[], by simp⟩
    · obtain ⟨rest, hr⟩ := ih hj
      exact ⟨rest ++ kbytes vs (p + 7 * n), by rw [pvals_succ, hr, List.append_assoc]⟩
theorem getD_mid (a b : List Int) (i : Nat) : (a ++ b).getD (a.length + i) 0 = b.getD i 0 := by
  rw [List.getD_eq_getElem?_getD, List.getElem?_append_right (by omega), Nat.add_sub_cancel_left, ← List.getD_eq_getElem?_getD]
/-- What a key of value 300 takes on its page. -/
theorem key_at {vs : List Int} {p j : Nat} (hp : p < 7) (hj : j < pcount p) (h : vs.getD (p + 7 * j) 0 = 300) :
    (pvals vs p j).length + 3 ≤ (pvals vs p (pcount p)).length ∧ (pvals vs p (pcount p)).getD (pvals vs p j).length 0 = ((p + 7 * j : Nat) : Int) ∧
      (pvals vs p (pcount p)).getD ((pvals vs p j).length + 1) 0 = 1 ∧ (pvals vs p (pcount p)).getD ((pvals vs p j).length + 2) 0 = 44 ∧ (pvals vs p (j + 1)).length = (pvals vs p j).length + 3 := by
  obtain ⟨rest, hr⟩ := pvals_split vs p (show j + 1 ≤ pcount p by omega)
  have hk : kbytes vs (p + 7 * j) = be ((p + 7 * j : Nat) : Int) 1 ++ be 300 2 := by rw [kbytes, h, if_neg (by decide)]
  have h64 : p + 7 * j < 64 := by unfold pcount at hj; omega
  have hb1 : be ((p + 7 * j : Nat) : Int) 1 = [((p + 7 * j : Nat) : Int)] := by simp [be]; omega
  have hb2 : be 300 2 = [1, 44] := by decide
  rw [pvals_succ, hk, hb1, hb2, List.append_assoc] at hr
  have e : ([((p + 7 * j : Nat) : Int)] ++ [1, 44] : List Int) ++ rest = ((p + 7 * j : Nat) : Int) :: 1 :: 44 :: rest := rfl
  rw [e] at hr
  rw [hr]
  refine ⟨by rw [List.length_append]; simp only [List.length_cons]; omega, ?_, ?_, ?_, ?_⟩
  · exact getD_mid _ _ 0
  · exact getD_mid _ _ 1
  · exact getD_mid _ _ 2
  · rw [pvals_succ, hk, hb1, hb2, List.length_append]; rfl
theorem key_none {vs : List Int} {p j : Nat} (h : vs.getD (p + 7 * j) 0 = 0) : pvals vs p (j + 1) = pvals vs p j := by rw [pvals_succ, kbytes, if_pos h, List.append_nil]
theorem or_set {vs : List Int} (h : ∀ x ∈ vs, x = 0 ∨ x = 300) (k : Nat) {v : Int} (hv : v = 0 ∨ v = 300) : ∀ x ∈ vs.set k v, x = 0 ∨ x = 300 := fun x hx => by
  rcases List.mem_or_eq_of_mem_set hx with h' | rfl
  · exact h x h'
  · exact hv
theorem or_getD {vs : List Int} (h : ∀ x ∈ vs, x = 0 ∨ x = 300) (k : Nat) : vs.getD k 0 = 0 ∨ vs.getD k 0 = 300 := by
  rw [List.getD_eq_getElem?_getD]
  rcases Nat.lt_or_ge k vs.length with hk | hk
  · rw [List.getElem?_eq_getElem hk]; exact h _ (List.getElem_mem hk)
  · rw [List.getElem?_eq_none hk]; exact .inl rfl
theorem pageB_lt (vs cs : List Int) {p : Nat} (hp : p < 7) : pageB vs cs p = pvals vs p (pcount p) := by rw [pageB, if_neg (by omega)]
set_option maxRecDepth 100000 in
set_option maxHeartbeats 16000000 in
theorem PageKeys_walk (a0 : Option Addr) (c0 : Nat) (z0 : List Int) (w : World) (h0 : IsInts .u8 w a0 c0 z0) :
    Calls Try.prog 4 #[.slice a0 z0.length c0] w fun e w' => e = .returned (.bool true) ∧ Below w.heap.size w w' := by
  have hle := h0.le
  have hsm := h0.small
  by_cases hlen : z0.length > 100
  · go_enter Try.func4, Try.ntmps4
    go_wp2_with (go_at_call 6; (with_reducible refine (known_calls _).mono ?_); rintro e w' ⟨rfl, f1⟩)
    go_ret
    exact ⟨rfl, f1⟩
  have H0 := hid h0; clear h0
  obtain ⟨Z, hZ⟩ : ∃ Z, (hcells (List.replicate 64 0)).toArray = Z := ⟨_, rfl⟩
  have hz := zeroTAB
  rw [hZ] at hz
  have HZ := hid hZ; clear hZ
  obtain ⟨cs, hcs⟩ : ∃ cs, cs = List.replicate 10 (0 : Int) := ⟨_, rfl⟩
  have HCS := hid hcs; clear hcs
  go_enter Try.func4, Try.ntmps4
  go_wp2_with (first
    | (go_at_call 6; (with_reducible refine (known_calls _).mono ?_); rintro e w1 ⟨rfl, f1⟩; have HF := hid f1; clear f1)
    | (go_at_call 7; (with_reducible refine (PNew_calls w1).mono ?_); rintro e w2 ⟨rfl, h', f'⟩; have HB := hid HF.out.size; have HM := hid (HCS.out ▸ h'); have n0_ := hid (below_next HF.out f'); clear HF; have HF := n0_; clear n0_; clear f' h'))
  have HBH := hid (Nat.ne_of_lt HM.out.blk.lt)
  have HM2 := hid (HM.out.frm (frm_box w2 (.cells Z TAB)) (fun h => h))
  have HH := hid (show Blk (w2.alloc (.cells Z TAB)) w2.heap.size (hcells (List.replicate 64 0)) TAB by rw [← HZ.out]; exact Blk.new w2 _ TAB)
  have HF2 := hid (HF.out.alloc HF.out.size (.cells Z TAB))
  have HHB := hid HF.out.size
  clear HM HF
  have HM := HM2; have HF := HF2; clear HM2 HF2
  generalize w2.alloc (.cells Z TAB) = wz at *
  generalize w1.heap.size = b at *
  generalize w2.heap.size = hb at *
  go_loopw [5] (fun i wr => ∃ (k : Nat) (vs : List Int), k ≤ z0.length ∧ i = .int .i64 k ∧ IsMap wr b vs cs ∧ Blk wr hb (hcells vs) TAB ∧ (∀ x ∈ vs, x = 0 ∨ x = 300) ∧ Below w.heap.size w wr) (fun i _ => z0.length - (intOf i).toNat)
  case atStart => exact ⟨0, _, by omega, rfl, HM.out, HH.out, fun x hx => .inl (List.eq_of_mem_replicate hx), HF.out⟩
  case round =>
    clear HM HF HH
    obtain ⟨k, vs, hk, rfl, hm, hh, hor, hf⟩ := hrel
    have HM := hid hm; have HF := hid hf; have HH := hid hh; have HO := hid hor; clear hm hf hh hor
    by_cases hlt : k < z0.length
    · obtain ⟨ga, off, rfl, hga, hc⟩ := H0.out.at_ (by omega)
      have hcx := hc k hlt
      have hwf : (Lit.int .u8 (z0.getD k 0)).wf = true := H0.out.wf _ (by rw [List.getD_eq_getElem?_getD, List.getElem?_eq_getElem hlt]; exact List.getElem_mem hlt)
      generalize z0.getD k 0 = x at hcx hwf
      have hx := bounds_u8 hwf
      have q0 := (HF.out.cell (p := ⟨ga, off + k, none⟩) hga).trans hcx
      have hkl : (k : Int) < (z0.length : Int) := by omega
      obtain ⟨K, hK⟩ : ∃ K : Nat, x % 64 = (K : Int) := ⟨(x % 64).toNat, by omega⟩
      have hK8 : K < 64 := by omega
      have hKi : (K : Int) < 64 := by omega
      have hK0 : (0 : Int) ≤ (K : Int) := by omega
      have HK0 := hid hK0; have HK8 := hid hK8
      have z1 := HH.out.free K
      have HLV := hid HM.out.lv
      have z2 := hcell_at HH.out HLV.out hK8
      have HPE := hid (show ∀ v : Int, putV vs (K : Int) v = vs.set K v from fun v => by rw [putV, if_pos hKi, Int.toNat_natCast])
      clear hc hwf hcx
      by_cases hx8 : 128 ≤ x
      · have hx8' : ¬ x < 128 := by omega
        go_wp2_with (first
          | (go_at_call 8; (with_reducible refine (PPut_calls HM.out (K : Int) HK0.out 0 (by decide) _ (HPE.out 0)).mono ?_); rintro e w' ⟨rfl, h', f'⟩; have n0_ := hid (h'); have n1_ := hid (HH.out.frm f' (fun e => HBH.out e.symm)); have n2_ := hid (below_frm1 HF.out f' HB.out); clear HM HH HF; have HM := n0_; clear n0_; have HH := n1_; clear n1_; have HF := n2_; clear n2_; clear f' h' q0 z1 z2; have z1 := HH.out.free K; have z2 := hcell_at HH.out HLV.out HK8.out))
        go_roundw
        case rel => exact ⟨k + 1, vs.set K 0, by omega, by go_num, HM.out.frm ((Frm.refl (· = hb) _).setCell ⟨hb, K, none⟩ (.bool false) (.inr rfl)) (fun e => HBH.out e), by rw [← hcells_set]; exact HH.out.setCell K (.bool false), or_set HO.out K (.inl rfl), HF.out.setCell HHB.out _⟩
        case measure => simp [intOf]; omega
      · have hx8' : x < 128 := by omega
        go_wp2_with (first
          | (go_at_call 8; (with_reducible refine (PPut_calls HM.out (K : Int) HK0.out 300 (by decide) _ (HPE.out 300)).mono ?_); rintro e w' ⟨rfl, h', f'⟩; have n0_ := hid (h'); have n1_ := hid (HH.out.frm f' (fun e => HBH.out e.symm)); have n2_ := hid (below_frm1 HF.out f' HB.out); clear HM HH HF; have HM := n0_; clear n0_; have HH := n1_; clear n1_; have HF := n2_; clear n2_; clear f' h' q0 z1 z2; have z1 := HH.out.free K; have z2 := hcell_at HH.out HLV.out HK8.out))
        go_roundw
        case rel => exact ⟨k + 1, vs.set K 300, by omega, by go_num, HM.out.frm ((Frm.refl (· = hb) _).setCell ⟨hb, K, none⟩ (.bool true) (.inr rfl)) (fun e => HBH.out e), by rw [← hcells_set]; exact HH.out.setCell K (.bool true), or_set HO.out K (.inr rfl), HF.out.setCell HHB.out _⟩
        case measure => simp [intOf]; omega
    · have hkl : (z0.length : Int) ≤ (k : Int) := by omega
      have HLV := hid HM.out.lv
      clear hlt
      go_wp2
      generalize decide (k < z0.length) = d1
      clear hkl hk
      go_loopw [7] (fun i wr => ∃ (p : Nat), p ≤ 7 ∧ i = .int .i64 p ∧ IsMap wr b vs cs ∧ Blk wr hb (hcells vs) TAB ∧ Below w.heap.size w wr) (fun i _ => 7 - (intOf i).toNat)
      case atStart => exact ⟨0, by omega, rfl, HM.out, HH.out, HF.out⟩
      case round =>
        clear HM HF HH
        obtain ⟨p, hp, rfl, hm, hh, hf⟩ := hrel
        have HM := hid hm; have HF := hid hf; have HH := hid hh; clear hm hf hh
        by_cases hp7 : p < 7
        · have hpi : (p : Int) < 7 := by omega
          have HP7 := hid hp7
          have HPL := hid (page_len vs cs p)
          clear hp hp7
          go_wp2_with (first
            | (go_at_call 11; (with_reducible refine (Page_of HM.out (p : Int) p rfl (by have := HP7.out; omega)).mono ?_); rintro e wp ⟨g1, rfl, _, h1, f'⟩; have HI := hid h1; have n0_ := hid (HM.out.frm f' (fun h => h)); have n1_ := hid (HH.out.frm f' (fun h => h)); have n2_ := hid (below_frm0 HF.out f'); clear HM HH HF; have HM := n0_; clear n0_; have HH := n1_; clear n1_; have HF := n2_; clear n2_; clear f' h1))
          have HPE := hid (pageB_lt vs cs HP7.out)
          obtain ⟨N, hN⟩ : ∃ N, (pageB vs cs p).length = N := ⟨_, rfl⟩
          have hN45 : (N : Int) ≤ 45 := by have := HPL.out; omega
          have HN := hid hN
          rw [hN]
          clear hN
          go_loopw [9, 10] (fun at_ i wr => ∃ (j A : Nat), j ≤ pcount p ∧ at_ = .int .i64 (A : Int) ∧ (pvals vs p j).length = A ∧ i = .int .i64 ((p + 7 * j : Nat) : Int) ∧ wr = wp) (fun _ i _ => 64 - (intOf i).toNat)
          case atStart => exact ⟨0, 0, by omega, by simp, rfl, by simp, rfl⟩
          case round =>
            obtain ⟨j, A, hj, rfl, hA, rfl, rfl⟩ := hrel
            by_cases hlt : p + 7 * j < 64
            · have hjp : j < pcount p := by unfold pcount; have := HP7.out; omega
              have qh := hcell_at HH.out HLV.out hlt
              have hor := or_getD HO.out (p + 7 * j)
              have hkey := fun h => key_at (vs := vs) HP7.out hjp h
              have hnone := fun h => key_none (vs := vs) (p := p) (j := j) h
              rw [hA] at hkey
              have hn1 : ((p + 7 * (j + 1) : Nat) : Int) = ((p + 7 * j : Nat) : Int) + 7 := by omega
              have HA := hid hA; have HJ := hid hjp; clear hA hjp hj
              obtain ⟨K, hK⟩ : ∃ K, p + 7 * j = K := ⟨_, rfl⟩
              rw [hK] at hlt qh hor hkey hnone hn1 ⊢
              have HN1 := hid hn1; clear hn1 hK
              have hKi : (K : Int) < 64 := by omega
              have hK0 : (0 : Int) ≤ (K : Int) := by omega
              have e8 : IntKind.u8.wrap (K : Int) = (K : Int) := by simp only [IntKind.wrap, IntKind.bits, IntKind.signed]; simp; omega
              rcases hor with hv | hv
              · have hq : decide (vs.getD K 0 ≠ 0) = false := by rw [hv]; decide
                rw [hq] at qh
                have HNO := hid (hnone hv); clear hnone hkey hv hq
                go_wp2
                go_roundw
                case rel => exact ⟨j + 1, A, by have := HJ.out; omega, rfl, by rw [HNO.out]; exact HA.out, by first | (rw [HN1.out]; done) | (rw [HN1.out]; go_num), by first | rfl | trivial⟩
                case measure => simp [intOf]; omega
              · have hq : decide (vs.getD K 0 ≠ 0) = true := by rw [hv]; decide
                rw [hq] at qh
                obtain ⟨k1, k2, k3, k4, k5⟩ := hkey hv
                rw [← HPE.out] at k1 k2 k3 k4
                have hci := HI.out.at_
                obtain ⟨g', o', e', _, hcell⟩ := hci (by omega)
                cases e'
                have r0 := hcell A (by omega)
                have r1 := hcell (A + 1) (by omega)
                have r2 := hcell (A + 2) (by omega)
                rw [k2, Nat.zero_add] at r0
                rw [k3, Nat.zero_add] at r1
                rw [k4, Nat.zero_add] at r2
                have hAN : (A : Int) + 3 ≤ (N : Int) := by have := HN.out; omega
                have hA0 : (A : Int) < (N : Int) := by omega
                have hA1 : (A : Int) + 1 < (N : Int) := by omega
                have hA2 : (A : Int) + 2 < (N : Int) := by omega
                have HK5 := hid k5; clear hnone hkey hv hq hci hcell k1 k2 k3 k4 k5
                go_wp2
                go_roundw
                case rel => exact ⟨j + 1, A + 3, by have := HJ.out; omega, by go_num, HK5.out, by first | (rw [HN1.out]; done) | (rw [HN1.out]; go_num), by first | rfl | trivial⟩
                case measure => simp [intOf]; omega
            · have hge : 64 ≤ ((p + 7 * j : Nat) : Int) := by omega
              have hje : j = pcount p := by unfold pcount at hj ⊢; have := HP7.out; omega
              have hAN : A = N := by rw [← hA, hje, ← HPE.out]; exact HN.out
              subst hAN
              obtain ⟨K, hK⟩ : ∃ K, p + 7 * j = K := ⟨_, rfl⟩
              rw [hK] at hlt hge ⊢
              clear hlt hje hA hK hj
              go_wp2
              go_roundw
              case rel => exact ⟨p + 1, by have := HP7.out; omega, by go_num, HM.out, HH.out, HF.out⟩
              case measure => simp [intOf]; have := HP7.out; omega
        · obtain rfl : p = 7 := by omega
          clear hp hp7
          have HE := hid (show pageB vs cs 7 = [] by rw [pageB, if_pos rfl, HCS.out]; decide)
          go_wp2_with (first
            | (go_at_call 11; (with_reducible refine (Page_of HM.out 7 7 rfl (by decide)).mono ?_); rintro e w' ⟨g1, rfl, _, h1, f'⟩; (rw [HE.out]); have n0_ := hid (below_frm0 HF.out f'); clear HF; have HF := n0_; clear n0_; clear f' h1))
          go_ret
          exact ⟨rfl, HF.out⟩
end Go.Proofs.Ytbjkdikiomhmgaa
