/- FetchRepairs, walked: whatever map one has, with the right sums and the right pages of what is wanted it is the right one, in whatever order they come. -/
import Derived.Test.YtfdmneefobfldaaFetKnown
namespace Go.Proofs.Ytfdmneefobfldaa
open Go.RowKit Go.ChangeShapes
set_option linter.unusedVariables false
set_option linter.unusedSimpArgs false
set_option maxRecDepth 20000
theorem rep_mem {wl : List Bool} {p : Int} (h : p ∈ wants wl) : ∃ q : Nat, p = (q : Int) ∧ q < 8 ∧ wl.getD q false = true := by
  unfold wants at h
  obtain ⟨k, hk, rfl⟩ := List.mem_map.1 h
  have := List.mem_filter.1 hk
  exact ⟨k, rfl, List.mem_range.1 this.1, this.2⟩
theorem wantsN_cut (wl : List Bool) (p : Nat) (hp : p < wl.length) (hw : wl.getD p false = true) (n : Nat) : (wantsN (wl.set p false) n).length + (if p < n then 1 else 0) = (wantsN wl n).length := by
  induction n with
  | zero => rfl
  | succ n ih =>
    rw [wantsN_succ, wantsN_succ, List.length_append, List.length_append, bool_set_getD _ _ _ _ hp]
    by_cases h : n = p
    · subst h
      rw [if_neg (Nat.lt_irrefl _)] at ih
      rw [if_pos rfl, if_pos (Nat.lt_succ_self _), hw, if_pos rfl]
      simp only [Bool.false_eq_true, if_false, List.length_nil, List.length_singleton]
      omega
    · rw [if_neg h]
      by_cases h2 : p < n
      · rw [if_pos h2] at ih; rw [if_pos (show p < n + 1 by omega)]; omega
      · rw [if_neg h2] at ih; rw [if_neg (show ¬ p < n + 1 by omega)]; omega
theorem wants_cut {wl : List Bool} {p : Nat} (h8 : wl.length = 8) (hp : p < 8) (hw : wl.getD p false = true) : (wants (wl.set p false)).length + 1 = (wants wl).length := by
  have := wantsN_cut wl p (by omega) hw 8
  rw [if_pos hp] at this
  exact this
theorem wants_nil {wl : List Bool} (h : (wants wl).length = 0) (p : Nat) (hp : p < 8) : wl.getD p false = false := by
  cases hw : wl.getD p false with
  | false => rfl
  | true =>
    have hm : (p : Int) ∈ wants wl := List.mem_map.2 ⟨p, List.mem_filter.2 ⟨List.mem_range.2 hp, hw⟩, rfl⟩
    rw [List.eq_nil_of_length_eq_zero h] at hm
    cases hm
theorem sumsL_at (vs cs : List Int) {q : Nat} (hq : q < 8) : (sumsL vs cs).getD q 0 = leafS (q : Int) (pageB vs cs q) := by
  rcases (show q = 0 ∨ q = 1 ∨ q = 2 ∨ q = 3 ∨ q = 4 ∨ q = 5 ∨ q = 6 ∨ q = 7 by omega) with rfl | rfl | rfl | rfl | rfl | rfl | rfl | rfl <;> rfl
theorem rep_pageB (vs cs : List Int) {p : Nat} (hp : p < 7) : pageB vs cs p = pvals vs p (pcount p) := by rw [pageB, if_neg (by omega)]
/-- What isn't wanted has its sum. -/
def Fine (zs cs S : List Int) (wl : List Bool) : Prop := ∀ q, q < 8 → wl.getD q false = false → (sumsL zs cs).getD q 0 = S.getD q 0
theorem Fine.start {vs us cs : List Int} : Fine vs cs (sumsL us cs) (setT (unl (sumsL vs cs) (sumsL us cs) 8)) := fun q hq hw => by
  rw [setT_unl _ _ 8 (Nat.le_refl _) q] at hw
  have h := of_decide_eq_false hw
  refine Decidable.byContradiction fun hne => h ⟨hq, .inr (.inr hne)⟩
theorem seven {vs us cs : List Int} : (setT (unl (sumsL vs cs) (sumsL us cs) 8)).getD 7 false = false := by
  rw [setT_unl _ _ 8 (Nat.le_refl _) 7]
  refine decide_eq_false fun h => ?_
  rcases h.2 with h | h | h
  · exact h rfl
  · exact h rfl
  · exact h rfl
theorem Fine.load {zs us cs S : List Int} {wl : List Bool} (h : Fine zs cs S wl) (hz : zs.length = 64) (hS : sumsL us cs = S) (h8 : wl.length = 8) {p : Nat} (hp : p < 7) : Fine (loadV zs us p) cs S (wl.set p false) := fun q hq hw => by
  rw [sumsL_at _ _ hq]
  by_cases hqp : q = p
  · subst hqp
    rw [page_loaded hz hp, ← hS, sumsL_at _ _ hq, rep_pageB _ _ hp]
  · rw [page_others hz hp q hq hqp, ← sumsL_at _ _ hq]
    rw [bool_set_getD _ _ _ _ (by omega), if_neg hqp] at hw
    exact h q hq hw
theorem Fine.done {zs cs S : List Int} {wl : List Bool} (h : Fine zs cs S wl) (hS : S.length = 8) (hw : (wants wl).length = 0) : sumsL zs cs = S :=
  list_ext_getD hS.symm (fun q hq => h q hq (wants_nil hw q hq))
def lenOf : Value → Nat | .slice _ l _ => l | _ => 0
theorem cell_notFe {w : World} {fb mb g c : Nat} {sq root : Int} {vs cs S : List Int} {wl : List Bool} (h : IsFe1 w fb mb g c sq root vs cs S wl) {k i : Nat} {v : Int} (hc : w.cell? ⟨k, i, none⟩ = some (.int .i64 v)) : k ≠ fb ∧ k ≠ mb := by
  constructor
  · rintro rfl
    rw [h.blk.cell] at hc
    have hm := List.mem_of_getElem? hc
    simp only [fcells, List.mem_cons, List.mem_map] at hm
    rcases hm with e | e | e | e | ⟨_, _, e⟩ <;> cases e
  · rintro rfl
    rw [h.map.blk.cell] at hc
    have hm := List.mem_of_getElem? hc
    simp only [pcells, List.mem_append, List.mem_map] at hm
    rcases hm with ⟨_, _, e⟩ | ⟨_, _, e⟩ <;> cases e
theorem cell_notMap {w : World} {b : Nat} {vs cs : List Int} (h : IsMap w b vs cs) {k i : Nat} {v : Int} (hc : w.cell? ⟨k, i, none⟩ = some (.int .i64 v)) : k ≠ b := by
  rintro rfl
  rw [h.blk.cell] at hc
  have hm := List.mem_of_getElem? hc
  simp only [pcells, List.mem_append, List.mem_map] at hm
  rcases hm with ⟨_, _, e⟩ | ⟨_, _, e⟩ <;> cases e
theorem unl_self' (S : List Int) (h : S.length = 8) : (unl S S 8).length = 0 := by
  unfold unl
  rw [List.length_map, List.length_eq_zero_iff, List.filter_eq_nil_iff]
  intro a _
  simp [h]
set_option maxRecDepth 100000 in
set_option maxHeartbeats 16000000 in
theorem FetchRepairs_walk (a0 : Option Addr) (c0 : Nat) (z0 : List Int) (a1 : Option Addr) (c1 : Nat) (z1 : List Int) (a2 : Option Addr) (c2 : Nat) (z2 : List Int) (w : World) (h0 : IsInts .u8 w a0 c0 z0) (h1 : IsInts .u8 w a1 c1 z1) (h2 : IsInts .u8 w a2 c2 z2) :
    Calls Try.prog 3 #[.slice a0 z0.length c0, .slice a1 z1.length c1, .slice a2 z2.length c2] w fun e w' => e = .returned (.bool true) ∧ Below w.heap.size w w' := by
  have hle := h0.le
  have hsm := h0.small
  have hle1 := h1.le
  have hsm1 := h1.small
  have hle2 := h2.le
  have hsm2 := h2.small
  by_cases hlen : z0.length > 60
  · go_enter Try.func3, Try.ntmps3
    go_wp2_with (go_at_call 6; (with_reducible refine (known_calls _).mono ?_); rintro e w' ⟨rfl, f1⟩)
    go_ret
    exact ⟨rfl, f1⟩
  by_cases hlen1 : z1.length > 60
  · go_enter Try.func3, Try.ntmps3
    go_wp2_with (go_at_call 6; (with_reducible refine (known_calls _).mono ?_); rintro e w' ⟨rfl, f1⟩)
    go_ret
    exact ⟨rfl, f1⟩
  by_cases hlen2 : z2.length > 30
  · go_enter Try.func3, Try.ntmps3
    go_wp2_with (go_at_call 6; (with_reducible refine (known_calls _).mono ?_); rintro e w' ⟨rfl, f1⟩)
    go_ret
    exact ⟨rfl, f1⟩
  have H0 := hid h0; have H1 := hid h1; have H2 := hid h2; clear h0 h1 h2
  obtain ⟨cs, hcs⟩ : ∃ cs, cs = List.replicate 10 (0 : Int) := ⟨_, rfl⟩
  have HCS := hid hcs; clear hcs
  go_enter Try.func3, Try.ntmps3
  go_wp2_with (first
    | (go_at_call 6; (with_reducible refine (known_calls _).mono ?_); rintro e w1 ⟨rfl, f1⟩; have HF := hid f1; clear f1)
    | (go_at_call 7; (with_reducible refine (PNew_calls w1).mono ?_); rintro e w2 ⟨rfl, h', f'⟩; have HB := hid HF.out.size; have HA := hid (HCS.out ▸ h'); have n0_ := hid (below_next HF.out f'); clear HF; have HF := n0_; clear n0_; clear f' h')
    | (go_at_call 7; (with_reducible refine (PNew_calls _).mono ?_); rintro e w3 ⟨rfl, h', f'⟩; have HAL := hid HA.out.blk.lt; have HCB := hid HF.out.size; have HM := hid (HCS.out ▸ h'); have n0_ := hid (HA.out.frm (frm0_of f') (fun h => h)); have n1_ := hid (below_next HF.out f'); clear HA HF; have HA := n0_; clear n0_; have HF := n1_; clear n1_; clear f' h'))
  have HNE := hid (Nat.ne_of_lt HAL.out)
  generalize hba : w1.heap.size = ba at *
  generalize hbb : w2.heap.size = bb at *
  clear hba hbb HAL
  go_loopw [9] (fun i wr => ∃ (k : Nat) (xs : List Int), k ≤ z0.length ∧ i = .int .i64 k ∧ IsMap wr ba xs cs ∧ IsMap wr bb (List.replicate 64 0) cs ∧ Below w.heap.size w wr) (fun i _ => z0.length - (intOf i).toNat)
  case atStart => exact ⟨0, _, by omega, rfl, HA.out, HM.out, HF.out⟩
  case round =>
    clear HM HF HA
    obtain ⟨k, vs, hk, rfl, ha, hm, hf⟩ := hrel
    have HA := hid ha; have HM := hid hm; have HF := hid hf; clear ha hm hf
    by_cases hlt : k < z0.length
    · obtain ⟨ga, oa, rfl, hga, hca⟩ := H0.out.at_ (by omega)
      have hxa := hca k hlt
      have wfa : (Lit.int .u8 (z0.getD k 0)).wf = true := H0.out.wf _ (by rw [List.getD_eq_getElem?_getD, List.getElem?_eq_getElem hlt]; exact List.getElem_mem hlt)
      generalize z0.getD k 0 = x at hxa wfa
      have hx := bounds_u8 wfa
      have q0 := (HF.out.cell (p := ⟨ga, oa + k, none⟩) hga).trans hxa
      have hkl : (k : Int) < (z0.length : Int) := by omega
      have hk80 : (k : Int) ≤ 60 := by omega
      have e1 : IntKind.u16.wrap (k : Int) = (k : Int) := by simp [IntKind.wrap, IntKind.bits, IntKind.signed]; omega
      have e2 : IntKind.u16.wrap ((k : Int) + 1) = (k : Int) + 1 := by simp [IntKind.wrap, IntKind.bits, IntKind.signed]; omega
      have HX := hid hx
      have HK := hid (show 0 ≤ (k : Int) + 1 ∧ (k : Int) + 1 ≤ 65535 by omega)
      clear hca wfa hxa hga
      go_wp2_with (first
        | (go_at_call 8; (with_reducible refine (PPut_calls HA.out x HX.out.1 ((k : Int) + 1) HK.out _ rfl).mono ?_); rintro e w' ⟨rfl, h', f'⟩; have n0_ := hid (h'); have n1_ := hid (HM.out.frm f' (fun e => HNE.out e.symm)); have n2_ := hid (below_frm1 HF.out f' HB.out); clear HA HM HF; have HA := n0_; clear n0_; have HM := n1_; clear n1_; have HF := n2_; clear n2_; clear f' h' q0))
      go_roundw
      case rel => exact ⟨k + 1, _, by omega, by go_num, HA.out, HM.out, HF.out⟩
      case measure => simp [intOf]; omega
    · have hkl : (z0.length : Int) ≤ (k : Int) := by omega
      obtain rfl : k = z0.length := by omega
      clear hlt hk
      go_wp2
      go_loopw [10] (fun i wr => ∃ (k : Nat) (xs : List Int), k ≤ z1.length ∧ i = .int .i64 k ∧ IsMap wr ba vs cs ∧ IsMap wr bb xs cs ∧ Below w.heap.size w wr) (fun i _ => z1.length - (intOf i).toNat)
      case atStart => exact ⟨0, _, by omega, rfl, HA.out, HM.out, HF.out⟩
      case round =>
        clear HM HF HA
        obtain ⟨k, us, hk, rfl, ha, hm, hf⟩ := hrel
        have HA := hid ha; have HM := hid hm; have HF := hid hf; clear ha hm hf
        by_cases hlt : k < z1.length
        · obtain ⟨ga, oa, rfl, hga, hca⟩ := H1.out.at_ (by omega)
          have hxa := hca k hlt
          have wfa : (Lit.int .u8 (z1.getD k 0)).wf = true := H1.out.wf _ (by rw [List.getD_eq_getElem?_getD, List.getElem?_eq_getElem hlt]; exact List.getElem_mem hlt)
          generalize z1.getD k 0 = x at hxa wfa
          have hx := bounds_u8 wfa
          have q0 := (HF.out.cell (p := ⟨ga, oa + k, none⟩) hga).trans hxa
          have hkl : (k : Int) < (z1.length : Int) := by omega
          have hk80 : (k : Int) ≤ 60 := by omega
          have e1 : IntKind.u16.wrap (k : Int) = (k : Int) := by simp [IntKind.wrap, IntKind.bits, IntKind.signed]; omega
          have e2 : IntKind.u16.wrap ((k : Int) + 1) = (k : Int) + 1 := by simp [IntKind.wrap, IntKind.bits, IntKind.signed]; omega
          have HX := hid hx
          have HK := hid (show 0 ≤ (k : Int) + 1 ∧ (k : Int) + 1 ≤ 65535 by omega)
          clear hca wfa hxa hga
          go_wp2_with (first
            | (go_at_call 8; (with_reducible refine (PPut_calls HM.out x HX.out.1 ((k : Int) + 1) HK.out _ rfl).mono ?_); rintro e w' ⟨rfl, h', f'⟩; have n0_ := hid (h'); have n1_ := hid (HA.out.frm f' (fun e => HNE.out e)); have n2_ := hid (below_frm1 HF.out f' HCB.out); clear HM HA HF; have HM := n0_; clear n0_; have HA := n1_; clear n1_; have HF := n2_; clear n2_; clear f' h' q0))
          go_roundw
          case rel => exact ⟨k + 1, _, by omega, by go_num, HA.out, HM.out, HF.out⟩
          case measure => simp [intOf]; omega
        · have hkl : (z1.length : Int) ≤ (k : Int) := by omega
          obtain rfl : k = z1.length := by omega
          clear hlt hk
          obtain ⟨S, hS⟩ : ∃ S, sumsL us cs = S := ⟨_, rfl⟩
          have hS8 : S.length = 8 := by rw [← hS]; rfl
          obtain ⟨R, hR⟩ : ∃ R, rootS S = R := ⟨_, rfl⟩
          have HRR := hid (show rootS (sumsL us cs) = R by rw [hS, hR])
          have HS := hid hS; have HS8 := hid hS8; have HR := hid hR
          obtain ⟨X, hX⟩ : ∃ S, sumsL vs cs = S := ⟨_, rfl⟩
          have HX := hid hX
          have HX8 := hid (show X.length = 8 by rw [← hX]; rfl)
          obtain ⟨wl0, hwl⟩ : ∃ wl, setT (unl X S 8) = wl := ⟨_, rfl⟩
          have HWL := hid hwl
          have HUW := hid (show unl X S 8 = wants wl0 by rw [← hwl, wants_setT])
          have HFINE := hid (show Fine vs cs S wl0 by rw [← hwl, ← hX, ← hS]; exact Fine.start)
          have H7 := hid (show wl0.getD 7 false = false by rw [← hwl, ← hX, ← hS]; exact seven)
          have HW8 := hid (show (wants wl0).length ≤ 8 from wantsN_len wl0 8)
          have HU0 := hid (unl_self' S hS8)
          clear hS hS8 hR hX hwl
          go_wp2_with (first
            | (go_at_call 10; (with_reducible refine (Of_calls HM.out R HRR.out).mono ?_); rintro e w' ⟨rfl, f'⟩; have n0_ := hid (HA.out.frm f' (fun h => h)); have n1_ := hid (HM.out.frm f' (fun h => h)); have n2_ := hid (below_frm0 HF.out f'); clear HA HM HF; have HA := n0_; clear n0_; have HM := n1_; clear n1_; have HF := n2_; clear n2_; clear f')
            | (go_at_call 9; (with_reducible refine (FNew_calls HA.out 4 R).mono ?_); rintro e w' ⟨fb, mb, rfl, hfb, hmb, he, f'⟩; have HFB := hid (Nat.le_trans HF.out.size hfb); have HMB := hid (Nat.le_trans HF.out.size hmb); have HE := hid he; have HFM := hid (show fb ≠ bb from fun e => by have := HM.out.blk.lt; omega); have HMM := hid (show mb ≠ bb from fun e => by have := HM.out.blk.lt; omega); have HFA := hid (show fb ≠ ba from fun e => by have := HA.out.blk.lt; omega); have n0_ := hid (HA.out.frm (frm0_of f') (fun h => h)); have n1_ := hid (HM.out.frm (frm0_of f') (fun h => h)); have n2_ := hid (below_next HF.out f'); clear HA HM HF; have HA := n0_; clear n0_; have HM := n1_; clear n1_; have HF := n2_; clear n2_; clear f' he hfb hmb)
            | (go_at_call 12; (with_reducible refine (Page_of HM.out 0 0 rfl (by decide)).mono ?_); rintro e w' ⟨g1, rfl, _, h1, f'⟩; have n0_ := hid (HA.out.frm f' (fun h => h)); have n1_ := hid (HM.out.frm f' (fun h => h)); have n2_ := hid (HE.out.quiet f'); have n3_ := hid (below_frm0 HF.out f'); clear HA HM HE HF; have HA := n0_; clear n0_; have HM := n1_; clear n1_; have HE := n2_; clear n2_; have HF := n3_; clear n3_; clear f'; clear h1)
            | (go_at_call 11; (with_reducible refine (FPage_none0P HE.out 0 0 rfl (by decide) _ _ _).mono ?_); rintro e w' ⟨rfl, rfl⟩; skip)
            | (go_at_call 14; have tokA := HIB1; (with_reducible refine (Sums_calls HA.out X HX.out).mono ?_); rintro e w' ⟨ga, rfl, hg, hI, f'⟩; have HIA := hid hI; have n0_ := hid (HA.out.frm f' (fun h => h)); have n1_ := hid (HM.out.frm f' (fun h => h)); have n2_ := hid (HE1.out.quiet f'); have n3_ := hid (below_frm0 HF.out f'); clear HA HM HE1 HF; have HA := n0_; clear n0_; have HM := n1_; clear n1_; have HE1 := n2_; clear n2_; have HF := n3_; clear n3_; clear f'; clear hg hI)
            | (go_at_call 14; have tokB := HIA; (with_reducible refine (Sums_calls HM.out S HS.out).mono ?_); rintro e w' ⟨gs2, rfl, hg, hI, f'⟩; have HIB2 := hid hI; have n0_ := hid (HIA.out.frm f' (fun _ _ h => h)); clear HIA; have HIA := n0_; clear n0_; have n0_ := hid (HA.out.frm f' (fun h => h)); have n1_ := hid (HM.out.frm f' (fun h => h)); have n2_ := hid (HE1.out.quiet f'); have n3_ := hid (below_frm0 HF.out f'); clear HA HM HE1 HF; have HA := n0_; clear n0_; have HM := n1_; clear n1_; have HE1 := n2_; clear n2_; have HF := n3_; clear n3_; clear f'; clear hg hI)
            | (go_at_call 15; (with_reducible refine (Unlike_calls 8 8 HIA.out HIB2.out HX8.out HS8.out).mono ?_); rintro e w' ⟨ua, uc, rfl, hu, f'⟩; (rw [HUW.out]); have n0_ := hid (HA.out.frm f' (fun h => h)); have n1_ := hid (HM.out.frm f' (fun h => h)); have n2_ := hid (HE1.out.quiet f'); have n3_ := hid (below_frm0 HF.out f'); clear HA HM HE1 HF; have HA := n0_; clear n0_; have HM := n1_; clear n1_; have HE1 := n2_; clear n2_; have HF := n3_; clear n3_; clear f'; clear hu)
            | (go_at_call 13; (with_reducible refine (FSums_ok HE.out HIB.out HS8.out rfl HR.out X HX.out).mono ?_); rintro e w' ⟨g, c, rfl, he, f', hg⟩; (rw [HWL.out] at he); have HE1 := hid he; have n0_ := hid (HA.out.frm f' (fun e => HFA.out e.symm)); have n1_ := hid (HM.out.frm f' (fun e => HFM.out e.symm)); have n2_ := hid (below_frm1 HF.out f' HFB.out); clear HA HM HF; have HA := n0_; clear n0_; have HM := n1_; clear n1_; have HF := n2_; clear n2_; clear f' he hg HE)
            | (go_at_call 14; have tokC := HE; (with_reducible refine (Sums_calls HM.out S HS.out).mono ?_); rintro e w' ⟨gs, rfl, hg, hI, f'⟩; have HIB := hid hI; have n0_ := hid (HA.out.frm f' (fun h => h)); have n1_ := hid (HM.out.frm f' (fun h => h)); have n2_ := hid (HE.out.quiet f'); have n3_ := hid (below_frm0 HF.out f'); clear HA HM HE HF; have HA := n0_; clear n0_; have HM := n1_; clear n1_; have HE := n2_; clear n2_; have HF := n3_; clear n3_; clear f'; clear hg hI)
            | (go_at_call 13; have tokD := HE1; (with_reducible refine (FSums_none HE1.out _ _ _).mono ?_); rintro e w' ⟨rfl, rfl⟩; skip)
            | (go_at_call 14; have tokE := HE1; (with_reducible refine (Sums_calls HM.out S HS.out).mono ?_); rintro e w' ⟨gs1, rfl, hg, hI, f'⟩; have HIB1 := hid hI; have n0_ := hid (HA.out.frm f' (fun h => h)); have n1_ := hid (HM.out.frm f' (fun h => h)); have n2_ := hid (HE1.out.quiet f'); have n3_ := hid (below_frm0 HF.out f'); clear HA HM HE1 HF; have HA := n0_; clear n0_; have HM := n1_; clear n1_; have HE1 := n2_; clear n2_; have HF := n3_; clear n3_; clear f'; clear hg hI)
            | (go_at_call 16; (with_reducible refine (Wants1_calls HE1.out).mono ?_); rintro e w' ⟨la, lc, rfl, hi, f'⟩; have HLI := hid hi; have n0_ := hid (HA.out.frm f' (fun h => h)); have n1_ := hid (HM.out.frm f' (fun h => h)); have n2_ := hid (HE1.out.quiet f'); have n3_ := hid (below_frm0 HF.out f'); clear HA HM HE1 HF; have HA := n0_; clear n0_; have HM := n1_; clear n1_; have HE1 := n2_; clear n2_; have HF := n3_; clear n3_; clear f'; clear hi))
          go_loopw [13, 14] (fun v i wr => ∃ (k : Nat) (wl : List Bool) (zs : List Int) (a : Option Addr) (c' : Nat), v = .slice a (wants wl).length c' ∧ i = .int .i64 k ∧ k + (wants wl).length ≤ 8 ∧ Fine zs cs S wl ∧ wl.getD 7 false = false ∧ IsMap wr bb us cs ∧ IsFe1 wr fb mb g c 4 R zs cs S wl ∧ IsInts .i64 wr a c' (wants wl) ∧ Below w.heap.size w wr) (fun v _ _ => lenOf v)
          case atStart => exact ⟨0, wl0, vs, la, lc, rfl, rfl, by have := HW8.out; omega, HFINE.out, H7.out, HM.out, HE1.out, HLI.out, HF.out⟩
          case round =>
            clear HM HF HE1 HLI HFINE H7 HA
            obtain ⟨k, wl, zs, a, c', rfl, rfl, hkn, hfi, h7, hm, he, hl, hf⟩ := hrel
            have HFI := hid hfi; have H7 := hid h7; have HM := hid hm; have HE1 := hid he; have HLI := hid hl; have HF := hid hf; clear hfi h7 hm he hl hf
            by_cases hn0 : 0 < (wants wl).length
            · have HN0 := hid (show (wants wl).length ≠ 0 by omega)
              by_cases hko : k < z2.length
              · obtain ⟨gc, oc, rfl, hgc, hcc⟩ := H2.out.at_ (by omega)
                have hxc := hcc k hko
                have wfc : (Lit.int .u8 (z2.getD k 0)).wf = true := H2.out.wf _ (by rw [List.getD_eq_getElem?_getD, List.getElem?_eq_getElem hko]; exact List.getElem_mem hko)
                generalize z2.getD k 0 = x at hxc wfc
                have hx := bounds_u8 wfc
                have q9 := (HF.out.cell (p := ⟨gc, oc + k, none⟩) hgc).trans hxc
                obtain ⟨q, hq⟩ := Int.eq_ofNat_of_zero_le (Int.emod_nonneg x (show ((wants wl).length : Int) ≠ 0 by omega))
                have hqn : q < (wants wl).length := by have := Int.emod_lt_of_pos x (show (0 : Int) < ((wants wl).length : Int) by omega); omega
                have hkz : (k : Int) < (z2.length : Int) := by omega
                clear hcc wfc hxc hgc
                obtain ⟨ub, uo, rfl, hub, hcell⟩ := HLI.out.at_ (by omega)
                have r0 := hcell q hqn
                obtain ⟨p, hpe, hp8, hwp⟩ := rep_mem (list_getD_mem hqn)
                rw [hpe] at r0
                have hp7 : p < 7 := by
                  rcases (show p < 7 ∨ p = 7 by omega) with h | rfl
                  · exact h
                  · rw [H7.out] at hwp; cases hwp
                obtain ⟨n, hn⟩ : ∃ n, (wants wl).length = n := ⟨_, rfl⟩
                have HN := hid hn
                obtain ⟨zs', hz⟩ : ∃ z, loadV zs us p = z := ⟨_, rfl⟩
                have HZ := hid hz
                have HUS := hid HM.out.bv
                have HPE := hid (rep_pageB us cs hp7)
                have HLS := hid (show leafS (p : Int) (pageB us cs p) = S.getD p 0 by rw [← HS.out, sumsL_at us cs hp8])
                have HFI2 := hid (show Fine zs' cs S (wl.set p false) from hz ▸ HFI.out.load HE1.out.map.lv HS.out HE1.out.lw hp7)
                have H72 := hid (show (wl.set p false).getD 7 false = false by rw [bool_set_getD _ _ _ _ (by rw [HE1.out.lw]; omega)]; split; rfl; exact H7.out)
                have HCUT := hid (wants_cut HE1.out.lw hp8 hwp)
                have HSET := hid (show (wl.set p false).getD p false = false by rw [bool_set_getD _ _ _ _ (by rw [HE1.out.lw]; omega), if_pos rfl])
                have hcf := cell_notFe HE1.out r0
                have HCF := hid hcf.1; have HCM := hid hcf.2
                have HC := hid r0
                have HP7 := hid hp7; have HWP := hid hwp
                have hpi : (p : Int) < 8 := by omega
                have hp0 : 0 ≤ (p : Int) := by omega
                have e1 : IntKind.u8.wrap (p : Int) = (p : Int) := by simp only [IntKind.wrap, IntKind.bits, IntKind.signed]; simp; omega
                rw [hn] at hqn hkn hn0 ⊢
                have HQN := hid hqn; have HKN := hid hkn; have HNL := hid (show 0 < n by omega)
                have hqi : (q : Int) < (n : Int) := by omega
                have hni : (0 : Int) < (n : Int) := by omega
                have hn8 : (n : Int) ≤ 8 := by omega
                have hki : (k : Int) ≤ 8 := by omega
                rw [hn] at hq
                clear hcell hpe hp8 hwp hp7 hz hcf hn hub hqn hkn hn0 r0
                go_wp2_with (first
                  | (go_at_call 17; (with_reducible refine (Done_no HE1.out HN0.out).mono ?_); rintro e w' ⟨rfl, f'⟩; have n0_ := hid ((f'.cell (World.block_lt_of_cell? _ _ HC.out) (fun h => h)).trans HC.out); clear HC; have HC := n0_; clear n0_; have n0_ := hid (HM.out.frm f' (fun h => h)); have n1_ := hid (HE1.out.quiet f'); have n2_ := hid (below_frm0 HF.out f'); clear HM HE1 HF; have HM := n0_; clear n0_; have HE1 := n1_; clear n1_; have HF := n2_; clear n2_; clear f'))
                have s0 := HC.out
                have n0_ := hid (((frm_drew _).cell (World.block_lt_of_cell? _ _ HC.out) (fun h => h)).trans HC.out); have n1_ := hid (HM.out.frm (frm_drew _) (fun h => h)); have n2_ := hid (HE1.out.quiet (frm_drew _)); have n3_ := hid (bdrew HF.out); clear HC HM HE1 HF; have HC := n0_; clear n0_; have HM := n1_; clear n1_; have HE1 := n2_; clear n2_; have HF := n3_; clear n3_
                go_region_held3 (fun wx => wx.cell? ⟨ub, uo + q, none⟩ = some (.int .i64 (p : Int))) (first | go_keep | exact s0) (first
                  | (go_at_call 12; have tokF := HE2; (with_reducible refine (Page_of HM.out (p : Int) p rfl (by have := HP7.out; omega)).mono ?_); rintro e w' ⟨g2, rfl, _, h1, f'⟩; have n0_ := hid ((f'.cell (World.block_lt_of_cell? _ _ HC.out) (fun h => h)).trans HC.out); have n1_ := hid (HM.out.frm f' (fun h => h)); have n2_ := hid (HE2.out.quiet f'); have n3_ := hid (below_frm0 HF.out f'); clear HC HM HE2 HF; have HC := n0_; clear n0_; have HM := n1_; clear n1_; have HE2 := n2_; clear n2_; have HF := n3_; clear n3_; clear f' h1; have s0 := HC.out)
                  | (go_at_call 12; (with_reducible refine (Page_of HM.out (p : Int) p rfl (by have := HP7.out; omega)).mono ?_); rintro e w' ⟨g1, rfl, _, h1, f'⟩; have HI1 := hid h1; have HFQ := hid f'; have n0_ := hid (HM.out.frm f' (fun h => h)); have n1_ := hid (HE1.out.quiet f'); have n2_ := hid (below_frm0 HF.out f'); clear HM HE1 HF; have HM := n0_; clear n0_; have HE1 := n1_; clear n1_; have HF := n2_; clear n2_; clear f'; clear h1; have n0_ := hid ((HFQ.out.cell (World.block_lt_of_cell? _ _ HC.out) (fun h => h)).trans HC.out); clear HC; have HC := n0_; clear n0_; clear HFQ; have s0 := HC.out)
                  | (go_at_call 11; (with_reducible refine (FPage_goodP HE1.out (p : Int) p rfl HP7.out HWP.out HI1.out rfl us HUS.out HPE.out (S.getD p 0) rfl HLS.out zs' HZ.out).mono ?_); rintro e w' ⟨rfl, he, f'⟩; have HE2 := hid he; have n0_ := hid ((f'.cell (World.block_lt_of_cell? _ _ HC.out) (fun e => by rcases e with e | e; exact HCF.out e; exact HCM.out e)).trans HC.out); have n1_ := hid (HM.out.frm f' (fun e => by rcases e with e | e; exact HFM.out e.symm; exact HMM.out e.symm)); have n2_ := hid (below_frm2 HF.out f' HFB.out HMB.out); clear HC HM HF; have HC := n0_; clear n0_; have HM := n1_; clear n1_; have HF := n2_; clear n2_; clear f' he HE1; have s0 := HC.out)
                  | (go_at_call 11; (with_reducible refine (FPage_noneP HE2.out (p : Int) p rfl (by have := HP7.out; omega) HSET.out _ _ _).mono ?_); rintro e w' ⟨rfl, rfl⟩; have s0 := HC.out))
                go_wp2_with ((go_at_call 16; (with_reducible refine (Wants1_calls HE2.out).mono ?_); rintro e w' ⟨la2, lc2, rfl, hi, f'⟩; have HLI2 := hid hi; have n0_ := hid (HM.out.frm f' (fun h => h)); have n1_ := hid (HE2.out.quiet f'); have n2_ := hid (below_frm0 HF.out f'); clear HM HE2 HF; have HM := n0_; clear n0_; have HE2 := n1_; clear n1_; have HF := n2_; clear n2_; clear f' hi))
                go_roundw
                case rel => exact ⟨k + 1, wl.set p false, zs', la2, lc2, rfl, by go_num, by have := HCUT.out; have := HN.out; have := HKN.out; omega, HFI2.out, H72.out, HM.out, HE2.out, HLI2.out, HF.out⟩
                case measure => have := HCUT.out; have := HN.out; simp only [lenOf]; omega
              · have hkz : (z2.length : Int) ≤ (k : Int) := by omega
                obtain ⟨q, hq⟩ : ∃ q, q = 0 := ⟨_, rfl⟩
                have hqn : q < (wants wl).length := by omega
                obtain ⟨ub, uo, rfl, hub, hcell⟩ := HLI.out.at_ (by omega)
                have r0 := hcell q hqn
                obtain ⟨p, hpe, hp8, hwp⟩ := rep_mem (list_getD_mem hqn)
                rw [hpe] at r0
                have hp7 : p < 7 := by
                  rcases (show p < 7 ∨ p = 7 by omega) with h | rfl
                  · exact h
                  · rw [H7.out] at hwp; cases hwp
                obtain ⟨n, hn⟩ : ∃ n, (wants wl).length = n := ⟨_, rfl⟩
                have HN := hid hn
                obtain ⟨zs', hz⟩ : ∃ z, loadV zs us p = z := ⟨_, rfl⟩
                have HZ := hid hz
                have HUS := hid HM.out.bv
                have HPE := hid (rep_pageB us cs hp7)
                have HLS := hid (show leafS (p : Int) (pageB us cs p) = S.getD p 0 by rw [← HS.out, sumsL_at us cs hp8])
                have HFI2 := hid (show Fine zs' cs S (wl.set p false) from hz ▸ HFI.out.load HE1.out.map.lv HS.out HE1.out.lw hp7)
                have H72 := hid (show (wl.set p false).getD 7 false = false by rw [bool_set_getD _ _ _ _ (by rw [HE1.out.lw]; omega)]; split; rfl; exact H7.out)
                have HCUT := hid (wants_cut HE1.out.lw hp8 hwp)
                have HSET := hid (show (wl.set p false).getD p false = false by rw [bool_set_getD _ _ _ _ (by rw [HE1.out.lw]; omega), if_pos rfl])
                have hcf := cell_notFe HE1.out r0
                have HCF := hid hcf.1; have HCM := hid hcf.2
                have HC := hid r0
                have HP7 := hid hp7; have HWP := hid hwp
                have hpi : (p : Int) < 8 := by omega
                have hp0 : 0 ≤ (p : Int) := by omega
                have e1 : IntKind.u8.wrap (p : Int) = (p : Int) := by simp only [IntKind.wrap, IntKind.bits, IntKind.signed]; simp; omega
                rw [hn] at hqn hkn hn0 ⊢
                have HQN := hid hqn; have HKN := hid hkn; have HNL := hid (show 0 < n by omega)
                have hqi : (q : Int) < (n : Int) := by omega
                have hni : (0 : Int) < (n : Int) := by omega
                have hn8 : (n : Int) ≤ 8 := by omega
                have hki : (k : Int) ≤ 8 := by omega
                subst hq
                rw [Nat.add_zero] at r0
                have HC := hid r0
                clear hcell hpe hp8 hwp hp7 hz hcf hn hub hqn hkn hn0 r0
                go_wp2_with (first
                  | (go_at_call 17; (with_reducible refine (Done_no HE1.out HN0.out).mono ?_); rintro e w' ⟨rfl, f'⟩; have n0_ := hid ((f'.cell (World.block_lt_of_cell? _ _ HC.out) (fun h => h)).trans HC.out); clear HC; have HC := n0_; clear n0_; have n0_ := hid (HM.out.frm f' (fun h => h)); have n1_ := hid (HE1.out.quiet f'); have n2_ := hid (below_frm0 HF.out f'); clear HM HE1 HF; have HM := n0_; clear n0_; have HE1 := n1_; clear n1_; have HF := n2_; clear n2_; clear f'))
                have s0 := HC.out
                have n0_ := hid (((frm_drew _).cell (World.block_lt_of_cell? _ _ HC.out) (fun h => h)).trans HC.out); have n1_ := hid (HM.out.frm (frm_drew _) (fun h => h)); have n2_ := hid (HE1.out.quiet (frm_drew _)); have n3_ := hid (bdrew HF.out); clear HC HM HE1 HF; have HC := n0_; clear n0_; have HM := n1_; clear n1_; have HE1 := n2_; clear n2_; have HF := n3_; clear n3_
                go_region_held3 (fun wx => wx.cell? ⟨ub, uo, none⟩ = some (.int .i64 (p : Int))) (first | go_keep | exact s0) (first
                  | (go_at_call 12; have tokF := HE2; (with_reducible refine (Page_of HM.out (p : Int) p rfl (by have := HP7.out; omega)).mono ?_); rintro e w' ⟨g2, rfl, _, h1, f'⟩; have n0_ := hid ((f'.cell (World.block_lt_of_cell? _ _ HC.out) (fun h => h)).trans HC.out); have n1_ := hid (HM.out.frm f' (fun h => h)); have n2_ := hid (HE2.out.quiet f'); have n3_ := hid (below_frm0 HF.out f'); clear HC HM HE2 HF; have HC := n0_; clear n0_; have HM := n1_; clear n1_; have HE2 := n2_; clear n2_; have HF := n3_; clear n3_; clear f' h1; have s0 := HC.out)
                  | (go_at_call 12; (with_reducible refine (Page_of HM.out (p : Int) p rfl (by have := HP7.out; omega)).mono ?_); rintro e w' ⟨g1, rfl, _, h1, f'⟩; have HI1 := hid h1; have HFQ := hid f'; have n0_ := hid (HM.out.frm f' (fun h => h)); have n1_ := hid (HE1.out.quiet f'); have n2_ := hid (below_frm0 HF.out f'); clear HM HE1 HF; have HM := n0_; clear n0_; have HE1 := n1_; clear n1_; have HF := n2_; clear n2_; clear f'; clear h1; have n0_ := hid ((HFQ.out.cell (World.block_lt_of_cell? _ _ HC.out) (fun h => h)).trans HC.out); clear HC; have HC := n0_; clear n0_; clear HFQ; have s0 := HC.out)
                  | (go_at_call 11; (with_reducible refine (FPage_goodP HE1.out (p : Int) p rfl HP7.out HWP.out HI1.out rfl us HUS.out HPE.out (S.getD p 0) rfl HLS.out zs' HZ.out).mono ?_); rintro e w' ⟨rfl, he, f'⟩; have HE2 := hid he; have n0_ := hid ((f'.cell (World.block_lt_of_cell? _ _ HC.out) (fun e => by rcases e with e | e; exact HCF.out e; exact HCM.out e)).trans HC.out); have n1_ := hid (HM.out.frm f' (fun e => by rcases e with e | e; exact HFM.out e.symm; exact HMM.out e.symm)); have n2_ := hid (below_frm2 HF.out f' HFB.out HMB.out); clear HC HM HF; have HC := n0_; clear n0_; have HM := n1_; clear n1_; have HF := n2_; clear n2_; clear f' he HE1; have s0 := HC.out)
                  | (go_at_call 11; (with_reducible refine (FPage_noneP HE2.out (p : Int) p rfl (by have := HP7.out; omega) HSET.out _ _ _).mono ?_); rintro e w' ⟨rfl, rfl⟩; have s0 := HC.out))
                go_wp2_with ((go_at_call 16; (with_reducible refine (Wants1_calls HE2.out).mono ?_); rintro e w' ⟨la2, lc2, rfl, hi, f'⟩; have HLI2 := hid hi; have n0_ := hid (HM.out.frm f' (fun h => h)); have n1_ := hid (HE2.out.quiet f'); have n2_ := hid (below_frm0 HF.out f'); clear HM HE2 HF; have HM := n0_; clear n0_; have HE2 := n1_; clear n1_; have HF := n2_; clear n2_; clear f' hi))
                go_roundw
                case rel => exact ⟨k + 1, wl.set p false, zs', la2, lc2, rfl, by go_num, by have := HCUT.out; have := HN.out; have := HKN.out; omega, HFI2.out, H72.out, HM.out, HE2.out, HLI2.out, HF.out⟩
                case measure => have := HCUT.out; have := HN.out; simp only [lenOf]; omega
            · have hn1 : (wants wl).length = 0 := by omega
              have HSD := hid (HFI.out.done HS8.out hn1)
              have HRD := hid (show rootS (sumsL zs cs) = R by rw [HSD.out]; exact HR.out)
              have HNIL := hid (List.eq_nil_of_length_eq_zero hn1)
              rw [hn1] at hkn ⊢
              clear hn0 hn1
              go_wp2_with (first
                | (go_at_call 17; (with_reducible refine (Done_yes HE1.out HNIL.out).mono ?_); rintro e w' ⟨bd, rfl, h', f'⟩; have HD := hid h'; have n0_ := hid (HM.out.frm (frm0_of f') (fun h => h)); have n1_ := hid (below_next HF.out f'); clear HM HF; have HM := n0_; clear n0_; have HF := n1_; clear n1_; clear f' h')
                | (go_at_call 10; (with_reducible refine (Of_calls HD.out R HRD.out).mono ?_); rintro e w' ⟨rfl, f'⟩; have n0_ := hid (HM.out.frm f' (fun h => h)); have n1_ := hid (HD.out.frm f' (fun h => h)); have n2_ := hid (below_frm0 HF.out f'); clear HM HD HF; have HM := n0_; clear n0_; have HD := n1_; clear n1_; have HF := n2_; clear n2_; clear f')
                | (go_at_call 10; (with_reducible refine (Of_calls HM.out R HRR.out).mono ?_); rintro e w' ⟨rfl, f'⟩; have n0_ := hid (HM.out.frm f' (fun h => h)); have n1_ := hid (HD.out.frm f' (fun h => h)); have n2_ := hid (below_frm0 HF.out f'); clear HM HD HF; have HM := n0_; clear n0_; have HD := n1_; clear n1_; have HF := n2_; clear n2_; clear f')
                | (go_at_call 14; (with_reducible refine (Sums_calls HD.out S HSD.out).mono ?_); rintro e w' ⟨gd, rfl, hg, hI, f'⟩; have HID := hid hI; have n0_ := hid (HM.out.frm f' (fun h => h)); have n1_ := hid (HD.out.frm f' (fun h => h)); have n2_ := hid (below_frm0 HF.out f'); clear HM HD HF; have HM := n0_; clear n0_; have HD := n1_; clear n1_; have HF := n2_; clear n2_; clear f'; clear hg hI)
                | (go_at_call 14; (with_reducible refine (Sums_calls HM.out S HS.out).mono ?_); rintro e w' ⟨ge, rfl, hg, hI, f'⟩; have HIE := hid hI; have n0_ := hid (HID.out.frm f' (fun _ _ h => h)); clear HID; have HID := n0_; clear n0_; have n0_ := hid (HM.out.frm f' (fun h => h)); have n1_ := hid (HD.out.frm f' (fun h => h)); have n2_ := hid (below_frm0 HF.out f'); clear HM HD HF; have HM := n0_; clear n0_; have HD := n1_; clear n1_; have HF := n2_; clear n2_; clear f'; clear hg hI)
                | (go_at_call 15; (with_reducible refine (Unlike_calls 8 8 HID.out HIE.out HS8.out HS8.out).mono ?_); rintro e w' ⟨uz, ud, rfl, hu, f'⟩; (rw [HU0.out]); have n0_ := hid (HM.out.frm f' (fun h => h)); have n1_ := hid (HD.out.frm f' (fun h => h)); have n2_ := hid (below_frm0 HF.out f'); clear HM HD HF; have HM := n0_; clear n0_; have HD := n1_; clear n1_; have HF := n2_; clear n2_; clear f'; clear hu))
              go_ret
              exact ⟨rfl, HF.out⟩
end Go.Proofs.Ytfdmneefobfldaa
