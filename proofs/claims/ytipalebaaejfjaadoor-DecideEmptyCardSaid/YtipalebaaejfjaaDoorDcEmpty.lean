/- DecideEmpty, walked: of votes without a prepared entry nothing is picked, and the view begins empty, at the greatest checkpoint that two have and that is above no quorum's low. -/
import Derived.Test.YtipalebaaejfjaaDoorDcVmT
import Derived.Test.YtipalebaaejfjaaDoorDcEmP
import Derived.Test.YtipalebaaejfjaaDoorOwnK
import Derived.Test.YtipalebaaejfjaaDoorRq
namespace Go.Proofs.YtipalebaaejfjaaDoor
open Go.RowKit Go.ChangeShapes
set_option linter.unusedVariables false
set_option linter.unusedSimpArgs false
set_option maxRecDepth 100000
abbrev TA4 : Nat := 55
def aC (A : List Int) : List Value := A.map (Value.int .u8)
theorem OwnK.vm {w : World} {A : Nat → Prop} {v : Value} {l : List Mk} (h : OwnK w A v l) (hl : 0 < l.length) : ∃ a c, v = .slice a l.length c ∧ IsRow 2 mkC w a c l ∧ OffT w a := by
  obtain ⟨g, c, hv, hle, hm, hc⟩ := h.at_ hl
  have hb : v.ownBlock = some g := by rw [hv]; rfl
  refine ⟨some ⟨g, 0, none⟩, c, hv, ⟨hle, hm, fun _ => ⟨g, 0, rfl, h.lt hb, fun j r hj i hi => by rw [Nat.zero_add]; exact hc j r hj i hi⟩⟩, fun b o i e => ?_⟩
  cases e
  rcases h.own.2 with ⟨hv', _⟩ | ⟨g', cap', cur, hv', _, hgg, _⟩
  · rw [hv] at hv'; cases hv'
  · rw [hv] at hv'
    injection hv' with h1
    injection h1 with h1
    injection h1 with h1
    subst h1
    exact ⟨h.lt hb, _, _, _, hgg, by decide⟩
theorem vm_app {wr wx w6 : World} {A : Nat → Prop} {v : Value} {l : List Vm} {r : Vm} (hf : Frm (fun k => v.ownBlock = some k) wx w6) (hO : OwnE wr A v l) (h : ∀ vm ∈ l, VmT wr vm) (f : Frm (fun _ => False) wr wx) (hr : VmT wx r) : ∀ vm ∈ l ++ [r], VmT w6 vm := by
  intro vm hm
  rw [List.mem_append] at hm
  rcases hm with hm | hm
  · exact ((h vm hm).quiet f).app (hO.quiet f) hf
  · simp at hm; subst hm; exact hr.app (hO.quiet f) hf
theorem em_len {view : Int} {l : List Vm} (h : EmR view l) : 3 ≤ l.length := by
  have := h.vts
  simp only [vtsB, Bool.and_eq_true, decide_eq_true_eq] at this
  exact this.1.1
def lwF (A : List Int) (i : Nat) : Int := A.getD i 0 % 3 * 4
theorem lwF_lw (A : List Int) (i : Nat) : Lw (lwF A i) := by
  have h1 := Int.emod_nonneg (A.getD i 0) (show (3 : Int) ≠ 0 by decide)
  have h2 := Int.emod_lt_of_pos (A.getD i 0) (show (0 : Int) < 3 by decide)
  unfold Lw lwF
  omega
set_option maxHeartbeats 64000000 in
theorem DecideEmpty_walk (a0 : Int) (l1 : List Value) (x1 : List Int) (a2 : Int) (w : World) (h0 : (Lit.int .u32 a0).wf = true) (h1 : c55.K w x1 l1) (h2 : (Lit.int .u8 a2).wf = true) :
    Calls Tryd.prog 5 #[.int .u32 a0, .agg l1.toArray, .int .u8 a2] w fun e w' => e = .returned (.bool true) ∧ Below w.heap.size w w' := by
  obtain ⟨rfl, hl4, hwf⟩ := k55 h1
  have hA : ∀ y ∈ x1, 0 ≤ y ∧ y ≤ 255 := fun y hy => (by have := hwf y hy; simp [Lit.wf, IntKind.min, IntKind.max, IntKind.bits, IntKind.signed] at this; omega)
  have hb0 := bnd32 h0
  have hb2 := bnd8 h2
  have HA := hid hA; have HL4 := hid hl4
  obtain ⟨o, ho⟩ : ∃ o, a2 % 5 = o := ⟨_, rfl⟩
  have t2 : a2.tmod 5 = o := by rw [Int.tmod_eq_emod_of_nonneg hb2.1]; exact ho
  have HO5 := hid (show 0 ≤ o ∧ o ≤ 4 by omega)
  have HX0 := hid (Blk.new w (aC x1) TA4)
  have HF0 := hid (dbox w (.cells (aC x1).toArray TA4))
  clear h0 h1 h2 hwf hA ho hl4 hb2
  by_cases g1 : a0 < 1
  · go_enter Tryd.func5, Tryd.ntmps5
    go_wp2_with (first
      | (go_at_call 9; (with_reducible refine (known_calls _).mono ?_); rintro e w1 ⟨rfl, f'⟩; have HX := hid (HX0.out.frm f' (fun h => h)); have HF := hid (HF0.out.trans f'); clear HX0 HF0 f'))
    go_ret
    exact ⟨rfl, HF.out.below (Nat.le_refl _) (fun _ _ h => h)⟩
  · by_cases g2 : 1048576 < a0
    · go_enter Tryd.func5, Tryd.ntmps5
      go_wp2_with (first
        | (go_at_call 9; (with_reducible refine (known_calls _).mono ?_); rintro e w1 ⟨rfl, f'⟩; have HX := hid (HX0.out.frm f' (fun h => h)); have HF := hid (HF0.out.trans f'); clear HX0 HF0 f'))
      go_ret
      exact ⟨rfl, HF.out.below (Nat.le_refl _) (fun _ _ h => h)⟩
    · go_enter Tryd.func5, Tryd.ntmps5
      go_wp2_with (first
        | (go_at_call 9; (with_reducible refine (known_calls _).mono ?_); rintro e w1 ⟨rfl, f'⟩; have HX := hid (HX0.out.frm f' (fun h => h)); have HF := hid (HF0.out.trans f'); clear HX0 HF0 f'))
      have HFX := hid (Frm.refl (fun _ => False) w1)
      have HOX := hid (OwnE.nil w1 (fun k => k < w1.heap.size))
      go_loopw [7, 8] (fun lv iv wr => ∃ (j : Nat) (l : List Vm), j ≤ 4 ∧ iv = .int .u8 j ∧ EmL a0 (lwF x1) (ids o j) l ∧ (∀ vm ∈ l, VmT wr vm) ∧ OwnE wr (fun k => k < w1.heap.size) lv l ∧ Frm (fun _ => False) w1 wr) (fun _ i _ => 4 - (intOf i).toNat)
      case atStart => exact ⟨0, [], by omega, rfl, trivial, fun v h => by simp at h, HOX.out, HFX.out⟩
      case round =>
        clear HOX HFX
        obtain ⟨j, l, hj, rfl, hls, hvm, ho, hf⟩ := hrel
        generalize wr = wx at *
        have HFw := hid hf; have HO := hid ho; have HVM := hid hvm; have HLS := hid hls
        clear hf ho hvm hls
        by_cases hlt : j < 4
        · have HLT := hid hlt
          obtain ⟨b, hbj⟩ : ∃ b, x1[j]? = some b := ⟨_, List.getElem?_eq_getElem (by rw [HL4.out]; exact hlt)⟩
          have hbb := HA.out b (List.mem_of_getElem? hbj)
          have HXw := hid (HX.out.frm HFw.out (fun h => h))
          have y0 : wx.cell? ⟨w.heap.size, j, none⟩ = some (.int .u8 b) := by rw [HXw.out.cell, aC, List.getElem?_map, hbj]; rfl
          have hjl : (j : Int) < 4 := by omega
          have hlo : lwF x1 j = b % 3 * 4 := by unfold lwF; rw [List.getD_eq_getElem?_getD, hbj]; rfl
          obtain ⟨c, hc⟩ : ∃ c, b % 3 = c := ⟨_, rfl⟩
          have t3 : b.tmod 3 = c := by rw [Int.tmod_eq_emod_of_nonneg hbb.1]; exact hc
          rw [hc] at hlo
          obtain ⟨lw, hlw⟩ : ∃ lw, c * 4 = lw := ⟨_, rfl⟩
          rw [hlw] at hlo
          have HLO := hid hlo
          have HLW := hid (show Lw lw from hlo ▸ lwF_lw x1 j)
          have hcb : 0 ≤ c ∧ c ≤ 2 := by omega
          have hlb : 0 ≤ lw ∧ lw ≤ 8 := by omega
          have c1 : IntKind.u32.wrap c = c := by simp [IntKind.wrap, IntKind.bits, IntKind.signed]; omega
          have c2 : IntKind.u32.wrap lw = lw := by simp [IntKind.wrap, IntKind.bits, IntKind.signed]; omega
          have c3 : IntKind.u8.wrap ((j : Int) + 1) = (j : Int) + 1 := by simp [IntKind.wrap, IntKind.bits, IntKind.signed]; omega
          clear hc hlo hlt hbb hbj
          by_cases hoj : o = (j : Int)
          · have ej : (o == (j : Int)) = true := beq_iff_eq.2 hoj
            have HID := hid (show ids o (j + 1) = ids o j by rw [ids, if_pos hoj])
            clear hoj
            go_wp2
            go_roundw
            case rel => exact ⟨j + 1, l, by have := HLT.out; omega, by go_num, by rw [HID.out]; exact HLS.out, HVM.out, HO.out, HFw.out⟩
            case measure => have := HLT.out; simp [intOf]; omega
          · have ej : (o == (j : Int)) = false := beq_eq_false_iff_ne.2 hoj
            have HID := hid (show ids o (j + 1) = ids o j ++ [j] by rw [ids, if_neg hoj])
            clear hoj
            have HFq := hid (dbox wx (.cells #[.int .u8 j, .int .u8 1, .int .u32 a0, .int .u32 lw, .slice none 0 0, .slice none 0 0, .slice none 0 0] TVm))
            have HBq := hid (Blk.new wx [.int .u8 j, .int .u8 1, .int .u32 a0, .int .u32 lw, .slice none 0 0, .slice none 0 0, .slice none 0 0] TVm)
            have HMq := hid (OwnK.nil (wx.alloc (.cells #[.int .u8 j, .int .u8 1, .int .u32 a0, .int .u32 lw, .slice none 0 0, .slice none 0 0, .slice none 0 0] TVm)) (fun k => k ≤ wx.heap.size))
            go_wp2
            go_loopw [10] (fun sv wr => ∃ (m : Nat) (s : Int) (a : Option Addr) (cc : Nat), sv = .int .u32 s ∧ s = lw + 4 * (m : Int) ∧ s ≤ 12 ∧ Blk wr wx.heap.size [.int .u8 j, .int .u8 1, .int .u32 a0, .int .u32 lw, .slice a m cc, .slice none 0 0, .slice none 0 0] TVm ∧ OwnK wr (fun k => k ≤ wx.heap.size) (.slice a m cc) (mL lw m) ∧ Frm (fun _ => False) wx wr) (fun sv _ => (12 - (intOf sv)).toNat)
            case atStart => exact ⟨0, lw, none, 0, rfl, by simp, by omega, HBq.out, HMq.out, HFq.out⟩
            case round =>
              clear HFq HBq HMq
              obtain ⟨m, s, a, cc, rfl, hs, hs12, hb, hm, hf⟩ := hrel
              have HBz := hid hb; have HMz := hid hm; have HFz := hid hf; have HS := hid hs
              have hs0 : 0 ≤ s := by omega
              have hm3 : m ≤ 3 := by omega
              have HM3 := hid hm3
              clear hb hm hf hs hm3
              have d0 := HBz.out.cell 0; have d1 := HBz.out.cell 1; have d2 := HBz.out.cell 2; have d3 := HBz.out.cell 3; have d4 := HBz.out.cell 4; have d5 := HBz.out.cell 5; have d6 := HBz.out.cell 6
              (simp only [List.getElem?_cons_succ, List.getElem?_cons_zero] at d0 d1 d2 d3 d4 d5 d6)
              by_cases hs8 : s ≤ 8
              · have e1 : IntKind.u64.wrap (s + 1) = s + 1 := by simp [IntKind.wrap, IntKind.bits, IntKind.signed]; omega
                have e2 : IntKind.u32.wrap (s + 4) = s + 4 := by simp [IntKind.wrap, IntKind.bits, IntKind.signed]; omega
                have e3 : IntKind.u64.wrap s = s := by simp [IntKind.wrap, IntKind.bits, IntKind.signed]; omega
                have HLM := hid (mL_len lw m)
                have HMR := hid (show mL lw m ++ [((s, s + 1) : Mk)] = mL lw (m + 1) by rw [mL, ← HS.out])
                have HMN := hid (show (mL lw m ++ [((s, s + 1) : Mk)]).length = m + 1 by rw [HMR.out, mL_len])
                have HS8 := hid hs8
                go_wp2_with (first
                  | (at_builtin; refine wpList_moreK ((s, s + 1) : Mk) rfl _ _ rfl rfl (HMz.out.quiet (dbox _ _)) (fun k hk => by have := HBz.out.lt; simp; omega) (blkn wr _ rfl (mkC ((s, s + 1) : Mk)) DMk) (by rw [HLM.out]; have := HM3.out; omega) rfl rfl ?_; intro v' w6 ho' hf' hat'; have HM6 := hid ho'; have HB6 := hid ((HBz.out.frm (dbox wr (.cells #[.int .u32 s, .int .u64 (s + 1)] DMk)) (fun h => h)).frm hf' (fun e => HMz.out.off _ e (Nat.le_refl _))); have HF6 := hid ((HFz.out.trans (dbox wr (.cells #[.int .u32 s, .int .u64 (s + 1)] DMk))).own hf' (fun k hk hn => HMz.out.off k hk (Nat.le_of_lt hn))); obtain ⟨a9, c9, e9⟩ : ∃ a9 c9, v' = .slice a9 (m + 1) c9 := (by obtain ⟨a9, c9, e9⟩ := ho'.slice; exact ⟨a9, c9, by rw [e9, HMN.out]⟩); subst e9; have z4 := HB6.out.free 4; have b4 := HB6.out.cell 4; have hbl := HB6.out.lt; (simp only [List.getElem?_cons_succ, List.getElem?_cons_zero] at b4); clear ho' hf' hat'))
                go_roundw
                case rel => exact ⟨m + 1, s + 4, a9, c9, by first | rfl | go_num, by have := HS.out; omega, by have := HS8.out; omega, HB6.out.setCell 4 _, (by rw [← HMR.out]; exact HM6.out.frm ((Frm.refl (fun k => k = wx.heap.size) w6).setCell ⟨wx.heap.size, 4, none⟩ _ (.inr rfl)) (fun k hk e => HM6.out.off k hk (Nat.le_of_eq e))), HF6.out.setCell _ _ (.inl (Nat.le_refl _))⟩
                case measure => have := HS8.out; simp [intOf]; omega
              · have hML := mL_full HLW.out (m := m) (by have := HS.out; have := HLW.out; unfold Lw at this; omega)
                have HPOS := hid (show 0 < (mF lw).length by rcases HLW.out with e | e | e <;> rw [e] <;> decide)
                obtain rfl : m = (mF lw).length := by rw [← hML, mL_len]
                have HMw := HMz.out
                rw [hML] at HMw
                obtain ⟨hrow, hoff⟩ : IsRow 2 mkC wr a cc (mF lw) ∧ OffT wr a := by
                  obtain ⟨a', c', e', h1, h2⟩ := HMw.vm HPOS.out
                  cases e'; exact ⟨h1, h2⟩
                have HROW := hid hrow; have HOFF := hid hoff
                have HLL := hid (show l.length ≤ 4 by rw [HLS.out.len]; exact Nat.le_trans (ids_len o j) (by have := HLT.out; omega))
                clear hML HMw HMz HS HM3 hrow hoff
                go_wp2_with (first
                  | (at_builtin; refine wpList_moreE (Vm.mk j 1 a0 lw a cc (mF lw) none 0 [] none 0 []) rfl _ _ rfl rfl (HO.out.quiet (HFz.out.trans (dbox _ _))) (fun k hk => by have := HFw.out.size; have := HFz.out.size; simp; omega) (blkn wr _ rfl (vmC (Vm.mk j 1 a0 lw a cc (mF lw) none 0 [] none 0 [])) TVm) (by have := HLL.out; omega) rfl rfl ?_; intro v' w6 ho' hf' hat'; have HO6 := hid ho'; have HF6 := hid (((HFw.out.trans HFz.out).trans (dbox wr (.cells (vmC (Vm.mk j 1 a0 lw a cc (mF lw) none 0 [] none 0 [])).toArray TVm))).own hf' (fun k hk hn => HO.out.off k hk hn)); have HVM6 := hid (vm_app (r := (Vm.mk j 1 a0 lw a cc (mF lw) none 0 [] none 0 [])) hf' HO.out HVM.out (HFz.out.trans (dbox wr (.cells (vmC (Vm.mk j 1 a0 lw a cc (mF lw) none 0 [] none 0 [])).toArray TVm))) ((show VmT wr (Vm.mk j 1 a0 lw a cc (mF lw) none 0 [] none 0 []) from ⟨⟨HROW.out, IsRow.nil _ _, IsRow.nil _ _⟩, HOFF.out, OffT.none _, OffT.none _⟩).quiet (dbox wr _))); clear ho' hf' hat'))
                go_roundw
                case rel => exact ⟨j + 1, _, by have := HLT.out; omega, by go_num, by rw [HID.out]; exact EmL.more (by rw [HLO.out]; exact ⟨rfl, rfl, rfl, rfl, rfl, rfl, rfl⟩) HLS.out, HVM6.out, HO6.out, HF6.out⟩
                case measure => have := HLT.out; simp [intOf]; omega
        · obtain rfl : j = 4 := by omega
          clear hlt
          have HEM := hid (em_end HO5.out (lwF_lw x1) ⟨by omega, by omega⟩ HLS.out)
          obtain ⟨g, cp, rfl, hgA, hgc, hgm, hgr⟩ := HO.out.row (by have := em_len HEM.out; omega)
          have HRW := hid hgr
          have hqe := fun w => eql_dm w 8 9 8 9 true rfl
          clear hgr hgA
          go_wp2_with (first
            | (go_at_call 15; (with_reducible refine (em_choose HEM.out HRW.out (fun x hx => (HVM.out x hx).ok) rfl).mono ?_); rintro e w5 ⟨⟨g5, c5, rfl, _⟩, f'⟩; have HF5 := hid (((HF.out.trans HFw.out).trans f').trans (dbox w5 (.cells #[.int .u32 8, .int .u64 9] DMk))); clear f'))
          go_ret
          exact ⟨rfl, HF5.out.below (Nat.le_refl _) (fun _ _ h => h)⟩
end Go.Proofs.YtipalebaaejfjaaDoor
