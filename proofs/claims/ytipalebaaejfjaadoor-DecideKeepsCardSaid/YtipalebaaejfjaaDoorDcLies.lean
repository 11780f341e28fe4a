/- DecideLies, walked: what one vote alone tells as prepared and seen is picked by nobody, whatever it is. -/
import Derived.Test.YtipalebaaejfjaaDoorDcVmA
import Derived.Test.YtipalebaaejfjaaDoorDcLiP
import Derived.Test.YtipalebaaejfjaaDoorDcArg
import Derived.Test.YtipalebaaejfjaaDoorDcKnown
namespace Go.Proofs.YtipalebaaejfjaaDoor
open Go.RowKit Go.ChangeShapes
set_option linter.unusedVariables false
set_option linter.unusedSimpArgs false
set_option maxRecDepth 100000
set_option maxHeartbeats 4000000 in
theorem HVote_calls (w : World) (xf xe xv xl : Int) (xma : Option Addr) (xmc : Nat) (xpa : Option Addr) (xpc : Nat) (xqa : Option Addr) (xqc : Nat) (a b c : Nat) (z : Bool) (hz : decide (a ≤ 40 ∧ b ≤ 40 ∧ c ≤ 40) = z) :
    Calls Tryd.prog 10 #[.agg #[.int .u8 xf, .int .u8 xe, .int .u32 xv, .int .u32 xl, .slice xma a xmc, .slice xpa b xpc, .slice xqa c xqc]] w fun e w' => e = .returned (.bool z) ∧ Frm (fun _ => False) w w' := by
  have HZ := hid hz; clear hz
  go_enter Tryd.func10, Tryd.ntmps10
  go_wp2
  all_goals
    go_ret
    refine ⟨ret_bool ?_, dbox _ _⟩
    rw [← HZ.out, Bool.eq_iff_iff]
    simp
    omega
theorem IsVos2.quiet' {w w' : World} {a : Option Addr} {cap : Nat} {l : List Vm} (h : IsVos2 w a cap l) (f : Frm (fun _ => False) w w') : IsVos2 w' a cap l := h.quiet f
structure LieV (view : Int) (k : Nat) (X : Vm) (i : Nat) (v : Vm) : Prop where
  hon : i ≠ k → HonV view i v
  lie : i = k → v.ms = X.ms ∧ v.p = X.p ∧ v.q = X.q
theorem liv_app {view : Int} {k : Nat} {X : Vm} {l : List Vm} {j : Nat} {r : Vm} (h : ∀ i vm, l[i]? = some vm → LieV view k X i vm) (hl : l.length = j) (hr : LieV view k X j r) : ∀ i vm, (l ++ [r])[i]? = some vm → LieV view k X i vm := by
  intro i vm hi
  rcases Nat.lt_or_ge i l.length with h1 | h1
  · rw [List.getElem?_append_left h1] at hi; exact h i vm hi
  · rw [List.getElem?_append_right h1] at hi
    have h2 : i = j := by
      have := (List.getElem?_eq_some_iff.1 hi).1
      simp at this; omega
    subst h2
    rw [hl, Nat.sub_self] at hi
    simp at hi
    subst hi; exact hr
theorem lie_vos {view : Int} {k : Nat} {X : Vm} {l : List Vm} {w : World} {A : Nat → Prop} {a : Option Addr} {cap : Nat} (hp : ∀ e ∈ X.p, EnB e) (hq : ∀ e ∈ X.q, EnB e) (hm : ∀ m ∈ X.ms, 0 ≤ m.1) (ht : Tab w) (hr : IsRow 7 vmC w a cap l) (hv : ∀ vm ∈ l, VmA w A vm) (h : ∀ i vm, l[i]? = some vm → LieV view k X i vm) : IsVos2 w a cap l := by
  have H : ∀ vm ∈ l, (∀ e ∈ vm.p, EnB e) ∧ (∀ e ∈ vm.q, EnB e) ∧ ∀ m ∈ vm.ms, 0 ≤ m.1 := fun vm hvm => by
    obtain ⟨i, hi⟩ := List.getElem?_of_mem hvm
    have hL := h i vm hi
    by_cases e : i = k
    · obtain ⟨h1, h2, h3⟩ := hL.lie e
      rw [h1, h2, h3]; exact ⟨hp, hq, hm⟩
    · have hh := hL.hon e
      rw [hh.hp, hh.hq, hh.hms]
      exact ⟨fun e he => by simp at he, fun e he => by simp at he, fun m hm => by simp at hm; subst hm; decide⟩
  exact ⟨hr, fun vm hvm => (hv vm hvm).ok, fun vm hvm e he => ((H vm hvm).1 e he).sv, fun vm hvm => (H vm hvm).2.1, fun vm hvm => (H vm hvm).2.2, ht⟩
set_option maxHeartbeats 64000000 in
theorem DecideLies_walk (l0 : List Value) (x0 : VtX) (a1 a2 : Int) (a3 : Bool) (w : World) (htab : Tab w) (h0 : c29.K w x0 l0) (h1 : (Lit.int .u32 a1).wf = true) (h2 : (Lit.int .u8 a2).wf = true) :
    Calls Tryd.prog 8 #[.agg l0.toArray, .int .u32 a1, .int .u8 a2, .bool a3] w fun e w' => e = .returned (.bool true) ∧ Below w.heap.size w w' := by
  obtain ⟨⟨xf, xe, xv, xl, xma, xmc, xms, xpa, xpc, xp, xqa, xqc, xq⟩, rfl, hvi⟩ := vt_is h0
  have HVI := hid hvi
  have hb1 := bnd32 h1; have hb2 := bnd8 h2
  obtain ⟨k, hk⟩ : ∃ k : Nat, a2 % 4 = (k : Int) := ⟨(a2 % 4).toNat, by omega⟩
  have t4 : a2.tmod 4 = (k : Int) := by rw [Int.tmod_eq_emod_of_nonneg hb2.1]; exact hk
  have HK4 := hid (show k < 4 by omega)
  have HTB := hid htab
  have HB0 := hid (Blk.new w [.int .u8 xf, .int .u8 xe, .int .u32 xv, .int .u32 xl, .slice xma xms.length xmc, .slice xpa xp.length xpc, .slice xqa xq.length xqc] 29)
  have HF0 := hid (dbox w (.cells #[.int .u8 xf, .int .u8 xe, .int .u32 xv, .int .u32 xl, .slice xma xms.length xmc, .slice xpa xp.length xpc, .slice xqa xq.length xqc] 29))
  obtain ⟨zh, hzh⟩ : ∃ zh, decide (xms.length ≤ 40 ∧ xp.length ≤ 40 ∧ xq.length ≤ 40) = zh := ⟨_, rfl⟩
  have HZH := hid hzh
  show Calls _ _ #[.agg #[.int .u8 xf, .int .u8 xe, .int .u32 xv, .int .u32 xl, .slice xma xms.length xmc, .slice xpa xp.length xpc, .slice xqa xq.length xqc], .int .u32 a1, .int .u8 a2, .bool a3] _ _
  clear h0 h1 h2 hvi hk hb2 htab hzh
  cases zh
  · go_enter Tryd.func8, Tryd.ntmps8
    go_wp2_with (first
      | (go_at_call 9; (with_reducible refine (known_calls _).mono ?_); rintro e w1 ⟨rfl, f'⟩; have HB := hid (HB0.out.frm f' (fun h => h)); have HF := hid (HF0.out.trans f'); clear HB0 HF0 f'; have b0 := HB.out.cell 0; have b1 := HB.out.cell 1; have b2 := HB.out.cell 2; have b3 := HB.out.cell 3; have b4 := HB.out.cell 4; have b5 := HB.out.cell 5; have b6 := HB.out.cell 6; (simp only [List.getElem?_cons_succ, List.getElem?_cons_zero] at b0 b1 b2 b3 b4 b5 b6))
      | (go_at_call 10; (with_reducible refine (HVote_calls _ xf xe xv xl xma xmc xpa xpc xqa xqc xms.length xp.length xq.length false HZH.out).mono ?_); rintro e w2 ⟨rfl, f'⟩; have HB2 := hid (HB.out.frm f' (fun h => h)); have HF2 := hid (HF.out.trans f'); clear HB HF f' b0 b1 b2 b3 b4 b5 b6))
    go_ret
    exact ⟨rfl, HF2.out.below (Nat.le_refl _) (fun _ _ h => h)⟩
  · by_cases g1 : a1 < 1
    · go_enter Tryd.func8, Tryd.ntmps8
      go_wp2_with (first
        | (go_at_call 9; (with_reducible refine (known_calls _).mono ?_); rintro e w1 ⟨rfl, f'⟩; have HB := hid (HB0.out.frm f' (fun h => h)); have HF := hid (HF0.out.trans f'); clear HB0 HF0 f'; have b0 := HB.out.cell 0; have b1 := HB.out.cell 1; have b2 := HB.out.cell 2; have b3 := HB.out.cell 3; have b4 := HB.out.cell 4; have b5 := HB.out.cell 5; have b6 := HB.out.cell 6; (simp only [List.getElem?_cons_succ, List.getElem?_cons_zero] at b0 b1 b2 b3 b4 b5 b6))
        | (go_at_call 10; (with_reducible refine (HVote_calls _ xf xe xv xl xma xmc xpa xpc xqa xqc xms.length xp.length xq.length true HZH.out).mono ?_); rintro e w2 ⟨rfl, f'⟩; have HB2 := hid (HB.out.frm f' (fun h => h)); have HF2 := hid (HF.out.trans f'); clear HB HF f' b0 b1 b2 b3 b4 b5 b6))
      go_ret
      exact ⟨rfl, HF2.out.below (Nat.le_refl _) (fun _ _ h => h)⟩
    · by_cases g2 : 1048576 < a1
      · go_enter Tryd.func8, Tryd.ntmps8
        go_wp2_with (first
          | (go_at_call 9; (with_reducible refine (known_calls _).mono ?_); rintro e w1 ⟨rfl, f'⟩; have HB := hid (HB0.out.frm f' (fun h => h)); have HF := hid (HF0.out.trans f'); clear HB0 HF0 f'; have b0 := HB.out.cell 0; have b1 := HB.out.cell 1; have b2 := HB.out.cell 2; have b3 := HB.out.cell 3; have b4 := HB.out.cell 4; have b5 := HB.out.cell 5; have b6 := HB.out.cell 6; (simp only [List.getElem?_cons_succ, List.getElem?_cons_zero] at b0 b1 b2 b3 b4 b5 b6))
          | (go_at_call 10; (with_reducible refine (HVote_calls _ xf xe xv xl xma xmc xpa xpc xqa xqc xms.length xp.length xq.length true HZH.out).mono ?_); rintro e w2 ⟨rfl, f'⟩; have HB2 := hid (HB.out.frm f' (fun h => h)); have HF2 := hid (HF.out.trans f'); clear HB HF f' b0 b1 b2 b3 b4 b5 b6))
        go_ret
        exact ⟨rfl, HF2.out.below (Nat.le_refl _) (fun _ _ h => h)⟩
      · go_enter Tryd.func8, Tryd.ntmps8
        go_wp2_with (first
          | (go_at_call 9; (with_reducible refine (known_calls _).mono ?_); rintro e w1 ⟨rfl, f'⟩; have HB := hid (HB0.out.frm f' (fun h => h)); have HF := hid (HF0.out.trans f'); clear HB0 HF0 f'; have b0 := HB.out.cell 0; have b1 := HB.out.cell 1; have b2 := HB.out.cell 2; have b3 := HB.out.cell 3; have b4 := HB.out.cell 4; have b5 := HB.out.cell 5; have b6 := HB.out.cell 6; (simp only [List.getElem?_cons_succ, List.getElem?_cons_zero] at b0 b1 b2 b3 b4 b5 b6))
          | (go_at_call 10; (with_reducible refine (HVote_calls _ xf xe xv xl xma xmc xpa xpc xqa xqc xms.length xp.length xq.length true HZH.out).mono ?_); rintro e w2 ⟨rfl, f'⟩; have HB2 := hid (HB.out.frm f' (fun h => h)); have HF2 := hid (HF.out.trans f'); clear HB HF f' b0 b1 b2 b3 b4 b5 b6))
        have HFX := hid (Frm.refl (fun _ => False) w2)
        have HOX := hid (OwnE.nil w2 (fun q => q < w2.heap.size))
        go_loopw [9, 10] (fun lv iv wr => ∃ (j : Nat) (l : List Vm), j ≤ 4 ∧ iv = .int .u8 j ∧ l.length = j ∧ (∀ i vm, l[i]? = some vm → LieV a1 k (Vm.mk xf xe xv xl xma xmc xms xpa xpc xp xqa xqc xq) i vm) ∧ (∀ vm ∈ l, VmA wr (fun q => q < w2.heap.size) vm) ∧ OwnE wr (fun q => q < w2.heap.size) lv l ∧ Frm (fun _ => False) w2 wr) (fun _ i _ => 4 - (intOf i).toNat)
        case atStart => exact ⟨0, [], by omega, rfl, rfl, fun i v h => by simp at h, fun v h => by simp at h, HOX.out, HFX.out⟩
        case round =>
          clear HFX HOX
          obtain ⟨j, l, hj, rfl, hl, hls, hvm, ho, hf⟩ := hrel
          generalize wr = wx at *
          have HFw := hid hf; have HO := hid ho; have HVM := hid hvm; have HLS := hid hls; have HLL := hid hl
          clear hf ho hvm hls hl
          by_cases hlt : j < 4
          · have HLT := hid hlt
            have HBw := hid (HB2.out.frm HFw.out (fun h => h))
            have b0 := HBw.out.cell 0; have b1 := HBw.out.cell 1; have b2 := HBw.out.cell 2; have b3 := HBw.out.cell 3; have b4 := HBw.out.cell 4; have b5 := HBw.out.cell 5; have b6 := HBw.out.cell 6; (simp only [List.getElem?_cons_succ, List.getElem?_cons_zero] at b0 b1 b2 b3 b4 b5 b6)
            have lb := HBw.out.lt
            have HFall := hid (HF2.out.trans HFw.out)
            have HLEA := hid (show ∀ q, q < w.heap.size → (fun q => q < w2.heap.size) q from fun q hq => Nat.lt_of_lt_of_le hq HF2.out.size)
            have c3 : IntKind.u8.wrap ((j : Int) + 1) = (j : Int) + 1 := by simp [IntKind.wrap, IntKind.bits, IntKind.signed]; omega
            have hjl : (j : Int) < 4 := by omega
            clear hlt
            by_cases hjk : j = k
            · have ej : ((j : Int) == (k : Int)) = true := beq_iff_eq.2 (by omega)
              have HJK := hid hjk
              clear hjk
              go_wp2_with (first
                | (at_builtin; refine wpList_moreE (Vm.mk j xe a1 xl xma xmc xms xpa xpc xp xqa xqc xq) rfl _ _ rfl rfl (HO.out.quiet (by repeat (first | exact Frm.refl _ _ | refine Frm.alloc ?_ _))) (fun q hq => by have := HFw.out.size; simp; omega) (blkn _ (wx.heap.size + 1 + 1) (by simp) (vmC (Vm.mk j xe a1 xl xma xmc xms xpa xpc xp xqa xqc xq)) TVm) (by rw [HLL.out]; have := HLT.out; omega) rfl rfl ?_; intro v' w6 ho' hf' hat'; have HO6 := hid ho'; have HF6 := hid ((HFw.out.trans (by repeat (first | exact Frm.refl _ _ | refine Frm.alloc ?_ _))).own hf' (fun q hq hn => HO.out.off q hq hn)); have HVM6 := hid (vma_app (r := (Vm.mk j xe a1 xl xma xmc xms xpa xpc xp xqa xqc xq)) hf' HO.out HVM.out (by repeat (first | exact Frm.refl _ _ | refine Frm.alloc ?_ _)) ⟨⟨HVI.out.ok.ms.quiet (HFall.out.trans (by repeat (first | exact Frm.refl _ _ | refine Frm.alloc ?_ _))), HVI.out.ok.p.quiet (HFall.out.trans (by repeat (first | exact Frm.refl _ _ | refine Frm.alloc ?_ _))), HVI.out.ok.q.quiet (HFall.out.trans (by repeat (first | exact Frm.refl _ _ | refine Frm.alloc ?_ _)))⟩, fun n => (OffA.row HVI.out.ok.ms n HLEA.out).quiet (HFall.out.trans (by repeat (first | exact Frm.refl _ _ | refine Frm.alloc ?_ _))), fun n => (OffA.row HVI.out.ok.p n HLEA.out).quiet (HFall.out.trans (by repeat (first | exact Frm.refl _ _ | refine Frm.alloc ?_ _))), fun n => (OffA.row HVI.out.ok.q n HLEA.out).quiet (HFall.out.trans (by repeat (first | exact Frm.refl _ _ | refine Frm.alloc ?_ _)))⟩); clear ho' hf' hat'))
              go_roundw
              case rel => exact ⟨j + 1, l ++ [(Vm.mk j xe a1 xl xma xmc xms xpa xpc xp xqa xqc xq)], by have := HLT.out; omega, by go_num, by rw [List.length_append, HLL.out]; rfl, liv_app HLS.out HLL.out ⟨fun n => absurd HJK.out n, fun _ => ⟨rfl, rfl, rfl⟩⟩, HVM6.out, HO6.out, HF6.out⟩
              case measure => have := HLT.out; simp [intOf]; omega
            · have ej : ((j : Int) == (k : Int)) = false := beq_eq_false_iff_ne.2 (by omega)
              have HJK := hid hjk
              clear hjk
              go_wp2_with (first
                | (at_builtin; refine wpList_moreE (Vm.mk j 1 a1 0 (some ⟨wx.heap.size, 0, none⟩) 1 [(0, 5)] none 0 [] none 0 []) rfl _ _ rfl rfl (HO.out.quiet (by repeat (first | exact Frm.refl _ _ | refine Frm.alloc ?_ _))) (fun q hq => by have := HFw.out.size; simp; omega) (blkn _ (wx.heap.size + 1 + 1) (by simp) (vmC (Vm.mk j 1 a1 0 (some ⟨wx.heap.size, 0, none⟩) 1 [(0, 5)] none 0 [] none 0 [])) TVm) (by rw [HLL.out]; have := HLT.out; omega) rfl rfl ?_; intro v' w6 ho' hf' hat'; have HO6 := hid ho'; have HF6 := hid ((HFw.out.trans (by repeat (first | exact Frm.refl _ _ | refine Frm.alloc ?_ _))).own hf' (fun q hq hn => HO.out.off q hq hn)); have HVM6 := hid (vma_app (r := (Vm.mk j 1 a1 0 (some ⟨wx.heap.size, 0, none⟩) 1 [(0, 5)] none 0 [] none 0 [])) hf' HO.out HVM.out (by repeat (first | exact Frm.refl _ _ | refine Frm.alloc ?_ _)) ⟨⟨row_one mkC_len ((Blk.new wx (mkC (0, 5)) DMk).frm (S := fun _ => False) (by repeat (first | exact Frm.refl _ _ | refine Frm.alloc ?_ _)) (fun h => h)), IsRow.nil _ _, IsRow.nil _ _⟩, fun _ => OffA.blk ((Blk.new wx (mkC (0, 5)) DMk).frm (S := fun _ => False) (by repeat (first | exact Frm.refl _ _ | refine Frm.alloc ?_ _)) (fun h => h)) (by decide), fun n => absurd rfl n, fun n => absurd rfl n⟩); clear ho' hf' hat'))
              go_roundw
              case rel => exact ⟨j + 1, l ++ [(Vm.mk j 1 a1 0 (some ⟨wx.heap.size, 0, none⟩) 1 [(0, 5)] none 0 [] none 0 [])], by have := HLT.out; omega, by go_num, by rw [List.length_append, HLL.out]; rfl, liv_app HLS.out HLL.out ⟨fun _ => ⟨rfl, rfl, rfl, rfl, rfl, rfl, rfl⟩, fun e => absurd e HJK.out⟩, HVM6.out, HO6.out, HF6.out⟩
              case measure => have := HLT.out; simp [intOf]; omega
          · obtain rfl : j = 4 := by omega
            clear hlt hj
            obtain ⟨g, cp, rfl, hgA, hgc, hgm, hgr⟩ := HO.out.row (by rw [HLL.out]; decide)
            have HVO := hid (lie_vos (X := (Vm.mk xf xe xv xl xma xmc xms xpa xpc xp xqa xqc xq)) HVI.out.bp HVI.out.bq HVI.out.bm (HTB.out.frm (HF2.out.trans HFw.out)) hgr HVM.out HLS.out)
            have HLR := hid (lie_plain HK4.out HLL.out (fun i v hi hn => (HLS.out i v hi).hon hn))
            rw [HLL.out]
            obtain ⟨zv, hzv⟩ : ∃ zv, vtsB2 a1 l = zv := ⟨_, rfl⟩
            have HZV := hid hzv
            have HFW := hid (HF2.out.trans HFw.out)
            have HF9 := hid (Frm.refl (fun _ => False) wx)
            clear hgr hgA hgc hgm hzv HO HVM HLS HFw
            rw [show ((4 : Nat) : Int) = 4 from rfl]
            go_wp2
            go_loopw [12] (fun sv wr => ∃ s : Nat, 1 ≤ s ∧ s ≤ 9 ∧ sv = .int .u32 s ∧ Frm (fun _ => False) wx wr) (fun sv _ => 9 - (intOf sv).toNat)
            case atStart => exact ⟨1, by omega, by omega, rfl, HF9.out⟩
            case round =>
              clear HF9
              obtain ⟨s, hs1, hs9, rfl, hf⟩ := hrel
              have HFs := hid hf
              clear hf
              by_cases hs : s ≤ 8
              · have hsi : (s : Int) ≤ 8 := by omega
                have e3 : IntKind.u32.wrap ((s : Int) + 1) = (s : Int) + 1 := by simp [IntKind.wrap, IntKind.bits, IntKind.signed]; omega
                have HPK := hid (show pickR l (s : Int) = ⟨false, 0, ⟨0, 0, 0, 0, 0, 0, 0⟩⟩ from HLR.out.pick _)
                have HS8 := hid hs
                clear hs hs9
                go_wp2_with (first
                  | (go_at_call 13; (with_reducible refine (Pick_calls (HVO.out.row.quiet HFs.out) HLL.out (fun x hx => (HVO.out.ok x hx).quiet HFs.out) (s : Int) HPK.out).mono ?_); rintro e w7 ⟨rfl, f'⟩; have HF7 := hid ((HFs.out.trans f').trans (dbox w7 (.cells #[.int .u8 0, .int .u32 0, .int .u8 0, .int .u8 0, .int .u16 0] TRe))); clear HFs f'))
                go_roundw
                case rel => exact ⟨s + 1, by omega, by have := HS8.out; omega, by go_num, HF7.out⟩
                case measure => have := HS8.out; simp [intOf]; omega
              · obtain rfl : s = 9 := by omega
                clear hs hs9 hs1
                cases zv
                · go_wp2_with (first
                    | (go_at_call 17; (with_reducible refine (Votes2_at (HVO.out.quiet HFs.out) HLL.out a1 false HZV.out _ (Frm.refl _ _)).mono ?_); rintro e w4 ⟨rfl, f'⟩; have HF4 := hid (HFs.out.trans f'); clear HFs f'))
                  go_ret
                  exact ⟨rfl, (HFW.out.trans HF4.out).below (Nat.le_refl _) (fun _ _ h => h)⟩
                · have HGD := hid (lie_good HLR.out HZV.out).1
                  have HCN := hid (lie_good HLR.out HZV.out).2
                  go_wp2_with (first
                    | (go_at_call 17; (with_reducible refine (Votes2_at (HVO.out.quiet HFs.out) HLL.out a1 true HZV.out _ (Frm.refl _ _)).mono ?_); rintro e w4 ⟨rfl, f'⟩; have HF4 := hid (HFs.out.trans f'); clear HFs f')
                    | (go_at_call 15; (with_reducible refine (Choose_yes (HVO.out.quiet HF4.out) HLL.out a1 HGD.out).mono ?_); rintro e w8 ⟨⟨s8, r8, g8, n8, c8, rfl, -, -, -, -, hn⟩, f'⟩; obtain rfl : n8 = 0 := hn.trans HCN.out; have HF8 := hid ((HF4.out.trans f').trans (dbox w8 (.cells #[.int .u32 s8, .int .u64 r8] DMk))); clear hn f'))
                  go_ret
                  exact ⟨rfl, (HFW.out.trans HF8.out).below (Nat.le_refl _) (fun _ _ h => h)⟩
end Go.Proofs.YtipalebaaejfjaaDoor
