/- DecideKeeps, walked: what three replicas committed in a view, of which one may lie in its vote, is picked of any three votes that decide. -/
import Derived.Test.YtipalebaaejfjaaDoorDcKpQ
import Derived.Test.YtipalebaaejfjaaDoorHeld
import Derived.Deep.DeepCutAuto
import Derived.Deep.LoopGhost
namespace Go.Proofs.YtipalebaaejfjaaDoor
open Go.RowKit Go.ChangeShapes
set_option linter.unusedVariables false
set_option linter.unusedSimpArgs false
set_option maxRecDepth 100000
theorem kp_wrap {p : Nat} (h : p < 4) : IntKind.i64.wrap ((p : Int) + 1) = (p : Int) + 1 := by rw [IntKind.wrap_i64]; omega
theorem kp_take {l : List Vm} {p : Nat} (hl : l.length = 4) (h : p < 4) : (l.take p).length = p := by rw [List.length_take, hl]; omega
theorem kp_drop {l : List Vm} (hl : l.length = 4) (p : Nat) : (l.drop (p + 1)).length = 3 - p := by rw [List.length_drop, hl]; omega
theorem kp_three {p cp : Nat} (h : p < 4) (hc : 4 ≤ cp) (e : cp = p + 1) : p = 3 := by omega
theorem kp_none {w : World} {g o : Nat} {l : List Vm} (hl : l.length = 4) : RunE w g o (l.drop 4) := fun j r hj => by rw [List.drop_of_length_le (by omega)] at hj; simp at hj
theorem kp_pos {l : List Vm} {p : Nat} (hl : l.length = 4) (h : p < 4) : 0 < (l.take p ++ l.drop (p + 1)).length := by rw [List.length_append, List.length_take, List.length_drop, hl]; omega
theorem kp_meas {i : Int} (h1 : -1 ≤ i) (h : i < 4) : (4 - (i + 1)).toNat < (4 - i).toNat := by omega
theorem kp_next {i : Int} (h1 : -1 ≤ i) (h : i < 4) : -1 ≤ i + 1 ∧ i + 1 ≤ 4 := by omega
theorem kp_iw {i : Int} (h1 : -1 ≤ i) (h : i < 4) : wrap64 (i + 1) = i + 1 := w64 (by omega) (by omega)
theorem kp_iw2 {i : Int} (h1 : -1 ≤ i) (h : i < 4) : IntKind.i64.wrap (i + 1) = i + 1 := by rw [IntKind.wrap_i64]; omega
theorem kp_small {p : Nat} (h : p < 4) : ([] : List Vm).length + p ≤ 100000 := by show 0 + p ≤ 100000; omega
theorem kp_small2 {l : List Vm} {p : Nat} (hl : (l.take p).length = p) (h : p < 4) : (l.take p).length + (3 - p) ≤ 100000 := by omega
set_option maxHeartbeats 64000000 in
theorem DecideKeeps_walk (l0 : List Value) (x0 : RqX) (a1 : Int) (l2 : List Value) (x2 : VtX) (a3 a4 a5 : Int) (w : World) (htab : Tab w) (h0 : c39.K w x0 l0) (h1 : (Lit.int .u32 a1).wf = true) (h2 : c29.K w x2 l2) (h3 : (Lit.int .u8 a3).wf = true) (h4 : (Lit.int .u8 a4).wf = true) (h5 : (Lit.int .u8 a5).wf = true) :
    Calls Tryd.prog 4 #[.agg l0.toArray, .int .u32 a1, .agg l2.toArray, .int .u8 a3, .int .u8 a4, .int .u8 a5] w fun e w' => e = .returned (.bool true) ∧ Below w.heap.size w w' := by
  obtain ⟨hr0, r0, r1, r2, r3, r4⟩ := rq_is h0
  subst hr0
  obtain ⟨c, hc⟩ : ∃ c, x0.1 = c := ⟨_, rfl⟩
  obtain ⟨t, ht⟩ : ∃ t, x0.2.1 = t := ⟨_, rfl⟩
  obtain ⟨k0, hk0⟩ : ∃ k0, x0.2.2.1.1 = k0 := ⟨_, rfl⟩
  obtain ⟨y, hy⟩ : ∃ y, x0.2.2.1.2.1 = y := ⟨_, rfl⟩
  obtain ⟨v0, hv0⟩ : ∃ v0, x0.2.2.1.2.2.1 = v0 := ⟨_, rfl⟩
  rw [hc, ht, hk0, hy, hv0]
  rw [hc] at r0; rw [ht] at r1; rw [hk0] at r2; rw [hy] at r3; rw [hv0] at r4
  obtain ⟨⟨xf, xe, xv, xl, xma, xmc, xms, xpa, xpc, xp, xqa, xqc, xq⟩, rfl, hvi⟩ := vt_is h2
  have HVI := hid hvi
  have hb1 := bnd32 h1; have hb3 := bnd8 h3; have hb4 := bnd8 h4; have hb5 := bnd8 h5
  obtain ⟨k, hk⟩ : ∃ k : Nat, a3 % 4 = (k : Int) := ⟨(a3 % 4).toNat, by omega⟩
  have t4 : a3.tmod 4 = (k : Int) := by rw [Int.tmod_eq_emod_of_nonneg hb3.1]; exact hk
  obtain ⟨q, hq⟩ : ∃ q : Nat, a5 % 8 = (q : Int) := ⟨(a5 % 8).toNat, by omega⟩
  have t8 : a5.tmod 8 = (q : Int) := by rw [Int.tmod_eq_emod_of_nonneg hb5.1]; exact hq
  obtain ⟨d1, hd1⟩ : ∃ d, IntKind.u8.wrap (a3 + 1) = d := ⟨_, rfl⟩
  obtain ⟨d2, hd2⟩ : ∃ d, a4.tmod 3 = d := ⟨_, rfl⟩
  obtain ⟨d3, hd3⟩ : ∃ d, IntKind.u8.wrap (d1 + d2) = d := ⟨_, rfl⟩
  have hd30 : 0 ≤ d3 := by rw [← hd3]; simp [IntKind.wrap, IntKind.bits, IntKind.signed]; omega
  obtain ⟨m, hm⟩ : ∃ m : Nat, d3 % 4 = (m : Int) := ⟨(d3 % 4).toNat, by omega⟩
  have t4m : d3.tmod 4 = (m : Int) := by rw [Int.tmod_eq_emod_of_nonneg hd30]; exact hm
  have HQ8 := hid (show q < 8 by omega)
  obtain ⟨s, hs⟩ : ∃ s : Int, (q : Int) + 1 = s := ⟨_, rfl⟩
  have HS := hid hs
  have hsq : IntKind.u32.wrap s = s := by simp [IntKind.wrap, IntKind.bits, IntKind.signed]; omega
  have hqw : IntKind.u32.wrap (q : Int) = (q : Int) := by simp [IntKind.wrap, IntKind.bits, IntKind.signed]; omega
  have HEB := hid (show EnB (⟨s, a1, c, t, k0, y, v0⟩ : En) from ⟨⟨by show 0 ≤ s; omega, hb1.1⟩, r0, r1, r2, r3, r4⟩)
  have HTB := hid htab
  have HR0 := hid ((Blk.new w [.int .u8 c, .int .u32 t, .int .u8 k0, .int .u8 y, .int .u16 v0] TRe).frm (dbox _ (.cells #[.int .u8 xf, .int .u8 xe, .int .u32 xv, .int .u32 xl, .slice xma xms.length xmc, .slice xpa xp.length xpc, .slice xqa xq.length xqc] TVm)) (fun h => h))
  have HX0 := hid (two_boxes w [.int .u8 c, .int .u32 t, .int .u8 k0, .int .u8 y, .int .u16 v0] [.int .u8 xf, .int .u8 xe, .int .u32 xv, .int .u32 xl, .slice xma xms.length xmc, .slice xpa xp.length xpc, .slice xqa xq.length xqc] TRe TVm)
  have HF0 := hid ((dbox w (.cells #[.int .u8 c, .int .u32 t, .int .u8 k0, .int .u8 y, .int .u16 v0] TRe)).trans (dbox _ (.cells #[.int .u8 xf, .int .u8 xe, .int .u32 xv, .int .u32 xl, .slice xma xms.length xmc, .slice xpa xp.length xpc, .slice xqa xq.length xqc] TVm)))
  obtain ⟨zh, hzh⟩ : ∃ zh, decide (xms.length ≤ 40 ∧ xp.length ≤ 40 ∧ xq.length ≤ 40) = zh := ⟨_, rfl⟩
  have HZH := hid hzh
  show Calls _ _ #[.agg #[.int .u8 c, .int .u32 t, .int .u8 k0, .int .u8 y, .int .u16 v0], .int .u32 a1, .agg #[.int .u8 xf, .int .u8 xe, .int .u32 xv, .int .u32 xl, .slice xma xms.length xmc, .slice xpa xp.length xpc, .slice xqa xq.length xqc], .int .u8 a3, .int .u8 a4, .int .u8 a5] _ _
  clear h0 h1 h2 h3 h4 h5 hvi hk hq hm hd30 htab hzh hc ht hk0 hy hv0 r0 r1 r2 r3 r4 hb3 hb4 hb5
  cases zh
  · go_enter Tryd.func4, Tryd.ntmps4
    go_wp2_with (first
      | (go_at_call 9; (with_reducible refine (known_calls _).mono ?_); rintro e w1 ⟨rfl, f'⟩; have HR := hid (HR0.out.frm f' (fun h => h)); have HX := hid (HX0.out.frm f' (fun h => h)); have HF := hid (HF0.out.trans f'); clear HR0 HX0 HF0 f'; have b0 := HX.out.cell 0; have b1 := HX.out.cell 1; have b2 := HX.out.cell 2; have b3 := HX.out.cell 3; have b4 := HX.out.cell 4; have b5 := HX.out.cell 5; have b6 := HX.out.cell 6; (simp only [enC, mkC, List.getElem?_cons_succ, List.getElem?_cons_zero] at b0 b1 b2 b3 b4 b5 b6))
      | (go_at_call 10; (with_reducible refine (HVote_calls _ xf xe xv xl xma xmc xpa xpc xqa xqc xms.length xp.length xq.length false HZH.out).mono ?_); rintro e w2 ⟨rfl, f'⟩; have HR2 := hid (HR.out.frm f' (fun h => h)); have HX2 := hid (HX.out.frm f' (fun h => h)); have HF2 := hid (HF.out.trans f'); clear HR HX HF f' b0 b1 b2 b3 b4 b5 b6; have b0 := HR2.out.cell 0; have b1 := HR2.out.cell 1; have b2 := HR2.out.cell 2; have b3 := HR2.out.cell 3; have b4 := HR2.out.cell 4; (simp only [enC, mkC, List.getElem?_cons_succ, List.getElem?_cons_zero] at b0 b1 b2 b3 b4)))
    go_ret
    exact ⟨rfl, HF2.out.below (Nat.le_refl _) (fun _ _ h => h)⟩
  · by_cases g2 : 1048576 ≤ a1
    · go_enter Tryd.func4, Tryd.ntmps4
      go_wp2_with (first
        | (go_at_call 9; (with_reducible refine (known_calls _).mono ?_); rintro e w1 ⟨rfl, f'⟩; have HR := hid (HR0.out.frm f' (fun h => h)); have HX := hid (HX0.out.frm f' (fun h => h)); have HF := hid (HF0.out.trans f'); clear HR0 HX0 HF0 f'; have b0 := HX.out.cell 0; have b1 := HX.out.cell 1; have b2 := HX.out.cell 2; have b3 := HX.out.cell 3; have b4 := HX.out.cell 4; have b5 := HX.out.cell 5; have b6 := HX.out.cell 6; (simp only [enC, mkC, List.getElem?_cons_succ, List.getElem?_cons_zero] at b0 b1 b2 b3 b4 b5 b6))
        | (go_at_call 10; (with_reducible refine (HVote_calls _ xf xe xv xl xma xmc xpa xpc xqa xqc xms.length xp.length xq.length true HZH.out).mono ?_); rintro e w2 ⟨rfl, f'⟩; have HR2 := hid (HR.out.frm f' (fun h => h)); have HX2 := hid (HX.out.frm f' (fun h => h)); have HF2 := hid (HF.out.trans f'); clear HR HX HF f' b0 b1 b2 b3 b4 b5 b6; have b0 := HR2.out.cell 0; have b1 := HR2.out.cell 1; have b2 := HR2.out.cell 2; have b3 := HR2.out.cell 3; have b4 := HR2.out.cell 4; (simp only [enC, mkC, List.getElem?_cons_succ, List.getElem?_cons_zero] at b0 b1 b2 b3 b4)))
      go_ret
      exact ⟨rfl, HF2.out.below (Nat.le_refl _) (fun _ _ h => h)⟩
    · go_enter Tryd.func4, Tryd.ntmps4
      go_wp2_with (first
        | (go_at_call 9; (with_reducible refine (known_calls _).mono ?_); rintro e w1 ⟨rfl, f'⟩; have HR := hid (HR0.out.frm f' (fun h => h)); have HX := hid (HX0.out.frm f' (fun h => h)); have HF := hid (HF0.out.trans f'); clear HR0 HX0 HF0 f'; have b0 := HX.out.cell 0; have b1 := HX.out.cell 1; have b2 := HX.out.cell 2; have b3 := HX.out.cell 3; have b4 := HX.out.cell 4; have b5 := HX.out.cell 5; have b6 := HX.out.cell 6; (simp only [enC, mkC, List.getElem?_cons_succ, List.getElem?_cons_zero] at b0 b1 b2 b3 b4 b5 b6))
        | (go_at_call 10; (with_reducible refine (HVote_calls _ xf xe xv xl xma xmc xpa xpc xqa xqc xms.length xp.length xq.length true HZH.out).mono ?_); rintro e w2 ⟨rfl, f'⟩; have HR2 := hid (HR.out.frm f' (fun h => h)); have HX2 := hid (HX.out.frm f' (fun h => h)); have HF2 := hid (HF.out.trans f'); clear HR HX HF f' b0 b1 b2 b3 b4 b5 b6; have b0 := HR2.out.cell 0; have b1 := HR2.out.cell 1; have b2 := HR2.out.cell 2; have b3 := HR2.out.cell 3; have b4 := HR2.out.cell 4; (simp only [enC, mkC, List.getElem?_cons_succ, List.getElem?_cons_zero] at b0 b1 b2 b3 b4)))
      have HE := hid (show Blk ((w2.alloc (.cells #[.int .u32 s, .int .u32 a1, .int .u8 c, .int .u32 t, .int .u8 k0, .int .u8 y, .int .u16 v0] TEn)).alloc (.cells #[.int .u32 0, .int .u64 9] DMk)) w2.heap.size [.int .u32 s, .int .u32 a1, .int .u8 c, .int .u32 t, .int .u8 k0, .int .u8 y, .int .u16 v0] TEn from (Blk.new w2 [.int .u32 s, .int .u32 a1, .int .u8 c, .int .u32 t, .int .u8 k0, .int .u8 y, .int .u16 v0] TEn).frm (dbox _ (.cells #[.int .u32 0, .int .u64 9] DMk)) (fun h => h))
      have HM := hid (show Blk ((w2.alloc (.cells #[.int .u32 s, .int .u32 a1, .int .u8 c, .int .u32 t, .int .u8 k0, .int .u8 y, .int .u16 v0] TEn)).alloc (.cells #[.int .u32 0, .int .u64 9] DMk)) (w2.heap.size + 1) (mkC (0, 9)) DMk from two_boxes w2 [.int .u32 s, .int .u32 a1, .int .u8 c, .int .u32 t, .int .u8 k0, .int .u8 y, .int .u16 v0] (mkC (0, 9)) TEn DMk)
      have HR := hid ((HR2.out.frm (dbox w2 (.cells #[.int .u32 s, .int .u32 a1, .int .u8 c, .int .u32 t, .int .u8 k0, .int .u8 y, .int .u16 v0] TEn)) (fun h => h)).frm (dbox _ (.cells #[.int .u32 0, .int .u64 9] DMk)) (fun h => h)); have HX := hid ((HX2.out.frm (dbox w2 (.cells #[.int .u32 s, .int .u32 a1, .int .u8 c, .int .u32 t, .int .u8 k0, .int .u8 y, .int .u16 v0] TEn)) (fun h => h)).frm (dbox _ (.cells #[.int .u32 0, .int .u64 9] DMk)) (fun h => h))
      have HF := hid ((HF2.out.trans (dbox w2 (.cells #[.int .u32 s, .int .u32 a1, .int .u8 c, .int .u32 t, .int .u8 k0, .int .u8 y, .int .u16 v0] TEn))).trans (dbox _ (.cells #[.int .u32 0, .int .u64 9] DMk)))
      clear HR2 HX2 HF2 b0 b1 b2 b3 b4 hd1 hd2 hd3 hs hqw hsq t8 t4m
      generalize (w2.alloc (.cells #[.int .u32 s, .int .u32 a1, .int .u8 c, .int .u32 t, .int .u8 k0, .int .u8 y, .int .u16 v0] TEn)).alloc (.cells #[.int .u32 0, .int .u64 9] DMk) = w3 at *
      generalize w2.heap.size + 1 = mb at *
      generalize w2.heap.size = eb at *
      have ew : IntKind.u32.wrap (a1 + 1) = a1 + 1 := by simp [IntKind.wrap, IntKind.bits, IntKind.signed]; omega
      have HFX := hid (Frm.refl (fun _ => False) w3)
      have HOX := hid (OwnE.nil w3 (fun q => q < w3.heap.size))
      go_loopw [16, 18] (fun lv iv wr => ∃ (j : Nat) (l : List Vm), j ≤ 4 ∧ iv = .int .u8 j ∧ l.length = j ∧ (∀ i vm, l[i]? = some vm → KpI (⟨s, a1, c, t, k0, y, v0⟩ : En) k m (Vm.mk xf xe xv xl xma xmc xms xpa xpc xp xqa xqc xq) i vm) ∧ (∀ vm ∈ l, VmA wr (fun q => q < w3.heap.size) vm) ∧ OwnE wr (fun q => q < w3.heap.size) lv l ∧ Frm (fun _ => False) w3 wr) (fun _ i _ => 4 - (intOf i).toNat)
      case atStart => exact ⟨0, [], by omega, rfl, rfl, fun i v h => by simp at h, fun v h => by simp at h, HOX.out, HFX.out⟩
      case round =>
        clear HFX HOX
        obtain ⟨j, l, hj, rfl, hl, hls, hvm, ho, hf⟩ := hrel
        generalize wr = wx at *
        have HFw := hid hf; have HO := hid ho; have HVM := hid hvm; have HLS := hid hls; have HLL := hid hl
        clear hf ho hvm hls hl
        by_cases hlt : j < 4
        · have HLT := hid hlt
          have HXw := hid (HX.out.frm HFw.out (fun h => h)); have HEw := hid (HE.out.frm HFw.out (fun h => h)); have HMw := hid (HM.out.frm HFw.out (fun h => h))
          have b0 := HXw.out.cell 0; have b1 := HXw.out.cell 1; have b2 := HXw.out.cell 2; have b3 := HXw.out.cell 3; have b4 := HXw.out.cell 4; have b5 := HXw.out.cell 5; have b6 := HXw.out.cell 6; (simp only [enC, mkC, List.getElem?_cons_succ, List.getElem?_cons_zero] at b0 b1 b2 b3 b4 b5 b6); have p0 := HEw.out.cell 0; have p1 := HEw.out.cell 1; have p2 := HEw.out.cell 2; have p3 := HEw.out.cell 3; have p4 := HEw.out.cell 4; have p5 := HEw.out.cell 5; have p6 := HEw.out.cell 6; (simp only [enC, mkC, List.getElem?_cons_succ, List.getElem?_cons_zero] at p0 p1 p2 p3 p4 p5 p6)
          have lx := HXw.out.lt; have le := HEw.out.lt
          have u0 : ∀ A B C, (((wx.alloc A).alloc B).alloc C).cell? ⟨w.heap.size + 1, 0, none⟩ = some (.int .u8 xf) := fun A B C => (((HXw.out.frm (dbox wx A) (fun h => h)).frm (dbox (wx.alloc A) B) (fun h => h)).frm (dbox ((wx.alloc A).alloc B) C) (fun h => h)).cell 0
          have u1 : ∀ A B C, (((wx.alloc A).alloc B).alloc C).cell? ⟨w.heap.size + 1, 1, none⟩ = some (.int .u8 xe) := fun A B C => (((HXw.out.frm (dbox wx A) (fun h => h)).frm (dbox (wx.alloc A) B) (fun h => h)).frm (dbox ((wx.alloc A).alloc B) C) (fun h => h)).cell 1
          have u2 : ∀ A B C, (((wx.alloc A).alloc B).alloc C).cell? ⟨w.heap.size + 1, 2, none⟩ = some (.int .u32 xv) := fun A B C => (((HXw.out.frm (dbox wx A) (fun h => h)).frm (dbox (wx.alloc A) B) (fun h => h)).frm (dbox ((wx.alloc A).alloc B) C) (fun h => h)).cell 2
          have u3 : ∀ A B C, (((wx.alloc A).alloc B).alloc C).cell? ⟨w.heap.size + 1, 3, none⟩ = some (.int .u32 xl) := fun A B C => (((HXw.out.frm (dbox wx A) (fun h => h)).frm (dbox (wx.alloc A) B) (fun h => h)).frm (dbox ((wx.alloc A).alloc B) C) (fun h => h)).cell 3
          have u4 : ∀ A B C, (((wx.alloc A).alloc B).alloc C).cell? ⟨w.heap.size + 1, 4, none⟩ = some (.slice xma xms.length xmc) := fun A B C => (((HXw.out.frm (dbox wx A) (fun h => h)).frm (dbox (wx.alloc A) B) (fun h => h)).frm (dbox ((wx.alloc A).alloc B) C) (fun h => h)).cell 4
          have u5 : ∀ A B C, (((wx.alloc A).alloc B).alloc C).cell? ⟨w.heap.size + 1, 5, none⟩ = some (.slice xpa xp.length xpc) := fun A B C => (((HXw.out.frm (dbox wx A) (fun h => h)).frm (dbox (wx.alloc A) B) (fun h => h)).frm (dbox ((wx.alloc A).alloc B) C) (fun h => h)).cell 5
          have u6 : ∀ A B C, (((wx.alloc A).alloc B).alloc C).cell? ⟨w.heap.size + 1, 6, none⟩ = some (.slice xqa xq.length xqc) := fun A B C => (((HXw.out.frm (dbox wx A) (fun h => h)).frm (dbox (wx.alloc A) B) (fun h => h)).frm (dbox ((wx.alloc A).alloc B) C) (fun h => h)).cell 6
          have HFall := hid (HF.out.trans HFw.out)
          have HLEA := hid (show ∀ q, q < w.heap.size → (fun q => q < w3.heap.size) q from fun q hq => Nat.lt_of_lt_of_le hq HF.out.size)
          have c3 : IntKind.u8.wrap ((j : Int) + 1) = (j : Int) + 1 := by simp [IntKind.wrap, IntKind.bits, IntKind.signed]; omega
          have hjl : (j : Int) < 4 := by omega
          clear hlt
          by_cases hjm : j = m
          · by_cases hjk : j = k
            · have ej : ((j : Int) == (k : Int)) = true := beq_iff_eq.2 (by omega)
              have em : ((j : Int) == (m : Int)) = true := beq_iff_eq.2 (by omega)
              have HJK := hid hjk; have HJM := hid hjm
              clear hjk hjm
              go_wp2_with (first
                | (at_builtin; refine wpList_moreE (Vm.mk j 1 (a1 + 1) xl xma xmc xms xpa xpc xp xqa xqc xq) rfl _ _ rfl rfl (HO.out.quiet (by repeat (first | exact Frm.refl _ _ | refine Frm.alloc ?_ _))) (fun q hq => by have := HFw.out.size; simp; omega) (blkn _ (wx.heap.size + 1 + 1 + 1) (by simp) (vmC (Vm.mk j 1 (a1 + 1) xl xma xmc xms xpa xpc xp xqa xqc xq)) TVm) (by rw [HLL.out]; have := HLT.out; omega) rfl rfl ?_; intro v' w6 ho' hf' hat'; have HO6 := hid ho'; have HF6 := hid ((HFw.out.trans (by repeat (first | exact Frm.refl _ _ | refine Frm.alloc ?_ _))).own hf' (fun q hq hn => HO.out.off q hq hn)); have HVM6 := hid (vma_app (r := (Vm.mk j 1 (a1 + 1) xl xma xmc xms xpa xpc xp xqa xqc xq)) hf' HO.out HVM.out (by repeat (first | exact Frm.refl _ _ | refine Frm.alloc ?_ _)) ⟨⟨HVI.out.ok.ms.quiet (HFall.out.trans (by repeat (first | exact Frm.refl _ _ | refine Frm.alloc ?_ _))), HVI.out.ok.p.quiet (HFall.out.trans (by repeat (first | exact Frm.refl _ _ | refine Frm.alloc ?_ _))), HVI.out.ok.q.quiet (HFall.out.trans (by repeat (first | exact Frm.refl _ _ | refine Frm.alloc ?_ _)))⟩, fun n => (OffA.row HVI.out.ok.ms n HLEA.out).quiet (HFall.out.trans (by repeat (first | exact Frm.refl _ _ | refine Frm.alloc ?_ _))), fun n => (OffA.row HVI.out.ok.p n HLEA.out).quiet (HFall.out.trans (by repeat (first | exact Frm.refl _ _ | refine Frm.alloc ?_ _))), fun n => (OffA.row HVI.out.ok.q n HLEA.out).quiet (HFall.out.trans (by repeat (first | exact Frm.refl _ _ | refine Frm.alloc ?_ _)))⟩); clear ho' hf' hat'))
              go_roundw
              case rel => exact ⟨j + 1, l ++ [(Vm.mk j 1 (a1 + 1) xl xma xmc xms xpa xpc xp xqa xqc xq)], by have := HLT.out; omega, by go_num, by rw [List.length_append, HLL.out]; rfl, kp_app HLS.out HLL.out ⟨rfl, fun n => absurd HJK.out n, fun n => absurd HJK.out n, fun _ => ⟨rfl, rfl, rfl⟩⟩, HVM6.out, HO6.out, HF6.out⟩
              case measure => have := HLT.out; simp [intOf]; omega
            · have ej : ((j : Int) == (k : Int)) = false := beq_eq_false_iff_ne.2 (by omega)
              have em : ((j : Int) == (m : Int)) = true := beq_iff_eq.2 (by omega)
              have HJK := hid hjk; have HJM := hid hjm
              clear hjk hjm
              go_wp2_with (first
                | (at_builtin; refine wpList_moreE (Vm.mk j 1 (a1 + 1) 0 (some ⟨mb, 0, none⟩) 1 [(0, 9)] none 0 [] none 0 []) rfl _ _ rfl rfl (HO.out.quiet (by repeat (first | exact Frm.refl _ _ | refine Frm.alloc ?_ _))) (fun q hq => by have := HFw.out.size; simp; omega) (blkn _ (wx.heap.size + 1 + 1 + 1) (by simp) (vmC (Vm.mk j 1 (a1 + 1) 0 (some ⟨mb, 0, none⟩) 1 [(0, 9)] none 0 [] none 0 [])) TVm) (by rw [HLL.out]; have := HLT.out; omega) rfl rfl ?_; intro v' w6 ho' hf' hat'; have HO6 := hid ho'; have HF6 := hid ((HFw.out.trans (by repeat (first | exact Frm.refl _ _ | refine Frm.alloc ?_ _))).own hf' (fun q hq hn => HO.out.off q hq hn)); have HVM6 := hid (vma_app (r := (Vm.mk j 1 (a1 + 1) 0 (some ⟨mb, 0, none⟩) 1 [(0, 9)] none 0 [] none 0 [])) hf' HO.out HVM.out (by repeat (first | exact Frm.refl _ _ | refine Frm.alloc ?_ _)) ⟨⟨row_one mkC_len (HMw.out.frm (S := fun _ => False) (by repeat (first | exact Frm.refl _ _ | refine Frm.alloc ?_ _)) (fun h => h)), IsRow.nil _ _, IsRow.nil _ _⟩, fun _ => OffA.blk (HMw.out.frm (S := fun _ => False) (by repeat (first | exact Frm.refl _ _ | refine Frm.alloc ?_ _)) (fun h => h)) (by decide), fun n => absurd rfl n, fun n => absurd rfl n⟩); clear ho' hf' hat'))
              go_roundw
              case rel => exact ⟨j + 1, l ++ [(Vm.mk j 1 (a1 + 1) 0 (some ⟨mb, 0, none⟩) 1 [(0, 9)] none 0 [] none 0 [])], by have := HLT.out; omega, by go_num, by rw [List.length_append, HLL.out]; rfl, kp_app HLS.out HLL.out ⟨rfl, fun _ n => absurd HJM.out n, fun _ _ => ⟨rfl, rfl, rfl, rfl⟩, fun e => absurd e HJK.out⟩, HVM6.out, HO6.out, HF6.out⟩
              case measure => have := HLT.out; simp [intOf]; omega
          · by_cases hjk : j = k
            · have ej : ((j : Int) == (k : Int)) = true := beq_iff_eq.2 (by omega)
              have em : ((j : Int) == (m : Int)) = false := beq_eq_false_iff_ne.2 (by omega)
              have HJK := hid hjk; have HJM := hid hjm
              clear hjk hjm
              go_wp2_with (first
                | (at_builtin; refine wpList_moreE (Vm.mk j 1 (a1 + 1) xl xma xmc xms xpa xpc xp xqa xqc xq) rfl _ _ rfl rfl (HO.out.quiet (by repeat (first | exact Frm.refl _ _ | refine Frm.alloc ?_ _))) (fun q hq => by have := HFw.out.size; simp; omega) (blkn _ (wx.heap.size + 1 + 1 + 1) (by simp) (vmC (Vm.mk j 1 (a1 + 1) xl xma xmc xms xpa xpc xp xqa xqc xq)) TVm) (by rw [HLL.out]; have := HLT.out; omega) rfl rfl ?_; intro v' w6 ho' hf' hat'; have HO6 := hid ho'; have HF6 := hid ((HFw.out.trans (by repeat (first | exact Frm.refl _ _ | refine Frm.alloc ?_ _))).own hf' (fun q hq hn => HO.out.off q hq hn)); have HVM6 := hid (vma_app (r := (Vm.mk j 1 (a1 + 1) xl xma xmc xms xpa xpc xp xqa xqc xq)) hf' HO.out HVM.out (by repeat (first | exact Frm.refl _ _ | refine Frm.alloc ?_ _)) ⟨⟨HVI.out.ok.ms.quiet (HFall.out.trans (by repeat (first | exact Frm.refl _ _ | refine Frm.alloc ?_ _))), HVI.out.ok.p.quiet (HFall.out.trans (by repeat (first | exact Frm.refl _ _ | refine Frm.alloc ?_ _))), HVI.out.ok.q.quiet (HFall.out.trans (by repeat (first | exact Frm.refl _ _ | refine Frm.alloc ?_ _)))⟩, fun n => (OffA.row HVI.out.ok.ms n HLEA.out).quiet (HFall.out.trans (by repeat (first | exact Frm.refl _ _ | refine Frm.alloc ?_ _))), fun n => (OffA.row HVI.out.ok.p n HLEA.out).quiet (HFall.out.trans (by repeat (first | exact Frm.refl _ _ | refine Frm.alloc ?_ _))), fun n => (OffA.row HVI.out.ok.q n HLEA.out).quiet (HFall.out.trans (by repeat (first | exact Frm.refl _ _ | refine Frm.alloc ?_ _)))⟩); clear ho' hf' hat'))
              go_roundw
              case rel => exact ⟨j + 1, l ++ [(Vm.mk j 1 (a1 + 1) xl xma xmc xms xpa xpc xp xqa xqc xq)], by have := HLT.out; omega, by go_num, by rw [List.length_append, HLL.out]; rfl, kp_app HLS.out HLL.out ⟨rfl, fun n => absurd HJK.out n, fun n => absurd HJK.out n, fun _ => ⟨rfl, rfl, rfl⟩⟩, HVM6.out, HO6.out, HF6.out⟩
              case measure => have := HLT.out; simp [intOf]; omega
            · have ej : ((j : Int) == (k : Int)) = false := beq_eq_false_iff_ne.2 (by omega)
              have em : ((j : Int) == (m : Int)) = false := beq_eq_false_iff_ne.2 (by omega)
              have HJK := hid hjk; have HJM := hid hjm
              clear hjk hjm
              go_wp2_with (first
                | (at_builtin; refine wpList_moreE (Vm.mk j 1 (a1 + 1) 0 (some ⟨mb, 0, none⟩) 1 [(0, 9)] (some ⟨wx.heap.size, 0, none⟩) 1 [(⟨s, a1, c, t, k0, y, v0⟩ : En)] (some ⟨wx.heap.size + 1, 0, none⟩) 1 [(⟨s, a1, c, t, k0, y, v0⟩ : En)]) rfl _ _ rfl rfl (HO.out.quiet (by repeat (first | exact Frm.refl _ _ | refine Frm.alloc ?_ _))) (fun q hq => by have := HFw.out.size; simp; omega) (blkn _ (wx.heap.size + 1 + 1 + 1) (by simp) (vmC (Vm.mk j 1 (a1 + 1) 0 (some ⟨mb, 0, none⟩) 1 [(0, 9)] (some ⟨wx.heap.size, 0, none⟩) 1 [(⟨s, a1, c, t, k0, y, v0⟩ : En)] (some ⟨wx.heap.size + 1, 0, none⟩) 1 [(⟨s, a1, c, t, k0, y, v0⟩ : En)])) TVm) (by rw [HLL.out]; have := HLT.out; omega) rfl rfl ?_; intro v' w6 ho' hf' hat'; have HO6 := hid ho'; have HF6 := hid ((HFw.out.trans (by repeat (first | exact Frm.refl _ _ | refine Frm.alloc ?_ _))).own hf' (fun q hq hn => HO.out.off q hq hn)); have HVM6 := hid (vma_app (r := (Vm.mk j 1 (a1 + 1) 0 (some ⟨mb, 0, none⟩) 1 [(0, 9)] (some ⟨wx.heap.size, 0, none⟩) 1 [(⟨s, a1, c, t, k0, y, v0⟩ : En)] (some ⟨wx.heap.size + 1, 0, none⟩) 1 [(⟨s, a1, c, t, k0, y, v0⟩ : En)])) hf' HO.out HVM.out (by repeat (first | exact Frm.refl _ _ | refine Frm.alloc ?_ _)) ⟨⟨row_one mkC_len (HMw.out.frm (S := fun _ => False) (by repeat (first | exact Frm.refl _ _ | refine Frm.alloc ?_ _)) (fun h => h)), row_one enC_len ((Blk.new wx (enC (⟨s, a1, c, t, k0, y, v0⟩ : En)) TEn).frm (S := fun _ => False) (by repeat (first | exact Frm.refl _ _ | refine Frm.alloc ?_ _)) (fun h => h)), row_one enC_len ((blkn (wx.alloc _) (wx.heap.size + 1) (by simp) (enC (⟨s, a1, c, t, k0, y, v0⟩ : En)) TEn).frm (S := fun _ => False) (by repeat (first | exact Frm.refl _ _ | refine Frm.alloc ?_ _)) (fun h => h))⟩, fun _ => OffA.blk (HMw.out.frm (S := fun _ => False) (by repeat (first | exact Frm.refl _ _ | refine Frm.alloc ?_ _)) (fun h => h)) (by decide), fun _ => OffA.blk ((Blk.new wx (enC (⟨s, a1, c, t, k0, y, v0⟩ : En)) TEn).frm (S := fun _ => False) (by repeat (first | exact Frm.refl _ _ | refine Frm.alloc ?_ _)) (fun h => h)) (by decide), fun _ => OffA.blk ((blkn (wx.alloc _) (wx.heap.size + 1) (by simp) (enC (⟨s, a1, c, t, k0, y, v0⟩ : En)) TEn).frm (S := fun _ => False) (by repeat (first | exact Frm.refl _ _ | refine Frm.alloc ?_ _)) (fun h => h)) (by decide)⟩); clear ho' hf' hat'))
              go_roundw
              case rel => exact ⟨j + 1, l ++ [(Vm.mk j 1 (a1 + 1) 0 (some ⟨mb, 0, none⟩) 1 [(0, 9)] (some ⟨wx.heap.size, 0, none⟩) 1 [(⟨s, a1, c, t, k0, y, v0⟩ : En)] (some ⟨wx.heap.size + 1, 0, none⟩) 1 [(⟨s, a1, c, t, k0, y, v0⟩ : En)])], by have := HLT.out; omega, by go_num, by rw [List.length_append, HLL.out]; rfl, kp_app HLS.out HLL.out ⟨rfl, fun _ _ => ⟨rfl, rfl, rfl, rfl⟩, fun _ e => absurd e HJM.out, fun e => absurd e HJK.out⟩, HVM6.out, HO6.out, HF6.out⟩
              case measure => have := HLT.out; simp [intOf]; omega
        · obtain rfl : j = 4 := by omega
          clear hlt hj
          obtain ⟨g, cp, rfl, hgA, hgc, hgm, hgr⟩ := HO.out.row (by rw [HLL.out]; decide)
          have HFW := hid (HF.out.trans HFw.out)
          have HVO := hid (kp_vos (X := (Vm.mk xf xe xv xl xma xmc xms xpa xpc xp xqa xqc xq)) HEB.out HVI.out.bp HVI.out.bq HVI.out.bm (HTB.out.frm HFW.out) hgr HVM.out HLS.out)
          have HKI := hid (keep_of HLL.out HLS.out)
          have hcp : 4 ≤ cp := by rw [HLL.out] at hgc; exact hgc
          have hgs := hgr.small
          rw [HLL.out]
          rw [show ((4 : Nat) : Int) = 4 from rfl]
          obtain ⟨zv, hzv⟩ : ∃ zv, vtsB2 (a1 + 1) l = zv := ⟨_, rfl⟩
          have HZV := hid hzv
          have HRx := hid (HR.out.frm HFw.out (fun h => h)); have HMx := hid (HM.out.frm HFw.out (fun h => h))
          clear hgr hgA hgc hgm hzv HO HVM HLS HFw
          cases zv
          · go_wp2_with (first
              | (go_at_call 17; (with_reducible refine (Votes2_at HVO.out HLL.out (a1 + 1) false HZV.out _ (Frm.refl _ _)).mono ?_); rintro e w4 ⟨rfl, f'⟩; have HFW4 := hid (HFW.out.trans f'); have HR4 := hid (HRx.out.frm f' (fun h => h)); have HM4 := hid (HMx.out.frm f' (fun h => h)); have HVO4 := hid (HVO.out.quiet f'); clear f'))
            go_ret
            exact ⟨rfl, HFW4.out.below (Nat.le_refl _) (fun _ _ h => h)⟩
          · go_wp2_with (first
              | (go_at_call 17; (with_reducible refine (Votes2_at HVO.out HLL.out (a1 + 1) true HZV.out _ (Frm.refl _ _)).mono ?_); rintro e w4 ⟨rfl, f'⟩; have HFW4 := hid (HFW.out.trans f'); have HR4 := hid (HRx.out.frm f' (fun h => h)); have HM4 := hid (HMx.out.frm f' (fun h => h)); have HVO4 := hid (HVO.out.quiet f'); clear f'))
            have HF0 := hid (Frm.refl (fun _ => False) w4)
            clear HRx HMx HFW HVO
            go_loopg [20] 5 (fun gk iv wr => ∃ i : Int, (-1 ≤ i ∧ i ≤ 4) ∧ gk = (4 - i).toNat ∧ iv = .int .i64 i ∧ Frm (fun _ => False) w4 wr)
            case atStart => exact ⟨-1, by omega, rfl, rfl, HF0.out⟩
            case round =>
              clear HF0
              obtain ⟨i, hi, rfl, rfl, hf⟩ := hrel
              have HFs := hid hf
              clear hf
              have HVs := hid (HVO4.out.quiet HFs.out)
              have HRUN := hid HVs.out.row.run
              have hgl : g < wr.heap.size := by
                obtain ⟨b', o', e', hb', _⟩ := HVs.out.row.at_ (by rw [HLL.out]; decide)
                injection e' with e'
                injection e' with e1
                rw [e1]; exact hb'
              have HGL := hid hgl
              have h64a : wrap64 s = s := w64 (by have := HS.out; omega) (by have := HS.out; have := HQ8.out; omega)
              have h64b : wrap64 (s - 1) = (q : Int) := by rw [show s - 1 = (q : Int) by have := HS.out; omega]; exact w64 (by omega) (by have := HQ8.out; omega)
              have h64c : wrap64 (q : Int) = (q : Int) := w64 (by omega) (by have := HQ8.out; omega)
              by_cases h4 : i = 4
              · subst h4
                go_wp2
                go_ret
                exact ⟨rfl, (HFW4.out.trans HFs.out).below (Nat.le_refl _) (fun _ _ h => h)⟩
              · have hi4 : i < 4 := by omega
                have HI := hid hi
                have him : -1 ≤ i := hi.1
                clear h4 hi
                go_upto_if 98 with (first
                  | (at_builtin; refine wpList_runE l rfl _ _ rfl rfl (OwnE.nil wr (fun q => q < wr.heap.size)) (fun q hq => hq) HRUN.out HLL.out (by show 0 + 4 ≤ 100000; decide) rfl rfl ?_; intro v6 w6 ho' hf' hat'; have HF6 := hid (HFs.out.trans (hf'.mono (fun q _ hq => by simp [Value.ownBlock] at hq))); have HF66 := hid (show Frm (fun _ => False) wr w6 from hf'.mono (fun q _ hq => by simp [Value.ownBlock] at hq)); obtain ⟨g6, c6, e6, -, -, -, hr6⟩ := ho'.row (by rw [List.nil_append, HLL.out]; decide); obtain rfl : v6 = .slice (some ⟨g6, 0, none⟩) 4 c6 := (by rw [e6, List.nil_append, HLL.out]); have HV6 := hid (HVs.out.sub HF66.out (m := l) (fun x hx => hx) (by rw [List.nil_append] at hr6; exact hr6)); clear ho' hf' hat' e6 hr6))
                go_cut [21] (fun v wx => ∃ (ml : List Vm) (n c2 : Nat) (a2 : Option Addr), v = .slice a2 n c2 ∧ ml.length = n ∧ IsVos2 wx a2 c2 ml ∧ KeepI (⟨s, a1, c, t, k0, y, v0⟩ : En) k m ml ∧ Frm (fun _ => False) w4 wx)
                case first =>
                  by_cases h0 : 0 ≤ i
                  · obtain ⟨p, rfl⟩ : ∃ p : Nat, i = p := ⟨i.toNat, by omega⟩
                    have hp4 : p < 4 := by omega
                    have HP4 := hid hp4
                    have hpw := kp_wrap hp4
                    have hpt : ((p : Int) + 1).toNat = p + 1 := rfl
                    have HRG := hid (HRUN.out.frm HF66.out hgl (fun h => h))
                    have HGL6 := hid (Nat.lt_of_lt_of_le hgl HF66.out.size)
                    have hpc : (p : Int) ≤ (cp : Int) := Int.ofNat_le.2 (Nat.le_trans (Nat.le_of_lt hp4) hcp)
                    have hpc2 : (p : Int) + 1 ≤ (cp : Int) := Int.ofNat_le.2 (Nat.le_trans hp4 hcp)
                    have hp01 : (0 : Int) ≤ (p : Int) + 1 := Int.le_trans (Int.natCast_nonneg p) (Int.le_add_one (Int.le_refl _))
                    have hp40 : (p : Int) ≤ 4 := Int.ofNat_le.2 (Nat.le_of_lt hp4)
                    have hp41 : (p : Int) + 1 ≤ 4 := Int.ofNat_le.2 hp4
                    go_wp2_with fail
                    have HRG7 := hid (HRG.out.frm (frm_drew w6) HGL6.out (fun h => h))
                    have HF7 := hid (HF6.out.drew)
                    by_cases hcc : cp = p + 1
                    · have HTL := hid (kp_take HLL.out HP4.out)
                      obtain rfl : p = 3 := kp_three HP4.out hcp hcc
                      obtain rfl : cp = 4 := hcc
                      have HDL := hid (show (l.drop 4).length = 0 from kp_drop HLL.out 3)
                      have hw4 : IntKind.i64.wrap 4 = 4 := rfl
                      clear hpw hpt
                      refine wp_region_held_drew (S := fun wx => True) (by kernel_rfl) ?_ (fun hHeld => ?_)
                      · trivial
                      refine wpAnyH_take (i := 0) (oi := ⟨some 99, _, _, _, _, _⟩) (v := ?v1) rfl (by kernel_rfl) (by kernel_rfl) (by kernel_rfl) (fun _ _ _ h => h) (Or.inl ⟨by rfl, ?y1⟩) (by assumption) ?r1
                      case y1 => (intro wx hSx; (try dsimp only at hSx); go_simp; (try with_reducible rfl))
                      try simp only [Act.put, List.setIfInBounds_toArray, List.set_cons_zero, List.set_cons_succ]
                      refine wpAnyH_take (i := 1) (oi := ⟨some 100, _, _, _, _, _⟩) (v := ?v2) rfl (by kernel_rfl) (by kernel_rfl) (by kernel_rfl) (fun _ _ _ h => h) (Or.inl ⟨by rfl, ?y2⟩) (by assumption) ?r2
                      case y2 => (intro wx hSx; (try dsimp only at hSx); go_simp; (try with_reducible rfl))
                      try simp only [Act.put, List.setIfInBounds_toArray, List.set_cons_zero, List.set_cons_succ]
                      refine wpAnyH_take (i := 2) (oi := ⟨some 101, _, _, _, _, _⟩) (v := ?v3) rfl (by kernel_rfl) (by kernel_rfl) (by kernel_rfl) (fun _ _ _ h => h) (Or.inl ⟨by rfl, ?y3⟩) (by assumption) ?r3
                      case y3 => (intro wx hSx; (try dsimp only at hSx); go_simp; (try with_reducible rfl))
                      try simp only [Act.put, List.setIfInBounds_toArray, List.set_cons_zero, List.set_cons_succ]
                      refine wpAnyH_take (i := 4) (oi := ⟨some 103, _, _, _, _, _⟩) (v := ?v4) rfl (by kernel_rfl) (by kernel_rfl) (by kernel_rfl) (fun _ _ _ h => h) (Or.inl ⟨by rfl, ?y4⟩) (by assumption) ?r4
                      case y4 => (intro wx hSx; (try dsimp only at hSx); go_simp; (try with_reducible rfl))
                      try simp only [Act.put, List.setIfInBounds_toArray, List.set_cons_zero, List.set_cons_succ]
                      refine wpAnyH_take (i := 5) (oi := ⟨some 104, _, _, _, _, _⟩) (v := ?v5) rfl (by kernel_rfl) (by kernel_rfl) (by kernel_rfl) (fun _ _ _ h => h) (Or.inl ⟨by rfl, ?y5⟩) (by assumption) ?r5
                      case y5 => (intro wx hSx; (try dsimp only at hSx); go_simp; (try with_reducible rfl))
                      try simp only [Act.put, List.setIfInBounds_toArray, List.set_cons_zero, List.set_cons_succ]
                      refine wpAnyH_take (i := 6) (oi := ⟨some 105, _, _, _, _, _⟩) (v := ?v6) rfl (by kernel_rfl) (by kernel_rfl) (by kernel_rfl) (fun _ _ _ h => h) (Or.inl ⟨by rfl, ?y6⟩) (by assumption) ?r6
                      case y6 => (intro wx hSx; (try dsimp only at hSx); go_simp; (try with_reducible rfl))
                      try simp only [Act.put, List.setIfInBounds_toArray, List.set_cons_zero, List.set_cons_succ]
                      refine wpAnyH_take (i := 7) (oi := ⟨some 106, _, _, _, _, _⟩) (v := ?v7) rfl (by kernel_rfl) (by kernel_rfl) (by kernel_rfl) (fun _ _ _ h => h) (Or.inl ⟨by rfl, ?y7⟩) (by assumption) ?r7
                      case y7 => (intro wx hSx; (try dsimp only at hSx); go_simp; (try with_reducible rfl))
                      try simp only [Act.put, List.setIfInBounds_toArray, List.set_cons_zero, List.set_cons_succ]
                      refine wpAnyH_ready (rs := [3]) (by kernel_rfl) (by simp) ?_
                      refine AllReadyH.cons (o := ⟨some 102, _, _, _, _, _⟩) rfl (fun K hK => ?_) AllReadyH.nil
                      refine wp_runE (l.take 3) _ _ rfl rfl (OwnE.nil w6.drew (fun q => q < w6.heap.size)) (fun q hq => hq) (HRG7.out.take 3) HTL.out (kp_small HP4.out) rfl rfl ?_
                      intro v7 w7 ho7 hf7 hat7
                      have HF77 := hid (show Frm (fun _ => False) w6.drew w7 from hf7.mono (fun q _ hq => by simp [Value.ownBlock] at hq))
                      rw [List.nil_append] at ho7
                      have HO7 := hid ho7
                      clear ho7 hf7 hat7
                      refine hK.out _ _ ?_ (fun hHeld2 => ?_)
                      · ((try dsimp only); (first | done | trivial))
                      clear hK K hHeld; have hHeld := hHeld2; clear hHeld2
                      try simp only [Act.put, List.setIfInBounds_toArray, List.set_cons_zero, List.set_cons_succ]
                      refine wpAnyH_ready (rs := [8]) (by kernel_rfl) (by simp) ?_
                      refine AllReadyH.cons (o := ⟨some 107, _, _, _, _, _⟩) rfl (fun K hK => ?_) AllReadyH.nil
                      refine wp_runE (l.drop 4) _ _ rfl rfl HO7.out (fun q hq => Nat.lt_of_lt_of_le hq HF77.out.size) (kp_none HLL.out) HDL.out (kp_small2 HTL.out HP4.out) rfl rfl ?_
                      intro v8 w8 ho8 hf8 hat8
                      have HO8 := hid ho8
                      have HF8 := hid (HF77.out.trans' hf8 (fun q hq hk => (show ¬ q < w6.heap.size from HO7.out.off q hk) hq))
                      clear ho8 hf8 hat8
                      refine hK.out _ _ ?_ (fun hHeld2 => ?_)
                      · ((try dsimp only); (first | done | trivial))
                      clear hK K hHeld; have hHeld := hHeld2; clear hHeld2
                      try simp only [Act.put, List.setIfInBounds_toArray, List.set_cons_zero, List.set_cons_succ]
                      refine wpAnyH_take (i := 9) (oi := ⟨some 21, _, _, _, _, _⟩) (v := ?v8) rfl (by kernel_rfl) (by kernel_rfl) (by kernel_rfl) (fun _ _ _ h => h) (Or.inl ⟨by rfl, ?y8⟩) (by assumption) ?r8
                      case y8 => (intro wx hSx; (try dsimp only at hSx); go_simp; (try with_reducible rfl))
                      try simp only [Act.put, List.setIfInBounds_toArray, List.set_cons_zero, List.set_cons_succ]
                      refine wpAnyH_done (by kernel_rfl) ?_ _
                      go_wp2_with fail
                      obtain ⟨g8, c8, e8, -, -, -, hr8⟩ := HO8.out.row (kp_pos HLL.out HP4.out)
                      have hbl : (l.take 3 ++ l.drop (3 + 1)).length = 3 := but_len HLL.out HP4.out
                      rw [hbl] at e8
                      subst e8
                      have HF9 := hid (HF7.out.trans HF8.out)
                      have HV8 := hid (HVs.out.sub (HF66.out.trans ((frm_drew w6).trans HF8.out)) (m := but 3 l) (fun x hx => (but_sub 3 l).subset hx) hr8)
                      go_meet
                      exact ⟨but 3 l, 3, c8, _, rfl, hbl, HV8.out, HKI.out.sub (but_sub 3 l), HF9.out⟩
                    · have HTL := hid (kp_take HLL.out HP4.out)
                      have HDL := hid (kp_drop HLL.out p)
                      have HDR := hid (show RunE w6.drew g ((p + 1) * 7) (l.drop (p + 1)) from by have h := HRG7.out.drop (p + 1); rwa [Nat.zero_add] at h)
                      refine wp_region_held_drew (S := fun wx => True) (by kernel_rfl) ?_ (fun hHeld => ?_)
                      · trivial
                      refine wpAnyH_take (i := 0) (oi := ⟨some 99, _, _, _, _, _⟩) (v := ?v9) rfl (by kernel_rfl) (by kernel_rfl) (by kernel_rfl) (fun _ _ _ h => h) (Or.inl ⟨by rfl, ?y9⟩) (by assumption) ?r9
                      case y9 => (intro wx hSx; (try dsimp only at hSx); go_simp; (try with_reducible rfl))
                      try simp only [Act.put, List.setIfInBounds_toArray, List.set_cons_zero, List.set_cons_succ]
                      refine wpAnyH_take (i := 1) (oi := ⟨some 100, _, _, _, _, _⟩) (v := ?v10) rfl (by kernel_rfl) (by kernel_rfl) (by kernel_rfl) (fun _ _ _ h => h) (Or.inl ⟨by rfl, ?y10⟩) (by assumption) ?r10
                      case y10 => (intro wx hSx; (try dsimp only at hSx); go_simp; (try with_reducible rfl))
                      try simp only [Act.put, List.setIfInBounds_toArray, List.set_cons_zero, List.set_cons_succ]
                      refine wpAnyH_take (i := 2) (oi := ⟨some 101, _, _, _, _, _⟩) (v := ?v11) rfl (by kernel_rfl) (by kernel_rfl) (by kernel_rfl) (fun _ _ _ h => h) (Or.inl ⟨by rfl, ?y11⟩) (by assumption) ?r11
                      case y11 => (intro wx hSx; (try dsimp only at hSx); go_simp; (try with_reducible rfl))
                      try simp only [Act.put, List.setIfInBounds_toArray, List.set_cons_zero, List.set_cons_succ]
                      refine wpAnyH_take (i := 4) (oi := ⟨some 103, _, _, _, _, _⟩) (v := ?v12) rfl (by kernel_rfl) (by kernel_rfl) (by kernel_rfl) (fun _ _ _ h => h) (Or.inl ⟨by rfl, ?y12⟩) (by assumption) ?r12
                      case y12 => (intro wx hSx; (try dsimp only at hSx); go_simp; (try with_reducible rfl))
                      try simp only [Act.put, List.setIfInBounds_toArray, List.set_cons_zero, List.set_cons_succ]
                      refine wpAnyH_take (i := 5) (oi := ⟨some 104, _, _, _, _, _⟩) (v := ?v13) rfl (by kernel_rfl) (by kernel_rfl) (by kernel_rfl) (fun _ _ _ h => h) (Or.inl ⟨by rfl, ?y13⟩) (by assumption) ?r13
                      case y13 => (intro wx hSx; (try dsimp only at hSx); go_simp; (try with_reducible rfl))
                      try simp only [Act.put, List.setIfInBounds_toArray, List.set_cons_zero, List.set_cons_succ]
                      refine wpAnyH_take (i := 6) (oi := ⟨some 105, _, _, _, _, _⟩) (v := ?v14) rfl (by kernel_rfl) (by kernel_rfl) (by kernel_rfl) (fun _ _ _ h => h) (Or.inl ⟨by rfl, ?y14⟩) (by assumption) ?r14
                      case y14 => (intro wx hSx; (try dsimp only at hSx); go_simp; (try with_reducible rfl))
                      try simp only [Act.put, List.setIfInBounds_toArray, List.set_cons_zero, List.set_cons_succ]
                      refine wpAnyH_take (i := 7) (oi := ⟨some 106, _, _, _, _, _⟩) (v := ?v15) rfl (by kernel_rfl) (by kernel_rfl) (by kernel_rfl) (fun _ _ _ h => h) (Or.inl ⟨by rfl, ?y15⟩) (by assumption) ?r15
                      case y15 => (intro wx hSx; (try dsimp only at hSx); go_simp; (try with_reducible rfl))
                      try simp only [Act.put, List.setIfInBounds_toArray, List.set_cons_zero, List.set_cons_succ]
                      refine wpAnyH_ready (rs := [3]) (by kernel_rfl) (by simp) ?_
                      refine AllReadyH.cons (o := ⟨some 102, _, _, _, _, _⟩) rfl (fun K hK => ?_) AllReadyH.nil
                      refine wp_runE (l.take p) _ _ rfl rfl (OwnE.nil w6.drew (fun q => q < w6.heap.size)) (fun q hq => hq) (HRG7.out.take p) HTL.out (kp_small HP4.out) rfl rfl ?_
                      intro v7 w7 ho7 hf7 hat7
                      have HF77 := hid (show Frm (fun _ => False) w6.drew w7 from hf7.mono (fun q _ hq => by simp [Value.ownBlock] at hq))
                      rw [List.nil_append] at ho7
                      have HO7 := hid ho7
                      clear ho7 hf7 hat7
                      refine hK.out _ _ ?_ (fun hHeld2 => ?_)
                      · ((try dsimp only); (first | done | trivial))
                      clear hK K hHeld; have hHeld := hHeld2; clear hHeld2
                      try simp only [Act.put, List.setIfInBounds_toArray, List.set_cons_zero, List.set_cons_succ]
                      refine wpAnyH_ready (rs := [8]) (by kernel_rfl) (by simp) ?_
                      refine AllReadyH.cons (o := ⟨some 107, _, _, _, _, _⟩) rfl (fun K hK => ?_) AllReadyH.nil
                      refine wp_runE (l.drop (p + 1)) _ _ rfl rfl HO7.out (fun q hq => Nat.lt_of_lt_of_le hq HF77.out.size) (HDR.out.frm HF77.out HGL6.out (fun h => h)) HDL.out (kp_small2 HTL.out HP4.out) rfl rfl ?_
                      intro v8 w8 ho8 hf8 hat8
                      have HO8 := hid ho8
                      have HF8 := hid (HF77.out.trans' hf8 (fun q hq hk => (show ¬ q < w6.heap.size from HO7.out.off q hk) hq))
                      clear ho8 hf8 hat8
                      refine hK.out _ _ ?_ (fun hHeld2 => ?_)
                      · ((try dsimp only); (first | done | trivial))
                      clear hK K hHeld; have hHeld := hHeld2; clear hHeld2
                      try simp only [Act.put, List.setIfInBounds_toArray, List.set_cons_zero, List.set_cons_succ]
                      refine wpAnyH_take (i := 9) (oi := ⟨some 21, _, _, _, _, _⟩) (v := ?v16) rfl (by kernel_rfl) (by kernel_rfl) (by kernel_rfl) (fun _ _ _ h => h) (Or.inl ⟨by rfl, ?y16⟩) (by assumption) ?r16
                      case y16 => (intro wx hSx; (try dsimp only at hSx); go_simp; (try with_reducible rfl))
                      try simp only [Act.put, List.setIfInBounds_toArray, List.set_cons_zero, List.set_cons_succ]
                      refine wpAnyH_done (by kernel_rfl) ?_ _
                      go_wp2_with fail
                      obtain ⟨g8, c8, e8, -, -, -, hr8⟩ := HO8.out.row (kp_pos HLL.out HP4.out)
                      have hbl : (l.take p ++ l.drop (p + 1)).length = 3 := but_len HLL.out HP4.out
                      rw [hbl] at e8
                      subst e8
                      have HF9 := hid (HF7.out.trans HF8.out)
                      have HV8 := hid (HVs.out.sub (HF66.out.trans ((frm_drew w6).trans HF8.out)) (m := but p l) (fun x hx => (but_sub p l).subset hx) hr8)
                      go_meet
                      exact ⟨but p l, 3, c8, _, rfl, hbl, HV8.out, HKI.out.sub (but_sub p l), HF9.out⟩
                  · go_wp2_with fail
                    go_meet
                    exact ⟨l, 4, c6, _, rfl, HLL.out, HV6.out, HKI.out, HF6.out⟩
                case rest =>
                  obtain ⟨ml, nl, c2, a2, rfl, hml, hvo, hki, hf⟩ := hcut
                  have HLC := hid hml; have HVC := hid hvo; have HKC := hid hki; have HFC := hid hf
                  have HI4 := hid hi4
                  clear hml hvo hki hf hgl
                  obtain ⟨gd, hgd⟩ : ∃ gd, goodB (a1 + 1) ml = gd := ⟨_, rfl⟩
                  have HGD := hid hgd
                  clear hgd
                  cases gd
                  · go_wp2_with (first
                      | (go_at_call 15; (with_reducible refine (Choose_no HVC.out HLC.out (a1 + 1) HGD.out).mono ?_); rintro e w8 ⟨rfl, f'⟩; have HF8 := hid ((HFC.out.trans f').trans (dbox w8 (.cells #[.int .u32 0, .int .u64 0] DMk))); clear f'))
                    go_roundg (4 - (i + 1)).toNat
                    case measure => have h1 := HI.out; exact kp_meas h1.1 HI4.out
                    case rel => exact ⟨i + 1, kp_next HI.out.1 HI4.out, rfl, by first | rfl | go_num, HF8.out⟩
                  · have HKP := hid (keep_plain HKC.out HQ8.out HS.out.symm HGD.out)
                    have hlt4 := hi4
                    clear hi4
                    go_wp2_with (first
                      | (go_at_call 15; (with_reducible refine (Choose_yes HVC.out HLC.out (a1 + 1) HGD.out).mono ?_); rintro e w8 ⟨⟨s8, r8, g8, n8, c8, rfl, -, hs8, hr8, hrw8, hn8⟩, f'⟩; obtain rfl : s8 = 0 := (by rw [hs8, HKP.out.1]); obtain rfl : r8 = 9 := (by rw [hr8, HKP.out.1]); have HRW8 := hid hrw8; have HN8 := hid hn8; have HF8 := hid ((HFC.out.trans f').trans (dbox w8 (.cells #[.int .u32 0, .int .u64 9] DMk))); have HF88 := hid (HFC.out.trans f'); clear f' hs8 hr8 hrw8 hn8))
                    have hnn := HN8.out
                    have hq8 : q < n8 := by rw [hnn]; exact HKP.out.2.1
                    have hox := HKP.out.2.2
                    rw [← hnn] at hox
                    have HRW9 := hid (HRW8.out.quiet (dbox w8 (.cells #[.int .u32 0, .int .u64 9] DMk)))
                    have HBX := hid (Blk.new w8 [.int .u32 0, .int .u64 9] DMk)
                    have HM9 := hid ((HM4.out.frm HF8.out (fun h => h))); have HR9 := hid ((HR4.out.frm HF8.out (fun h => h)))
                    obtain ⟨b8, o8, e8, hb8, hc8⟩ := HRW9.out.at_ (fun h0 => by rw [List.eq_nil_of_length_eq_zero h0] at hox; simp at hox)
                    injection e8 with e8
                    injection e8 with e81 e82
                    subst e81 e82
                    have x0 := hc8 q _ hox 0 (by decide); have x1 := hc8 q _ hox 1 (by decide); have x2 := hc8 q _ hox 2 (by decide); have x3 := hc8 q _ hox 3 (by decide); have x4 := hc8 q _ hox 4 (by decide)
                    generalize w8.alloc (.cells #[.int .u32 0, .int .u64 9] DMk) = w9 at *
                    generalize w8.heap.size = bb at *
                    (simp only [rqC, rqE, List.getElem?_cons_succ, List.getElem?_cons_zero, Nat.zero_add, Nat.add_zero] at x0 x1 x2 x3 x4)
                    have n1 := fun w => neq_dm0 w 0 9
                    have n2 := fun w => neq_re0 w c t k0 y v0
                    have hqi : (q : Int) < (n8 : Int) := Int.ofNat_lt.2 hq8
                    have hqd : decide ((n8 : Int) ≤ (q : Int)) = false := decide_eq_false (Int.not_le.2 hqi)
                    have hqd2 : decide (n8 ≤ q) = false := decide_eq_false (Nat.not_le.2 hq8)
                    have hqn : ¬ (n8 : Int) ≤ (q : Int) := Int.not_le.2 hqi
                    have hqn2 : ¬ n8 ≤ q := Nat.not_le.2 hq8
                    have hq0 : (0 : Int) ≤ (q : Int) := Int.natCast_nonneg q
                    have HD9 := hid HF8.out.drew
                    have hiw := kp_iw him hlt4
                    have hiw2 := kp_iw2 him hlt4
                    clear hox hnn hc8 hb8 hlt4 him ew
                    go_wp2_with fail
                    refine wp_region_held_drew (S := fun wx => wx.cell? ⟨bb, 0, none⟩ = some (.int .u32 0) ∧ wx.cell? ⟨bb, 1, none⟩ = some (.int .u64 9) ∧ wx.cell? ⟨mb, 0, none⟩ = some (.int .u32 0) ∧ wx.cell? ⟨mb, 1, none⟩ = some (.int .u64 9) ∧ wx.cell? ⟨g8, q * 5, none⟩ = some (.int .u8 c) ∧ wx.cell? ⟨g8, q * 5 + 1, none⟩ = some (.int .u32 t) ∧ wx.cell? ⟨g8, q * 5 + 2, none⟩ = some (.int .u8 k0) ∧ wx.cell? ⟨g8, q * 5 + 3, none⟩ = some (.int .u8 y) ∧ wx.cell? ⟨g8, q * 5 + 4, none⟩ = some (.int .u16 v0) ∧ wx.cell? ⟨w.heap.size, 0, none⟩ = some (.int .u8 c) ∧ wx.cell? ⟨w.heap.size, 1, none⟩ = some (.int .u32 t) ∧ wx.cell? ⟨w.heap.size, 2, none⟩ = some (.int .u8 k0) ∧ wx.cell? ⟨w.heap.size, 3, none⟩ = some (.int .u8 y) ∧ wx.cell? ⟨w.heap.size, 4, none⟩ = some (.int .u16 v0)) (by kernel_rfl) ?_ (fun hHeld => ?_)
                    · exact ⟨HBX.out.cell 0, HBX.out.cell 1, HM9.out.cell 0, HM9.out.cell 1, x0, x1, x2, x3, x4, HR9.out.cell 0, HR9.out.cell 1, HR9.out.cell 2, HR9.out.cell 3, HR9.out.cell 4⟩
                    refine wpAnyH_take (i := 0) (oi := ⟨some 125, _, _, _, _, _⟩) (v := ?v17) rfl (by kernel_rfl) (by kernel_rfl) (by kernel_rfl) (fun _ _ _ h => h) (Or.inl ⟨by rfl, ?y17⟩) (by assumption) ?r17
                    case y17 => (intro wx hSx; (try dsimp only at hSx); go_simp; (try with_reducible rfl))
                    try simp only [Act.put, List.setIfInBounds_toArray, List.set_cons_zero, List.set_cons_succ]
                    refine wpAnyH_take (i := 1) (oi := ⟨some 126, _, _, _, _, _⟩) (v := ?v18) rfl (by kernel_rfl) (by kernel_rfl) (by kernel_rfl) (fun _ _ _ h => h) (Or.inl ⟨by rfl, ?y18⟩) (by assumption) ?r18
                    case y18 => (intro wx hSx; (try dsimp only at hSx); go_simp; (try with_reducible rfl))
                    try simp only [Act.put, List.setIfInBounds_toArray, List.set_cons_zero, List.set_cons_succ]
                    refine wpAnyH_take (i := 2) (oi := ⟨some 127, _, _, _, _, _⟩) (v := ?v19) rfl (by kernel_rfl) (by kernel_rfl) (by kernel_rfl) (fun _ _ _ h => h) (Or.inl ⟨by rfl, ?y19⟩) (by assumption) ?r19
                    case y19 => (intro wx hSx; (try dsimp only at hSx); go_simp; (try with_reducible rfl))
                    try simp only [Act.put, List.setIfInBounds_toArray, List.set_cons_zero, List.set_cons_succ]
                    refine wpAnyH_take (i := 3) (oi := ⟨some 128, _, _, _, _, _⟩) (v := ?v20) rfl (by kernel_rfl) (by kernel_rfl) (by kernel_rfl) (fun _ _ _ h => h) (Or.inl ⟨by rfl, ?y20⟩) (by assumption) ?r20
                    case y20 => (intro wx hSx; (try dsimp only at hSx); go_simp; (try with_reducible rfl))
                    try simp only [Act.put, List.setIfInBounds_toArray, List.set_cons_zero, List.set_cons_succ]
                    refine wpAnyH_take (i := 4) (oi := ⟨some 129, _, _, _, _, _⟩) (v := ?v21) rfl (by kernel_rfl) (by kernel_rfl) (by kernel_rfl) (fun _ _ _ h => h) (Or.inl ⟨by rfl, ?y21⟩) (by assumption) ?r21
                    case y21 => (intro wx hSx; (try dsimp only at hSx); go_simp; (try with_reducible rfl))
                    try simp only [Act.put, List.setIfInBounds_toArray, List.set_cons_zero, List.set_cons_succ]
                    refine wpAnyH_take (i := 5) (oi := ⟨some 130, _, _, _, _, _⟩) (v := ?v22) rfl (by kernel_rfl) (by kernel_rfl) (by kernel_rfl) (fun _ _ _ h => h) (Or.inl ⟨by rfl, ?y22⟩) (by assumption) ?r22
                    case y22 => (intro wx hSx; (try dsimp only at hSx); go_simp; (try with_reducible rfl))
                    try simp only [Act.put, List.setIfInBounds_toArray, List.set_cons_zero, List.set_cons_succ]
                    refine wpAnyH_take (i := 6) (oi := ⟨some 131, _, _, _, _, _⟩) (v := ?v23) rfl (by kernel_rfl) (by kernel_rfl) (by kernel_rfl) (fun _ _ _ h => h) (Or.inl ⟨by rfl, ?y23⟩) (by assumption) ?r23
                    case y23 => (intro wx hSx; (try dsimp only at hSx); go_simp; (try with_reducible rfl))
                    try simp only [Act.put, List.setIfInBounds_toArray, List.set_cons_zero, List.set_cons_succ]
                    refine wpAnyH_take (i := 7) (oi := ⟨some 132, _, _, _, _, _⟩) (v := ?v24) rfl (by kernel_rfl) (by kernel_rfl) (by kernel_rfl) (fun _ _ _ h => h) (Or.inl ⟨by rfl, ?y24⟩) (by assumption) ?r24
                    case y24 => (intro wx hSx; (try dsimp only at hSx); go_simp; (try with_reducible rfl))
                    try simp only [Act.put, List.setIfInBounds_toArray, List.set_cons_zero, List.set_cons_succ]
                    refine wpAnyH_take (i := 8) (oi := ⟨some 133, _, _, _, _, _⟩) (v := ?v25) rfl (by kernel_rfl) (by kernel_rfl) (by kernel_rfl) (fun _ _ _ h => h) (Or.inl ⟨by rfl, ?y25⟩) (by assumption) ?r25
                    case y25 => (intro wx hSx; (try dsimp only at hSx); go_simp; (try with_reducible rfl))
                    try simp only [Act.put, List.setIfInBounds_toArray, List.set_cons_zero, List.set_cons_succ]
                    refine wpAnyH_take (i := 9) (oi := ⟨some 134, _, _, _, _, _⟩) (v := ?v26) rfl (by kernel_rfl) (by kernel_rfl) (by kernel_rfl) (fun _ _ _ h => h) (Or.inl ⟨by rfl, ?y26⟩) (by assumption) ?r26
                    case y26 => (intro wx hSx; (try dsimp only at hSx); go_simp; (try with_reducible rfl))
                    try simp only [Act.put, List.setIfInBounds_toArray, List.set_cons_zero, List.set_cons_succ]
                    refine wpAnyH_take (i := 10) (oi := ⟨some 135, _, _, _, _, _⟩) (v := ?v27) rfl (by kernel_rfl) (by kernel_rfl) (by kernel_rfl) (fun _ _ _ h => h) (Or.inl ⟨by rfl, ?y27⟩) (by assumption) ?r27
                    case y27 => (intro wx hSx; (try dsimp only at hSx); go_simp; (try with_reducible rfl))
                    try simp only [Act.put, List.setIfInBounds_toArray, List.set_cons_zero, List.set_cons_succ]
                    refine wpAnyH_take (i := 11) (oi := ⟨some 136, _, _, _, _, _⟩) (v := ?v28) rfl (by kernel_rfl) (by kernel_rfl) (by kernel_rfl) (fun _ _ _ h => h) (Or.inl ⟨by rfl, ?y28⟩) (by assumption) ?r28
                    case y28 => (intro wx hSx; (try dsimp only at hSx); go_simp; (try with_reducible rfl))
                    try simp only [Act.put, List.setIfInBounds_toArray, List.set_cons_zero, List.set_cons_succ]
                    refine wpAnyH_take (i := 12) (oi := ⟨some 137, _, _, _, _, _⟩) (v := ?v29) rfl (by kernel_rfl) (by kernel_rfl) (by kernel_rfl) (fun _ _ _ h => h) (Or.inl ⟨by rfl, ?y29⟩) (by assumption) ?r29
                    case y29 => (intro wx hSx; (try dsimp only at hSx); go_simp; (try with_reducible rfl))
                    try simp only [Act.put, List.setIfInBounds_toArray, List.set_cons_zero, List.set_cons_succ]
                    refine wpAnyH_take (i := 13) (oi := ⟨some 138, _, _, _, _, _⟩) (v := ?v30) rfl (by kernel_rfl) (by kernel_rfl) (by kernel_rfl) (fun _ _ _ h => h) (Or.inl ⟨by rfl, ?y30⟩) (by assumption) ?r30
                    case y30 => (intro wx hSx; (try dsimp only at hSx); go_simp; (try with_reducible rfl))
                    try simp only [Act.put, List.setIfInBounds_toArray, List.set_cons_zero, List.set_cons_succ]
                    refine wpAnyH_take (i := 14) (oi := ⟨some 139, _, _, _, _, _⟩) (v := ?v31) rfl (by kernel_rfl) (by kernel_rfl) (by kernel_rfl) (fun _ _ _ h => h) (Or.inl ⟨by rfl, ?y31⟩) (by assumption) ?r31
                    case y31 => (intro wx hSx; (try dsimp only at hSx); go_simp; (try with_reducible rfl))
                    try simp only [Act.put, List.setIfInBounds_toArray, List.set_cons_zero, List.set_cons_succ]
                    refine wpAnyH_take (i := 15) (oi := ⟨some 140, _, _, _, _, _⟩) (v := ?v32) rfl (by kernel_rfl) (by kernel_rfl) (by kernel_rfl) (fun _ _ _ h => h) (Or.inl ⟨by rfl, ?y32⟩) (by assumption) ?r32
                    case y32 => (intro wx hSx; (try dsimp only at hSx); go_simp; (try with_reducible rfl))
                    try simp only [Act.put, List.setIfInBounds_toArray, List.set_cons_zero, List.set_cons_succ]
                    refine wpAnyH_take (i := 16) (oi := ⟨some 141, _, _, _, _, _⟩) (v := ?v33) rfl (by kernel_rfl) (by kernel_rfl) (by kernel_rfl) (fun _ _ _ h => h) (Or.inl ⟨by rfl, ?y33⟩) (by assumption) ?r33
                    case y33 => (intro wx hSx; (try dsimp only at hSx); go_simp; (try with_reducible rfl))
                    try simp only [Act.put, List.setIfInBounds_toArray, List.set_cons_zero, List.set_cons_succ]
                    refine wpAnyH_take (i := 17) (oi := ⟨some 142, _, _, _, _, _⟩) (v := ?v34) rfl (by kernel_rfl) (by kernel_rfl) (by kernel_rfl) (fun _ _ _ h => h) (Or.inl ⟨by rfl, ?y34⟩) (by assumption) ?r34
                    case y34 => (intro wx hSx; (try dsimp only at hSx); go_simp; (try with_reducible rfl))
                    try simp only [Act.put, List.setIfInBounds_toArray, List.set_cons_zero, List.set_cons_succ]
                    refine wpAnyH_take (i := 18) (oi := ⟨some 143, _, _, _, _, _⟩) (v := ?v35) rfl (by kernel_rfl) (by kernel_rfl) (by kernel_rfl) (fun _ _ _ h => h) (Or.inl ⟨by rfl, ?y35⟩) (by assumption) ?r35
                    case y35 => (intro wx hSx; (try dsimp only at hSx); go_simp; (try with_reducible rfl))
                    try simp only [Act.put, List.setIfInBounds_toArray, List.set_cons_zero, List.set_cons_succ]
                    refine wpAnyH_take (i := 19) (oi := ⟨some 144, _, _, _, _, _⟩) (v := ?v36) rfl (by kernel_rfl) (by kernel_rfl) (by kernel_rfl) (fun _ _ _ h => h) (Or.inl ⟨by rfl, ?y36⟩) (by assumption) ?r36
                    case y36 => (intro wx hSx; (try dsimp only at hSx); go_simp; (try with_reducible rfl))
                    try simp only [Act.put, List.setIfInBounds_toArray, List.set_cons_zero, List.set_cons_succ]
                    refine wpAnyH_take (i := 20) (oi := ⟨some 145, _, _, _, _, _⟩) (v := ?v37) rfl (by kernel_rfl) (by kernel_rfl) (by kernel_rfl) (fun _ _ _ h => h) (Or.inl ⟨by rfl, ?y37⟩) (by assumption) ?r37
                    case y37 => (intro wx hSx; (try dsimp only at hSx); go_simp; (try with_reducible rfl))
                    try simp only [Act.put, List.setIfInBounds_toArray, List.set_cons_zero, List.set_cons_succ]
                    refine wpAnyH_take (i := 21) (oi := ⟨some 146, _, _, _, _, _⟩) (v := ?v38) rfl (by kernel_rfl) (by kernel_rfl) (by kernel_rfl) (fun _ _ _ h => h) (Or.inl ⟨by rfl, ?y38⟩) (by assumption) ?r38
                    case y38 => (intro wx hSx; (try dsimp only at hSx); go_simp; (try with_reducible rfl))
                    try simp only [Act.put, List.setIfInBounds_toArray, List.set_cons_zero, List.set_cons_succ]
                    refine wpAnyH_take (i := 22) (oi := ⟨some 147, _, _, _, _, _⟩) (v := ?v39) rfl (by kernel_rfl) (by kernel_rfl) (by kernel_rfl) (fun _ _ _ h => h) (Or.inl ⟨by rfl, ?y39⟩) (by assumption) ?r39
                    case y39 => (intro wx hSx; (try dsimp only at hSx); go_simp; (try with_reducible rfl))
                    try simp only [Act.put, List.setIfInBounds_toArray, List.set_cons_zero, List.set_cons_succ]
                    refine wpAnyH_done (by kernel_rfl) ?_ _
                    
                    go_wp2
                    go_roundg (4 - (i + 1)).toNat
                    case measure => have h1 := HI.out; exact kp_meas h1.1 HI4.out
                    case rel => exact ⟨i + 1, kp_next HI.out.1 HI4.out, rfl, by first | rfl | go_num, HD9.out⟩
end Go.Proofs.YtipalebaaejfjaaDoor
