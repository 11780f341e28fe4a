/- DecideFew, walked: two votes never begin a view, nor do votes of unlike views, or twice one replica's. -/
import Derived.Test.YtipalebaaejfjaaDoorDcArg
import Derived.Test.YtipalebaaejfjaaDoorDcVt2
import Derived.Test.YtipalebaaejfjaaDoorDcKnown
import Derived.Test.YtipalebaaejfjaaDoorOwnE
namespace Go.Proofs.YtipalebaaejfjaaDoor
open Go.RowKit Go.ChangeShapes
set_option linter.unusedVariables false
set_option linter.unusedSimpArgs false
set_option maxRecDepth 100000
theorem blkn2 (W : World) (n : Nat) (hn : W.heap.size = n) (cs : List Value) (T : Nat) : Blk (W.alloc (.cells cs.toArray T)) n cs T := hn ▸ Blk.new W cs T
set_option maxHeartbeats 64000000 in
theorem DecideFew_walk (a0 : Option Addr) (c0 : Nat) (z0 : List VtX) (a1 : Int) (w : World) (htab : Tab w) (h0 : SlK c29 w a0 c0 z0) (h1 : (Lit.int .u32 a1).wf = true) :
    Calls Tryd.prog 7 #[.slice a0 z0.length c0, .int .u32 a1] w fun e w' => e = .returned (.bool true) ∧ Below w.heap.size w w' := by
  obtain ⟨l, hl, hv, -⟩ := vos_of h0 htab
  obtain ⟨L, hL⟩ : ∃ L, l.length = L := ⟨_, rfl⟩
  rw [← hl, hL]
  have hlc : L ≤ c0 := hL ▸ hv.row.le
  have hcs := hv.row.small
  have HV := hid hv; have HV0 := hid hv; have HL := hid hL
  obtain ⟨gd, hgd⟩ : ∃ gd, goodB a1 l = gd := ⟨_, rfl⟩
  have HGD := hid hgd
  clear h0 h1 hl hv hL htab hgd z0
  by_cases g6 : 6 < L
  · have g6i : (6 : Int) < (L : Int) := by omega
    go_enter Tryd.func7, Tryd.ntmps7
    go_wp2_with (first
      | (go_at_call 9; (with_reducible refine (known_calls _).mono ?_); rintro e w1 ⟨rfl, f'⟩; have HF := hid f'; have HV1 := hid (HV.out.quiet f'); clear HV f'))
    go_ret
    exact ⟨rfl, HF.out.below (Nat.le_refl _) (fun _ _ h => h)⟩
  · have g6i : ¬ (6 : Int) < (L : Int) := by omega
    by_cases g2 : L < 2
    · have g2i : ¬ (2 : Int) ≤ (L : Int) := by omega
      cases gd
      · go_enter Tryd.func7, Tryd.ntmps7
        go_wp2_with (first
          | (go_at_call 9; (with_reducible refine (known_calls _).mono ?_); rintro e w1 ⟨rfl, f'⟩; have HF := hid f'; have HV1 := hid (HV.out.quiet f'); clear HV f')
          | (go_at_call 15; (with_reducible refine (Choose_no HV1.out HL.out a1 HGD.out).mono ?_); rintro e w8 ⟨rfl, f'⟩; have HF9 := hid ((HF.out.trans f').trans (dbox w8 (.cells #[.int .u32 0, .int .u64 0] DMk))); clear f'))
        go_ret
        exact ⟨rfl, HF9.out.below (Nat.le_refl _) (fun _ _ h => h)⟩
      · go_enter Tryd.func7, Tryd.ntmps7
        go_wp2_with (first
          | (go_at_call 9; (with_reducible refine (known_calls _).mono ?_); rintro e w1 ⟨rfl, f'⟩; have HF := hid f'; have HV1 := hid (HV.out.quiet f'); clear HV f')
          | (go_at_call 15; (with_reducible refine (Choose_yes HV1.out HL.out a1 HGD.out).mono ?_); rintro e w8 ⟨⟨s, r, g8, n, c8, rfl, hn, -, -, -, -⟩, f'⟩; have hn2 : (n : Int) ≤ 8 := (by omega); have HV8 := hid ((HV1.out.quiet f').quiet (dbox w8 (.cells #[.int .u32 s, .int .u64 r] DMk))); have HF8 := hid ((HF.out.trans f').trans (dbox w8 (.cells #[.int .u32 s, .int .u64 r] DMk))); clear f' hn)
          | (go_at_call 17; (with_reducible refine (Votes2_at HV8.out HL.out a1 true (goodB_vts HGD.out) _ (Frm.refl _ _)).mono ?_); rintro e w9 ⟨rfl, f'⟩; have HF9 := hid (HF8.out.trans f'); clear f'))
        go_ret
        exact ⟨rfl, HF9.out.below (Nat.le_refl _) (fun _ _ h => h)⟩
    · have HT2 := hid (show (l.take 2).length = 2 by rw [List.length_take, HL.out]; omega)
      have HG2 := hid (vts_two a1 (l.take 2) (by rw [HT2.out]; decide))
      obtain ⟨⟨xf, xe, xv, xl, xma, xmc, xms, xpa, xpc, xp, xqa, xqc, xq⟩, hx⟩ : ∃ x, l[0]? = some x := ⟨_, List.getElem?_eq_getElem (by rw [HL.out]; omega)⟩
      obtain ⟨⟨yf, ye, yv, yl, yma, ymc, yms, ypa, ypc, yp, yqa, yqc, yq⟩, hy⟩ : ∃ y, l[1]? = some y := ⟨_, List.getElem?_eq_getElem (by rw [HL.out]; omega)⟩
      obtain ⟨g, o, rfl, hg, -⟩ := HV.out.row.at_ (by rw [HL.out]; omega)
      have HX := hid hx; have HY := hid hy
      have h2i : (2 : Int) ≤ (L : Int) := by omega
      have h2n : ¬ L < 2 := by omega
      have h1n : 1 < L := by omega
      have HG := hid hg
      clear hx hy hg
      go_enter Tryd.func7, Tryd.ntmps7
      go_wp2_with (first
        | (go_at_call 9; (with_reducible refine (known_calls _).mono ?_); rintro e w1 ⟨rfl, f'⟩; have HF := hid f'; have HV1 := hid (HV.out.quiet f'); clear HV f')
        | (go_at_call 15; (with_reducible refine (Choose_no (HV1.out.take 2) HT2.out a1 HG2.out).mono ?_); rintro e w2 ⟨rfl, f'⟩; have HV2 := hid ((HV1.out.quiet f').quiet (dbox w2 (.cells #[.int .u32 0, .int .u64 0] DMk))); have HF2 := hid ((HF.out.trans f').trans (dbox w2 (.cells #[.int .u32 0, .int .u64 0] DMk))); clear HV1 HF f'))
      generalize w2.alloc (.cells #[.int .u32 0, .int .u64 0] DMk) = w3 at *
      have HV3 := hid HV2.out; have HF3 := hid HF2.out
      clear HV2 HF2
      have HCEL := hid (fun (wx : World) (hr : IsRow 7 vmC wx (some ⟨g, o, none⟩) c0 l) => (show wx.cell? ⟨g, o, none⟩ = some (.int .u8 xf) ∧ wx.cell? ⟨g, o + 1, none⟩ = some (.int .u8 xe) ∧ wx.cell? ⟨g, o + 2, none⟩ = some (.int .u32 xv) ∧ wx.cell? ⟨g, o + 3, none⟩ = some (.int .u32 xl) ∧ wx.cell? ⟨g, o + 4, none⟩ = some (.slice xma xms.length xmc) ∧ wx.cell? ⟨g, o + 5, none⟩ = some (.slice xpa xp.length xpc) ∧ wx.cell? ⟨g, o + 6, none⟩ = some (.slice xqa xq.length xqc) ∧ wx.cell? ⟨g, o + 7, none⟩ = some (.int .u8 yf) ∧ wx.cell? ⟨g, o + 7 + 1, none⟩ = some (.int .u8 ye) ∧ wx.cell? ⟨g, o + 7 + 2, none⟩ = some (.int .u32 yv) ∧ wx.cell? ⟨g, o + 7 + 3, none⟩ = some (.int .u32 yl) ∧ wx.cell? ⟨g, o + 7 + 4, none⟩ = some (.slice yma yms.length ymc) ∧ wx.cell? ⟨g, o + 7 + 5, none⟩ = some (.slice ypa yp.length ypc) ∧ wx.cell? ⟨g, o + 7 + 6, none⟩ = some (.slice yqa yq.length yqc) from by
        obtain ⟨b', o', e, _, hc⟩ := hr.at_ (by rw [HL.out]; omega)
        injection e with e
        injection e with e3 e4
        subst e3 e4
        have k0 := fun i hi => hc 0 _ HX.out i hi
        have k1 := fun i hi => hc 1 _ HY.out i hi
        simp only [Nat.zero_mul, Nat.one_mul, Nat.add_zero] at k0 k1
        exact ⟨k0 0 (by decide), k0 1 (by decide), k0 2 (by decide), k0 3 (by decide), k0 4 (by decide), k0 5 (by decide), k0 6 (by decide), k1 0 (by decide), k1 1 (by decide), k1 2 (by decide), k1 3 (by decide), k1 4 (by decide), k1 5 (by decide), k1 6 (by decide)⟩))
      obtain ⟨j0, j1, j2, j3, j4, j5, j6, j7, j8, j9, j10, j11, j12, j13⟩ := HCEL.out _ HV3.out.row
      have i0 : (0 : Int) < (L : Int) := by omega
      have i1 : (1 : Int) < (L : Int) := by omega
      have n0 : 0 < L := by omega
      have hgw : g < w.heap.size := HG.out
      have hsz := HF3.out.size
      have HLE0 := hid hsz; have HLE1 := hid (show w.heap.size ≤ w3.heap.size + 1 by omega)
      have hn1 : ¬ g = w3.heap.size := by omega
      have hn2 : ¬ w3.heap.size = g := by omega
      have hn3 : ¬ g = w3.heap.size + 1 := by omega
      have hn4 : ¬ w3.heap.size + 1 = g := by omega
      have HMEM := hid (show ∀ v ∈ [(⟨xf, xe, xv, xl, xma, xmc, xms, xpa, xpc, xp, xqa, xqc, xq⟩ : Vm), (⟨yf, ye, yv, yl, yma, ymc, yms, ypa, ypc, yp, yqa, yqc, yq⟩ : Vm), (⟨yf, ye, yv, yl, yma, ymc, yms, ypa, ypc, yp, yqa, yqc, yq⟩ : Vm)], v ∈ l from fun v hv => by
        simp only [List.mem_cons, List.not_mem_nil, or_false] at hv
        rcases hv with rfl | rfl | rfl
        · exact List.mem_of_getElem? HX.out
        · exact List.mem_of_getElem? HY.out
        · exact List.mem_of_getElem? HY.out)
      have HG3 := hid (vts_dup a1 (⟨xf, xe, xv, xl, xma, xmc, xms, xpa, xpc, xp, xqa, xqc, xq⟩ : Vm) (⟨yf, ye, yv, yl, yma, ymc, yms, ypa, ypc, yp, yqa, yqc, yq⟩ : Vm))
      have H3L := hid (show [(⟨xf, xe, xv, xl, xma, xmc, xms, xpa, xpc, xp, xqa, xqc, xq⟩ : Vm), (⟨yf, ye, yv, yl, yma, ymc, yms, ypa, ypc, yp, yqa, yqc, yq⟩ : Vm), (⟨yf, ye, yv, yl, yma, ymc, yms, ypa, ypc, yp, yqa, yqc, yq⟩ : Vm)].length = 3 from rfl)
      have HCa := hid (show IsVos2 (((w3.alloc (.cells #[.int .u32 0, .int .u64 0] DMk)).alloc (.cells #[.int .u8 xf, .int .u8 xe, .int .u32 xv, .int .u32 xl, .slice xma xms.length xmc, .slice xpa xp.length xpc, .slice xqa xq.length xqc, .int .u8 yf, .int .u8 ye, .int .u32 yv, .int .u32 yl, .slice yma yms.length ymc, .slice ypa yp.length ypc, .slice yqa yq.length yqc, .int .u8 yf, .int .u8 ye, .int .u32 yv, .int .u32 yl, .slice yma yms.length ymc, .slice ypa yp.length ypc, .slice yqa yq.length yqc] TVm)).drew) (some ⟨w3.heap.size + 1, 0, none⟩) 3 [(⟨xf, xe, xv, xl, xma, xmc, xms, xpa, xpc, xp, xqa, xqc, xq⟩ : Vm), (⟨yf, ye, yv, yl, yma, ymc, yms, ypa, ypc, yp, yqa, yqc, yq⟩ : Vm), (⟨yf, ye, yv, yl, yma, ymc, yms, ypa, ypc, yp, yqa, yqc, yq⟩ : Vm)] from HV3.out.copy (by repeat (first | exact Frm.refl _ _ | refine Frm.drew ?_ | refine Frm.alloc ?_ _)) HMEM.out (T := TVm) (two_boxes w3 [.int .u32 0, .int .u64 0] [.int .u8 xf, .int .u8 xe, .int .u32 xv, .int .u32 xl, .slice xma xms.length xmc, .slice xpa xp.length xpc, .slice xqa xq.length xqc, .int .u8 yf, .int .u8 ye, .int .u32 yv, .int .u32 yl, .slice yma yms.length ymc, .slice ypa yp.length ypc, .slice yqa yq.length yqc, .int .u8 yf, .int .u8 ye, .int .u32 yv, .int .u32 yl, .slice yma yms.length ymc, .slice ypa yp.length ypc, .slice yqa yq.length yqc] DMk TVm).drew (by show 3 ≤ _; decide))
      have HCb := hid (show IsVos2 (((w3.alloc (.cells #[.int .u8 xf, .int .u8 xe, .int .u32 xv, .int .u32 xl, .slice xma xms.length xmc, .slice xpa xp.length xpc, .slice xqa xq.length xqc, .int .u8 yf, .int .u8 ye, .int .u32 yv, .int .u32 yl, .slice yma yms.length ymc, .slice ypa yp.length ypc, .slice yqa yq.length yqc, .int .u8 yf, .int .u8 ye, .int .u32 yv, .int .u32 yl, .slice yma yms.length ymc, .slice ypa yp.length ypc, .slice yqa yq.length yqc] TVm)).alloc (.cells #[.int .u32 0, .int .u64 0] DMk)).drew) (some ⟨w3.heap.size, 0, none⟩) 3 [(⟨xf, xe, xv, xl, xma, xmc, xms, xpa, xpc, xp, xqa, xqc, xq⟩ : Vm), (⟨yf, ye, yv, yl, yma, ymc, yms, ypa, ypc, yp, yqa, yqc, yq⟩ : Vm), (⟨yf, ye, yv, yl, yma, ymc, yms, ypa, ypc, yp, yqa, yqc, yq⟩ : Vm)] from HV3.out.copy (by repeat (first | exact Frm.refl _ _ | refine Frm.drew ?_ | refine Frm.alloc ?_ _)) HMEM.out (T := TVm) ((Blk.new w3 [.int .u8 xf, .int .u8 xe, .int .u32 xv, .int .u32 xl, .slice xma xms.length xmc, .slice xpa xp.length xpc, .slice xqa xq.length xqc, .int .u8 yf, .int .u8 ye, .int .u32 yv, .int .u32 yl, .slice yma yms.length ymc, .slice ypa yp.length ypc, .slice yqa yq.length yqc, .int .u8 yf, .int .u8 ye, .int .u32 yv, .int .u32 yl, .slice yma yms.length ymc, .slice ypa yp.length ypc, .slice yqa yq.length yqc] TVm).frm (dbox _ (.cells #[.int .u32 0, .int .u64 0] DMk)) (fun h => h)).drew (by show 3 ≤ _; decide))
      have HCc := hid (show IsVos2 ((w3.alloc (.cells #[.int .u8 xf, .int .u8 xe, .int .u32 xv, .int .u32 xl, .slice xma xms.length xmc, .slice xpa xp.length xpc, .slice xqa xq.length xqc, .int .u8 yf, .int .u8 ye, .int .u32 yv, .int .u32 yl, .slice yma yms.length ymc, .slice ypa yp.length ypc, .slice yqa yq.length yqc, .int .u8 yf, .int .u8 ye, .int .u32 yv, .int .u32 yl, .slice yma yms.length ymc, .slice ypa yp.length ypc, .slice yqa yq.length yqc] TVm)).drew) (some ⟨w3.heap.size, 0, none⟩) 3 [(⟨xf, xe, xv, xl, xma, xmc, xms, xpa, xpc, xp, xqa, xqc, xq⟩ : Vm), (⟨yf, ye, yv, yl, yma, ymc, yms, ypa, ypc, yp, yqa, yqc, yq⟩ : Vm), (⟨yf, ye, yv, yl, yma, ymc, yms, ypa, ypc, yp, yqa, yqc, yq⟩ : Vm)] from HV3.out.copy (by repeat (first | exact Frm.refl _ _ | refine Frm.drew ?_ | refine Frm.alloc ?_ _)) HMEM.out (T := TVm) (Blk.new w3 [.int .u8 xf, .int .u8 xe, .int .u32 xv, .int .u32 xl, .slice xma xms.length xmc, .slice xpa xp.length xpc, .slice xqa xq.length xqc, .int .u8 yf, .int .u8 ye, .int .u32 yv, .int .u32 yl, .slice yma yms.length ymc, .slice ypa yp.length ypc, .slice yqa yq.length yqc, .int .u8 yf, .int .u8 ye, .int .u32 yv, .int .u32 yl, .slice yma yms.length ymc, .slice ypa yp.length ypc, .slice yqa yq.length yqc] TVm).drew (by show 3 ≤ _; decide))
      go_region_held3 (fun wx => wx.cell? ⟨g, o, none⟩ = some (.int .u8 xf) ∧ wx.cell? ⟨g, o + 1, none⟩ = some (.int .u8 xe) ∧ wx.cell? ⟨g, o + 2, none⟩ = some (.int .u32 xv) ∧ wx.cell? ⟨g, o + 3, none⟩ = some (.int .u32 xl) ∧ wx.cell? ⟨g, o + 4, none⟩ = some (.slice xma xms.length xmc) ∧ wx.cell? ⟨g, o + 5, none⟩ = some (.slice xpa xp.length xpc) ∧ wx.cell? ⟨g, o + 6, none⟩ = some (.slice xqa xq.length xqc) ∧ wx.cell? ⟨g, o + 7, none⟩ = some (.int .u8 yf) ∧ wx.cell? ⟨g, o + 7 + 1, none⟩ = some (.int .u8 ye) ∧ wx.cell? ⟨g, o + 7 + 2, none⟩ = some (.int .u32 yv) ∧ wx.cell? ⟨g, o + 7 + 3, none⟩ = some (.int .u32 yl) ∧ wx.cell? ⟨g, o + 7 + 4, none⟩ = some (.slice yma yms.length ymc) ∧ wx.cell? ⟨g, o + 7 + 5, none⟩ = some (.slice ypa yp.length ypc) ∧ wx.cell? ⟨g, o + 7 + 6, none⟩ = some (.slice yqa yq.length yqc)) (first | go_keep | exact HCEL.out _ (HV0.out.quiet HF4.out).row) (first
        | (go_at_call 15; (with_reducible refine (Choose_no HCa.out H3L.out a1 HG3.out).mono ?_); rintro e w4 ⟨rfl, f'⟩; have HF4 := hid ((HF3.out.trans (show Frm (fun _ => False) w3 (((w3.alloc (.cells #[.int .u32 0, .int .u64 0] DMk)).alloc (.cells #[.int .u8 xf, .int .u8 xe, .int .u32 xv, .int .u32 xl, .slice xma xms.length xmc, .slice xpa xp.length xpc, .slice xqa xq.length xqc, .int .u8 yf, .int .u8 ye, .int .u32 yv, .int .u32 yl, .slice yma yms.length ymc, .slice ypa yp.length ypc, .slice yqa yq.length yqc, .int .u8 yf, .int .u8 ye, .int .u32 yv, .int .u32 yl, .slice yma yms.length ymc, .slice ypa yp.length ypc, .slice yqa yq.length yqc] TVm)).drew) from (by repeat (first | exact Frm.refl _ _ | refine Frm.drew ?_ | refine Frm.alloc ?_ _)))).trans f'); obtain ⟨j0, j1, j2, j3, j4, j5, j6, j7, j8, j9, j10, j11, j12, j13⟩ := HCEL.out _ (HV0.out.quiet HF4.out).row; have HB4 := hid ((show Blk (((w3.alloc (.cells #[.int .u32 0, .int .u64 0] DMk)).alloc (.cells #[.int .u8 xf, .int .u8 xe, .int .u32 xv, .int .u32 xl, .slice xma xms.length xmc, .slice xpa xp.length xpc, .slice xqa xq.length xqc, .int .u8 yf, .int .u8 ye, .int .u32 yv, .int .u32 yl, .slice yma yms.length ymc, .slice ypa yp.length ypc, .slice yqa yq.length yqc, .int .u8 yf, .int .u8 ye, .int .u32 yv, .int .u32 yl, .slice yma yms.length ymc, .slice ypa yp.length ypc, .slice yqa yq.length yqc] TVm)).drew) w3.heap.size [.int .u32 0, .int .u64 0] DMk from ((Blk.new w3 [.int .u32 0, .int .u64 0] DMk).frm (dbox _ (.cells #[.int .u8 xf, .int .u8 xe, .int .u32 xv, .int .u32 xl, .slice xma xms.length xmc, .slice xpa xp.length xpc, .slice xqa xq.length xqc, .int .u8 yf, .int .u8 ye, .int .u32 yv, .int .u32 yl, .slice yma yms.length ymc, .slice ypa yp.length ypc, .slice yqa yq.length yqc, .int .u8 yf, .int .u8 ye, .int .u32 yv, .int .u32 yl, .slice yma yms.length ymc, .slice ypa yp.length ypc, .slice yqa yq.length yqc] TVm)) (fun h => h)).drew).frm f' (fun h => h)); have b0 := HB4.out.cell 0; have z0 := HB4.out.free 0; have b1 := HB4.out.cell 1; have z1 := HB4.out.free 1; have hbl := HB4.out.lt; (simp only [List.getElem?_cons_succ, List.getElem?_cons_zero] at b0 b1); clear f')
        | (go_at_call 15; (with_reducible refine (Choose_no HCb.out H3L.out a1 HG3.out).mono ?_); rintro e w4 ⟨rfl, f'⟩; have HF4 := hid ((HF3.out.trans (show Frm (fun _ => False) w3 (((w3.alloc (.cells #[.int .u8 xf, .int .u8 xe, .int .u32 xv, .int .u32 xl, .slice xma xms.length xmc, .slice xpa xp.length xpc, .slice xqa xq.length xqc, .int .u8 yf, .int .u8 ye, .int .u32 yv, .int .u32 yl, .slice yma yms.length ymc, .slice ypa yp.length ypc, .slice yqa yq.length yqc, .int .u8 yf, .int .u8 ye, .int .u32 yv, .int .u32 yl, .slice yma yms.length ymc, .slice ypa yp.length ypc, .slice yqa yq.length yqc] TVm)).alloc (.cells #[.int .u32 0, .int .u64 0] DMk)).drew) from (by repeat (first | exact Frm.refl _ _ | refine Frm.drew ?_ | refine Frm.alloc ?_ _)))).trans f'); obtain ⟨j0, j1, j2, j3, j4, j5, j6, j7, j8, j9, j10, j11, j12, j13⟩ := HCEL.out _ (HV0.out.quiet HF4.out).row; have HB4 := hid ((show Blk (((w3.alloc (.cells #[.int .u8 xf, .int .u8 xe, .int .u32 xv, .int .u32 xl, .slice xma xms.length xmc, .slice xpa xp.length xpc, .slice xqa xq.length xqc, .int .u8 yf, .int .u8 ye, .int .u32 yv, .int .u32 yl, .slice yma yms.length ymc, .slice ypa yp.length ypc, .slice yqa yq.length yqc, .int .u8 yf, .int .u8 ye, .int .u32 yv, .int .u32 yl, .slice yma yms.length ymc, .slice ypa yp.length ypc, .slice yqa yq.length yqc] TVm)).alloc (.cells #[.int .u32 0, .int .u64 0] DMk)).drew) (w3.heap.size + 1) [.int .u32 0, .int .u64 0] DMk from (two_boxes w3 [.int .u8 xf, .int .u8 xe, .int .u32 xv, .int .u32 xl, .slice xma xms.length xmc, .slice xpa xp.length xpc, .slice xqa xq.length xqc, .int .u8 yf, .int .u8 ye, .int .u32 yv, .int .u32 yl, .slice yma yms.length ymc, .slice ypa yp.length ypc, .slice yqa yq.length yqc, .int .u8 yf, .int .u8 ye, .int .u32 yv, .int .u32 yl, .slice yma yms.length ymc, .slice ypa yp.length ypc, .slice yqa yq.length yqc] [.int .u32 0, .int .u64 0] TVm DMk).drew).frm f' (fun h => h)); have b0 := HB4.out.cell 0; have z0 := HB4.out.free 0; have b1 := HB4.out.cell 1; have z1 := HB4.out.free 1; have hbl := HB4.out.lt; (simp only [List.getElem?_cons_succ, List.getElem?_cons_zero] at b0 b1); clear f')
        | (go_at_call 15; (with_reducible refine (Choose_no HCc.out H3L.out a1 HG3.out).mono ?_); rintro e w4 ⟨rfl, f'⟩; have HF4 := hid ((HF3.out.trans (show Frm (fun _ => False) w3 ((w3.alloc (.cells #[.int .u8 xf, .int .u8 xe, .int .u32 xv, .int .u32 xl, .slice xma xms.length xmc, .slice xpa xp.length xpc, .slice xqa xq.length xqc, .int .u8 yf, .int .u8 ye, .int .u32 yv, .int .u32 yl, .slice yma yms.length ymc, .slice ypa yp.length ypc, .slice yqa yq.length yqc, .int .u8 yf, .int .u8 ye, .int .u32 yv, .int .u32 yl, .slice yma yms.length ymc, .slice ypa yp.length ypc, .slice yqa yq.length yqc] TVm)).drew) from (by repeat (first | exact Frm.refl _ _ | refine Frm.drew ?_ | refine Frm.alloc ?_ _)))).trans f'); obtain ⟨j0, j1, j2, j3, j4, j5, j6, j7, j8, j9, j10, j11, j12, j13⟩ := HCEL.out _ (HV0.out.quiet HF4.out).row; clear f'))
      · have HF5 := hid (show Frm (fun _ => False) w (w4.alloc (.cells #[.int .u32 0, .int .u64 0] DMk)) from HF4.out.trans (dbox w4 (.cells #[.int .u32 0, .int .u64 0] DMk)))
        generalize w4.alloc (.cells #[.int .u32 0, .int .u64 0] DMk) = w5 at *
        have HV5 := hid (HV0.out.quiet HF5.out)
        clear HF4
        cases gd
        · go_wp2_with (first
            | (go_at_call 15; (with_reducible refine (Choose_no HV5.out HL.out a1 HGD.out).mono ?_); rintro e w8 ⟨rfl, f'⟩; have HF9 := hid ((HF5.out.trans f').trans (dbox w8 (.cells #[.int .u32 0, .int .u64 0] DMk))); clear f'))
          go_ret
          exact ⟨rfl, HF9.out.below (Nat.le_refl _) (fun _ _ h => h)⟩
        · go_wp2_with (first
            | (go_at_call 15; (with_reducible refine (Choose_yes HV5.out HL.out a1 HGD.out).mono ?_); rintro e w8 ⟨⟨s, r, g8, n, c8, rfl, hn, -, -, -, -⟩, f'⟩; have hn2 : (n : Int) ≤ 8 := (by omega); have HV8 := hid ((HV5.out.quiet f').quiet (dbox w8 (.cells #[.int .u32 s, .int .u64 r] DMk))); have HF8 := hid ((HF5.out.trans f').trans (dbox w8 (.cells #[.int .u32 s, .int .u64 r] DMk))); clear f' hn)
            | (go_at_call 17; (with_reducible refine (Votes2_at HV8.out HL.out a1 true (goodB_vts HGD.out) _ (Frm.refl _ _)).mono ?_); rintro e w9 ⟨rfl, f'⟩; have HF9 := hid (HF8.out.trans f'); clear f'))
          go_ret
          exact ⟨rfl, HF9.out.below (Nat.le_refl _) (fun _ _ h => h)⟩
      · have HF5 := hid (show Frm (fun _ => False) w ((w4.setCell ⟨w3.heap.size + 1, 0, none⟩ (.int .u32 0)).setCell ⟨w3.heap.size + 1, 1, none⟩ (.int .u64 0)) from (HF4.out.setCell _ _ (.inl HLE1.out)).setCell _ _ (.inl HLE1.out))
        generalize (w4.setCell ⟨w3.heap.size + 1, 0, none⟩ (.int .u32 0)).setCell ⟨w3.heap.size + 1, 1, none⟩ (.int .u64 0) = w5 at *
        have HV5 := hid (HV0.out.quiet HF5.out)
        clear HF4
        cases gd
        · go_wp2_with (first
            | (go_at_call 15; (with_reducible refine (Choose_no HV5.out HL.out a1 HGD.out).mono ?_); rintro e w8 ⟨rfl, f'⟩; have HF9 := hid ((HF5.out.trans f').trans (dbox w8 (.cells #[.int .u32 0, .int .u64 0] DMk))); clear f'))
          go_ret
          exact ⟨rfl, HF9.out.below (Nat.le_refl _) (fun _ _ h => h)⟩
        · go_wp2_with (first
            | (go_at_call 15; (with_reducible refine (Choose_yes HV5.out HL.out a1 HGD.out).mono ?_); rintro e w8 ⟨⟨s, r, g8, n, c8, rfl, hn, -, -, -, -⟩, f'⟩; have hn2 : (n : Int) ≤ 8 := (by omega); have HV8 := hid ((HV5.out.quiet f').quiet (dbox w8 (.cells #[.int .u32 s, .int .u64 r] DMk))); have HF8 := hid ((HF5.out.trans f').trans (dbox w8 (.cells #[.int .u32 s, .int .u64 r] DMk))); clear f' hn)
            | (go_at_call 17; (with_reducible refine (Votes2_at HV8.out HL.out a1 true (goodB_vts HGD.out) _ (Frm.refl _ _)).mono ?_); rintro e w9 ⟨rfl, f'⟩; have HF9 := hid (HF8.out.trans f'); clear f'))
          go_ret
          exact ⟨rfl, HF9.out.below (Nat.le_refl _) (fun _ _ h => h)⟩
      · have HF5 := hid (show Frm (fun _ => False) w ((w4.setCell ⟨w3.heap.size, 0, none⟩ (.int .u32 0)).setCell ⟨w3.heap.size, 1, none⟩ (.int .u64 0)) from (HF4.out.setCell _ _ (.inl HLE0.out)).setCell _ _ (.inl HLE0.out))
        generalize (w4.setCell ⟨w3.heap.size, 0, none⟩ (.int .u32 0)).setCell ⟨w3.heap.size, 1, none⟩ (.int .u64 0) = w5 at *
        have HV5 := hid (HV0.out.quiet HF5.out)
        clear HF4
        cases gd
        · go_wp2_with (first
            | (go_at_call 15; (with_reducible refine (Choose_no HV5.out HL.out a1 HGD.out).mono ?_); rintro e w8 ⟨rfl, f'⟩; have HF9 := hid ((HF5.out.trans f').trans (dbox w8 (.cells #[.int .u32 0, .int .u64 0] DMk))); clear f'))
          go_ret
          exact ⟨rfl, HF9.out.below (Nat.le_refl _) (fun _ _ h => h)⟩
        · go_wp2_with (first
            | (go_at_call 15; (with_reducible refine (Choose_yes HV5.out HL.out a1 HGD.out).mono ?_); rintro e w8 ⟨⟨s, r, g8, n, c8, rfl, hn, -, -, -, -⟩, f'⟩; have hn2 : (n : Int) ≤ 8 := (by omega); have HV8 := hid ((HV5.out.quiet f').quiet (dbox w8 (.cells #[.int .u32 s, .int .u64 r] DMk))); have HF8 := hid ((HF5.out.trans f').trans (dbox w8 (.cells #[.int .u32 s, .int .u64 r] DMk))); clear f' hn)
            | (go_at_call 17; (with_reducible refine (Votes2_at HV8.out HL.out a1 true (goodB_vts HGD.out) _ (Frm.refl _ _)).mono ?_); rintro e w9 ⟨rfl, f'⟩; have HF9 := hid (HF8.out.trans f'); clear f'))
          go_ret
          exact ⟨rfl, HF9.out.below (Nat.le_refl _) (fun _ _ h => h)⟩
end Go.Proofs.YtipalebaaejfjaaDoor
