/- ViewsFor, walked: each replica's last vote counts, for its view alone; dropped and forgotten ones don't. For every row of at most 40 votes, every view that is dropped and every replica that is forgotten. -/
import Derived.Test.YtkpeoenbeaapoaaDoorVwForP
import Derived.Test.YtkpeoenbeaapoaaDoorArgs
import Derived.Test.YtkpeoenbeaapoaaDoorHeld
import Derived.Deep.QuietTactic
namespace Go.Proofs.YtkpeoenbeaapoaaDoor
open Go.RowKit Go.ChangeShapes
set_option linter.unusedVariables false
set_option linter.unusedSimpArgs false
set_option maxRecDepth 100000
abbrev TL4 : Nat := 51
def lC (M : List Int) : List Value := M.map (Value.int .u32)
theorem lC_at (M : List Int) (k : Nat) (hk : k < M.length) : (lC M)[k]? = some (.int .u32 (M.getD k 0)) := by
  unfold lC; rw [List.getElem?_map, List.getD_eq_getElem?_getD, List.getElem?_eq_getElem hk]; rfl
theorem lC_set (M : List Int) (k : Nat) (x : Int) : (lC M).set k (.int .u32 x) = lC (M.set k x) := by unfold lC; rw [List.map_set]
theorem IsVs.dq {w : World} {b : Nat} {T : List Vt} (h : IsVs w b T) (n : Nat) : IsVs (w.drewN n).drew b T := ⟨h.blk, h.len⟩
theorem Blk.dq {w : World} {b : Nat} {cs : List Value} {T : Nat} (h : Blk w b cs T) (n : Nat) : Blk (w.drewN n).drew b cs T := h
theorem below_dq {B : Nat} {a w : World} (h : Below B a w) (n : Nat) : Below B a (w.drewN n).drew := ⟨h.os, h.tape, h.output, h.size, h.block⟩
set_option maxHeartbeats 16000000 in
theorem ViewsFor_walk (a0 : Option Addr) (c0 : Nat) (z0 : List Int) (a1 a2 : Int) (w : World) (h0 : IsInts .u8 w a0 c0 z0) (h1 : (Lit.int .u8 a1).wf = true) (h2 : (Lit.int .u8 a2).wf = true) :
    Calls Tryd.prog 5 #[.slice a0 z0.length c0, .int .u8 a1, .int .u8 a2] w fun e w' => e = .returned (.bool true) ∧ Below w.heap.size w w' := by
  have hle := h0.le
  have hsm := h0.small
  have HWF := hid (show ∀ y ∈ z0, 0 ≤ y ∧ y ≤ 255 from fun y hy => (by have := h0.wf y hy; simp [Lit.wf, IntKind.min, IntKind.max, IntKind.bits, IntKind.signed] at this; omega))
  have HA1 := hid (show 0 ≤ a1 ∧ a1 ≤ 255 by simp [Lit.wf, IntKind.min, IntKind.max, IntKind.bits, IntKind.signed] at h1; omega)
  have HA2 := hid (show 0 ≤ a2 ∧ a2 ≤ 255 by simp [Lit.wf, IntKind.min, IntKind.max, IntKind.bits, IntKind.signed] at h2; omega)
  clear h1 h2
  by_cases hlen : z0.length > 40
  · clear HWF HA1 HA2
    go_enter Tryd.func5, Tryd.ntmps5
    go_wp2_with (go_at_call 6; (with_reducible refine (known_calls _).mono ?_); rintro e w1 ⟨rfl, f'⟩; have HF := hid (f'.below (B := w.heap.size) (Nat.le_refl _) (fun k hk hn => hn)); clear f')
    go_ret
    exact ⟨rfl, HF.out⟩
  · go_enter Tryd.func5, Tryd.ntmps5
    go_wp2_with (first
      | (go_at_call 6; (with_reducible refine (known_calls _).mono ?_); rintro e w1 ⟨rfl, f'⟩; have HF := hid (f'.below (B := w.heap.size) (Nat.le_refl _) (fun k hk hn => hn)); clear f')
      | (go_at_call 7; (with_reducible refine (VNew_calls _).mono ?_); rintro e w2 ⟨rfl, hv, hf⟩; have HV := hid hv; have HVW := hid (show w.heap.size ≤ w1.heap.size from HF.out.size); have HF2 := hid (HF.out.trans (hf.below HF.out.size (fun k hk hn => hn))); have HL0 := hid (show w1.heap.size < w2.heap.size from HV.out.blk.lt); clear hv hf HF; have HF := HF2; clear HF2))
    have HL := hid (Blk.new w2 (lC [0, 0, 0, 0]) TL4)
    have HV2 := hid (HV.out.frm (vbox w2 (.cells (lC [0, 0, 0, 0]).toArray TL4)) (fun h => h)); clear HV; have HV := HV2; clear HV2
    have HF2 := hid (HF.out.trans ((vbox w2 (.cells (lC [0, 0, 0, 0]).toArray TL4)).below HF.out.size (fun k hk hn => hn))); clear HF; have HF := HF2; clear HF2
    have HH0 := hid h0
    obtain ⟨vb, hvb⟩ : ∃ vb, w1.heap.size = vb := ⟨_, rfl⟩
    rw [hvb] at HV HVW HL0 ⊢
    obtain ⟨lb, hlb⟩ : ∃ lb, w2.heap.size = lb := ⟨_, rfl⟩
    rw [hlb] at HL HL0 ⊢
    have HLV := hid (show ¬ lb = vb by have := HL0.out; omega)
    have HLW := hid (show w.heap.size ≤ lb by have := HL0.out; have := HVW.out; omega)
    have HLN := hid hlen
    have HZ40 := hid (show z0.length ≤ 40 by omega)
    clear hvb hlb h0 HL0 hlen
    go_loopw [9] (fun iv wr => ∃ (k : Nat), k ≤ z0.length ∧ iv = .int .i64 k ∧ IsVs wr vb (tOf (lAll (z0.take k))) ∧ Blk wr lb (lC (lAll (z0.take k))) TL4 ∧ Below w.heap.size w wr) (fun i _ => z0.length - (intOf i).toNat)
    case atStart => exact ⟨0, by omega, rfl, HV.out, HL.out, HF.out⟩
    case round =>
      clear HV HL HF
      obtain ⟨k, hk, rfl, hv, hl, hf⟩ := hrel
      have HV := hid hv; have HL := hid hl; have HF := hid hf
      have HK := hid hk
      clear hv hl hf
      by_cases hlt : k < z0.length
      · obtain ⟨ga, off, rfl, hga, hc⟩ := HH0.out.at_ (by omega)
        have hcx : wr.cell? ⟨ga, off + k, none⟩ = some (.int .u8 (z0.getD k 0)) := ((HF.out.cell (p := ⟨ga, off + k, none⟩) hga).trans (hc k hlt))
        have hgy : z0[k]? = some (z0.getD k 0) := by rw [List.getD_eq_getElem?_getD, List.getElem?_eq_getElem hlt]; rfl
        have hwf := HWF.out _ (List.mem_of_getElem? hgy)
        obtain ⟨y, hy⟩ : ∃ y, z0.getD k 0 = y := ⟨_, rfl⟩
        rw [hy] at hcx hgy hwf
        obtain ⟨M, hM⟩ : ∃ M, lAll (z0.take k) = M := ⟨_, rfl⟩
        have HM4 := hid (show M.length = 4 from hM ▸ lAll_len _)
        have HMO := hid (show okM M from hM ▸ okM_all z0 k)
        have HSU := hid (show lAll (z0.take (k + 1)) = lStep M y from hM ▸ lAll_succ z0 k y hgy)
        rw [hM] at HV HL
        obtain ⟨n, hn⟩ : ∃ n : Nat, whoOf y = n := ⟨_, rfl⟩
        have HN4 := hid (show n < 4 from hn ▸ whoOf_lt y)
        obtain ⟨m, hm⟩ : ∃ m, M.getD n 0 = m := ⟨_, rfl⟩
        have HC := hid (show (lC M)[n]? = some (.int .u32 m) from hm ▸ lC_at M n (by rw [HM4.out]; exact HN4.out))
        obtain ⟨hm0, hm10⟩ : 0 ≤ m ∧ m ≤ 10 := hm ▸ HMO.out n
        obtain ⟨r, hr⟩ : ∃ r, y / 4 % 10 = r := ⟨_, rfl⟩
        obtain ⟨hr0, hr9⟩ : 0 ≤ r ∧ r ≤ 9 := by omega
        have HVW2 := hid (show vwOf y = r + 1 by unfold vwOf; omega)
        have hnt : y.tmod 4 = (n : Int) := by rw [Int.tmod_eq_emod_of_nonneg hwf.1]; unfold whoOf at hn; omega
        obtain ⟨q, hq⟩ : ∃ q, y / 4 = q := ⟨_, rfl⟩
        have hqt : IntKind.u8.wrap (y.tdiv 4) = q := by rw [Int.tdiv_eq_ediv_of_nonneg hwf.1, hq]; simp [IntKind.wrap, IntKind.bits, IntKind.signed]; omega
        have hw1 : IntKind.u32.wrap r = r := by simp [IntKind.wrap, IntKind.bits, IntKind.signed]; omega
        have hw2 : IntKind.u32.wrap (r + 1) = r + 1 := by simp [IntKind.wrap, IntKind.bits, IntKind.signed]; omega
        have hq0 : 0 ≤ q := by omega
        have hrt : q.tmod 10 = r := by rw [Int.tmod_eq_emod_of_nonneg hq0]; omega
        have hni : (n : Int) < 4 := by have := HN4.out; omega
        have hn0 : (0 : Int) ≤ (n : Int) := by omega
        have hkl : (k : Int) < (z0.length : Int) := by omega
        have hk40 : (k : Int) ≤ 40 := by have := HZ40.out; omega
        have HR := hid (show 1 ≤ r + 1 ∧ r + 1 ≤ 1048576 by omega)
        have HKK := hid hlt
        have HHN := hid hn; have HHM := hid hm
        have HMB := hid (show 0 ≤ m ∧ m ≤ 10 from ⟨hm0, hm10⟩)
        clear hc hgy hwf hy hM hn hm hr hq hq0 hlt hk hga
        by_cases hlv : m < r + 1
        · have HLT := hid hlv
          have HTA := hid (show (tOf M)[n]? = some (if M.getD n 0 = 0 then (0, 0, 0) else ((n : Int), 1, M.getD n 0)) from tOf_at M n HN4.out)
          obtain ⟨fm, em, htm⟩ := tOf_at3 M n HN4.out
          rw [HHM.out] at htm
          clear HTA; have HTA := hid htm; clear htm
          have HNX := hid (show (tOf M).set n ((n : Int), 1, r + 1) = tOf (lStep M y) by
            have := tOf_new M HM4.out y (by rw [HHN.out, HHM.out, HVW2.out]; exact HLT.out)
            rw [HHN.out, HVW2.out] at this; exact this)
          have HLS := hid (show M.set n (r + 1) = lStep M y by rw [lStep, HHN.out, HHM.out, HVW2.out, Int.max_eq_right (Int.le_of_lt HLT.out)])
          go_wp2_with fail
          go_quiet (fail)
          go_wp2_with fail
          have hd1 := hid (HV.out.dq nq); have hd2 := hid (Blk.dq HL.out nq); have hd3 := hid (below_dq HF.out nq); clear HV HL HF hcx; have HV := hd1; have HL := hd2; have HF := hd3; clear hd1 hd2 hd3
          obtain ⟨w5, hw5⟩ : ∃ w5, wr.drewN nq = w5 := ⟨_, rfl⟩
          rw [hw5]
          rw [hw5] at HV HL HF
          clear hw5 hqt hrt hw1 hw2
          have hc := (HL.out.cell n).trans HC.out
          go_region_held3 (fun wx => wx.cell? ⟨lb, n, none⟩ = some (.int .u32 m)) (first | go_keep | exact hc) (first
            | (go_at_call 9; (with_reducible refine (Vote_calls _ _ _).mono ?_); rintro e w2 ⟨rfl, f'⟩; clear hc; have HV2 := hid (HV.out.frm f' (fun h => h)); have HL2 := hid (HL.out.frm f' (fun h => h)); have HF2 := hid (HF.out.trans (f'.below HF.out.size (fun k hk hn => hn))); clear HV HF HL f'; have HV := HV2; have HF := HF2; have HL := HL2; clear HV2 HF2 HL2; have hc := (HL.out.cell n).trans HC.out)
            | (go_at_call 8; (with_reducible refine (VAdd_new HV.out n HN4.out n rfl (r + 1) HR.out _ _ m HTA.out (by have := HLT.out; omega)).mono ?_); rintro e w3 ⟨rfl, he, f'⟩; clear hc; have HV2 := hid (he); have HL2 := hid (HL.out.frm f' (fun h => HLV.out h)); have HF2 := hid (HF.out.trans (f'.below HF.out.size (fun k hk hn => by have := HVW.out; omega))); clear HV HF HL f' he; have HV := HV2; have HF := HF2; have HL := HL2; clear HV2 HF2 HL2; have hc := (HL.out.cell n).trans HC.out))
          have hz := HL.out.free n
          go_wp2
          go_roundw
          case rel => exact ⟨k + 1, by have := HKK.out; omega, rfl, by rw [HSU.out, ← HNX.out]; exact HV.out.frm ((Frm.refl (· = lb) _).setCell _ _ (.inr rfl)) (fun h => HLV.out h.symm), by rw [HSU.out, ← HLS.out, ← lC_set]; exact HL.out.setCell n _, HF.out.trans (((Frm.refl (· = lb) _).setCell _ _ (.inr rfl)).below HF.out.size (fun k hk e => by have := HLW.out; omega))⟩
          case measure => have := HKK.out; simp [intOf]; omega
        · skip
          have HLT := hid (show r + 1 ≤ m by omega)
          obtain ⟨fm, em, htm⟩ := tOf_at3 M n HN4.out
          rw [HHM.out] at htm
          have HTA := hid htm; clear htm
          have HLS := hid (show lStep M y = M from lStep_old M HM4.out y (by rw [HHN.out, HHM.out, HVW2.out]; exact HLT.out))
          go_wp2_with fail
          go_quiet (fail)
          go_wp2_with fail
          have hd1 := hid (HV.out.dq nq); have hd2 := hid (Blk.dq HL.out nq); have hd3 := hid (below_dq HF.out nq); clear HV HL HF hcx; have HV := hd1; have HL := hd2; have HF := hd3; clear hd1 hd2 hd3
          obtain ⟨w5, hw5⟩ : ∃ w5, wr.drewN nq = w5 := ⟨_, rfl⟩
          rw [hw5]
          rw [hw5] at HV HL HF
          clear hw5 hqt hrt hw1 hw2
          have hc := (HL.out.cell n).trans HC.out
          go_region_held3 (fun wx => wx.cell? ⟨lb, n, none⟩ = some (.int .u32 m)) (first | go_keep | exact hc) (first
            | (go_at_call 9; (with_reducible refine (Vote_calls _ _ _).mono ?_); rintro e w2 ⟨rfl, f'⟩; clear hc; have HV2 := hid (HV.out.frm f' (fun h => h)); have HL2 := hid (HL.out.frm f' (fun h => h)); have HF2 := hid (HF.out.trans (f'.below HF.out.size (fun k hk hn => hn))); clear HV HF HL f'; have HV := HV2; have HF := HF2; have HL := HL2; clear HV2 HF2 HL2; have hc := (HL.out.cell n).trans HC.out)
            | (go_at_call 8; (with_reducible refine (VAdd_old HV.out n HN4.out n rfl (r + 1) HR.out _ _ m HTA.out (by have := HLT.out; omega)).mono ?_); rintro e w3 ⟨rfl, he, f'⟩; clear hc; have HV2 := hid (he); have HL2 := hid (HL.out.frm f' (fun h => h)); have HF2 := hid (HF.out.trans (f'.below HF.out.size (fun k hk hn => hn))); clear HV HF HL f' he; have HV := HV2; have HF := HF2; have HL := HL2; clear HV2 HF2 HL2; have hc := (HL.out.cell n).trans HC.out))
          have hz := HL.out.free n
          have HSM := hid (show M.set n m = M from HHM.out ▸ set_getD M n (by rw [HM4.out]; exact HN4.out))
          go_wp2
          go_roundw
          case rel => exact ⟨k + 1, by have := HKK.out; omega, rfl, by rw [HSU.out, HLS.out]; exact HV.out.frm ((Frm.refl (· = lb) _).setCell _ _ (.inr rfl)) (fun h => HLV.out h.symm), by (rw [HSU.out, HLS.out]; have := HL.out.setCell n (.int .u32 m); rw [lC_set, HSM.out] at this; exact this), HF.out.trans (((Frm.refl (· = lb) _).setCell _ _ (.inr rfl)).below HF.out.size (fun k hk e => by have := HLW.out; omega))⟩
          case measure => have := HKK.out; simp [intOf]; omega
      · have hke : k = z0.length := by omega
        subst hke
        have htk : z0.take z0.length = z0 := List.take_length
        rw [htk] at HV HL
        obtain ⟨M, hM⟩ : ∃ M, lAll z0 = M := ⟨_, rfl⟩
        have HM4 := hid (show M.length = 4 from hM ▸ lAll_len _)
        have HMO := hid (show okM M from hM ▸ (htk ▸ okM_all z0 z0.length))
        rw [hM] at HV HL
        obtain ⟨d, hd⟩ : ∃ d, a1.tmod 12 = d := ⟨_, rfl⟩
        obtain ⟨g, hg⟩ : ∃ g : Nat, a2.tmod 4 = (g : Int) := ⟨(a2 % 4).toNat, by have := HA2.out; rw [Int.tmod_eq_emod_of_nonneg this.1]; omega⟩
        have HD := hid (show 0 ≤ d ∧ d ≤ 11 by have := HA1.out; rw [Int.tmod_eq_emod_of_nonneg this.1] at hd; omega)
        have HG4 := hid (show g < 4 by have := HA2.out; rw [Int.tmod_eq_emod_of_nonneg this.1] at hg; omega)
        have hd0 : 0 ≤ d := HD.out.1
        have hd11 : d ≤ 11 := HD.out.2
        have hg4 : (g : Int) < 4 := by have := HG4.out; omega
        have hg0 : (0 : Int) ≤ (g : Int) := by omega
        clear hM htk hlt hk HH0 HWF HZ40
        go_wp2_with (first
          | (go_at_call 13; (with_reducible refine (VDrop_any HV.out d).mono ?_); rintro e w3 ⟨rfl, he, f'⟩; have HV2 := hid he; have HL2 := hid (HL.out.frm f' (fun h => HLV.out h)); have HF2 := hid (HF.out.trans (f'.below HF.out.size (fun k hk hn => by have := HVW.out; omega))); clear HV HF HL f' he; have HV := HV2; have HF := HF2; have HL := HL2; clear HV2 HF2 HL2)
          | (go_at_call 15; (with_reducible refine (VForget_calls HV.out g g rfl HG4.out).mono ?_); rintro e w3 ⟨rfl, he, f'⟩; have HV2 := hid he; have HL2 := hid (HL.out.frm f' (fun h => HLV.out h)); have HF2 := hid (HF.out.trans (f'.below HF.out.size (fun k hk hn => by have := HVW.out; omega))); clear HV HF HL f' he; have HV := HV2; have HF := HF2; have HL := HL2; clear HV2 HF2 HL2))
        have HV2 := hid (show IsVs _ vb (tEnd M d g) from HV.out); clear HV; have HV := HV2; clear HV2
        obtain ⟨TE, hTE⟩ : ∃ TE, tEnd M d g = TE := ⟨_, rfl⟩
        have HTS := hid (show ∀ f, f < 4 → d < M.getD f 0 → ¬ f = g → TE[f]? = some ((f : Int), 1, M.getD f 0) from fun f hf h hg => hTE ▸ tEnd_stay M d HD.out.1 g f hf h hg)
        have HTN := hid (show ∀ f, f < 4 → (M.getD f 0 ≤ d ∨ f = g) → TE[f]? = some (0, 0, 0) from fun f hf h => hTE ▸ tEnd_gone M d HD.out.1 g f hf h)
        have HT4 := hid (show TE.length = 4 from hTE ▸ tEnd_len M d g)
        rw [hTE] at HV
        clear hTE
        go_loopw [12] (fun xv wr => ∃ (X : Nat), 1 ≤ X ∧ X ≤ 11 ∧ xv = .int .u32 X ∧ IsVs wr vb TE ∧ Blk wr lb (lC M) TL4 ∧ Below w.heap.size w wr) (fun i _ => 11 - (intOf i).toNat)
        case atStart => exact ⟨1, by omega, by omega, rfl, HV.out, HL.out, HF.out⟩
        case round =>
          generalize wr = wx at *
          clear HV HL HF
          obtain ⟨X, hX1, hX2, rfl, hv, hl, hf⟩ := hrel
          have HV := hid hv; have HL := hid hl; have HF := hid hf
          clear hv hl hf
          by_cases hx10 : X ≤ 10
          · have HX10 := hid hx10
            have HX1 := hid hX1
            have HX0 := hid (show (0 : Int) ≤ (X : Int) by omega)
            have HXP := hid (show (0 : Int) < (X : Int) by omega)
            have hxi : (X : Int) ≤ 10 := by omega
            clear hX1 hX2 hx10
            go_wp2_with (first
              | (go_at_call 19; (with_reducible refine (VFor_any HV.out X HX0.out).mono ?_); rintro e w3 ⟨ov, rfl, ho, f'⟩; have HO := hid ho; have HV2 := hid (HV.out.frm f' (fun h => h)); have HL2 := hid (HL.out.frm f' (fun h => h)); have HF2 := hid (HF.out.trans (f'.below HF.out.size (fun k hk hn => hn))); clear HV HF HL f' ho; have HV := HV2; have HF := HF2; have HL := HL2; clear HV2 HF2 HL2))
            obtain ⟨oa, oc, hov⟩ := HO.out.slice
            subst hov
            obtain ⟨Ln, hLn⟩ : ∃ Ln, (fF (X : Int) TE).length = Ln := ⟨_, rfl⟩
            have HLN := hid hLn
            have HL4 := hid (show Ln ≤ 4 from hLn ▸ fF_le4 _ _ HT4.out)
            rw [hLn]
            clear hLn
            go_loopw [14, 15] (fun nv fv wr => ∃ (F : Nat), F ≤ 4 ∧ nv = .int .i64 (fF (X : Int) (TE.take F)).length ∧ fv = .int .u8 F ∧ wr = w3) (fun _ f _ => 4 - (intOf f).toNat)
            case atStart => exact ⟨0, by omega, rfl, rfl, rfl⟩
            case round =>
              obtain ⟨F, hF4, rfl, rfl, rfl⟩ := hrel
              by_cases hf4 : F < 4
              · have HF4 := hid hf4
                have hfi : (F : Int) < 4 := by omega
                have hf0 : (0 : Int) ≤ (F : Int) := by omega
                obtain ⟨m, hm⟩ : ∃ m, M.getD F 0 = m := ⟨_, rfl⟩
                have HHM := hid hm
                have hcf := (HL.out.cell F).trans (lC_at M F (by rw [HM4.out]; exact hf4))
                rw [hm] at hcf
                obtain ⟨hm0, hm10⟩ : 0 ≤ m ∧ m ≤ 10 := hm ▸ HMO.out F
                obtain ⟨N, hN⟩ : ∃ N, (fF (X : Int) (TE.take F)).length = N := ⟨_, rfl⟩
                have HNN := hid hN
                rw [hN]
                have HMB := hid (show 0 ≤ m ∧ m ≤ 10 from ⟨hm0, hm10⟩)
                clear hm hN hf4 hF4
                by_cases hmx : m = X
                · have HMX := hid hmx
                  have e1 : (m == (X : Int)) = true := beq_iff_eq.2 hmx
                  have e2 : (m != (X : Int)) = false := by rw [bne, e1]; rfl
                  by_cases hxd : (X : Int) ≤ d
                  · have HNO := hid (show (fF (X : Int) (TE.take (F + 1))).length = N by rw [fF_no (HTN.out F HF4.out (.inl (by rw [HHM.out, HMX.out]; exact hxd))) (fun h => by have h1 : (0 : Int) = X := h.1; have := HX1.out; omega)]; exact HNN.out)
                    clear hmx hm0 hm10
                    go_wp2
                    go_roundw
                    case rel => exact ⟨F + 1, by have := HF4.out; omega, by rw [HNO.out], rfl, by first | rfl | trivial⟩
                    case measure => have := HF4.out; simp [intOf]; omega
                  · have hxd2 : d < (X : Int) := by omega
                    have HXD := hid hxd2
                    by_cases hfg : F = g
                    · have HNO := hid (show (fF (X : Int) (TE.take (F + 1))).length = N by rw [fF_no (HTN.out F HF4.out (.inr hfg)) (fun h => by have h1 : (0 : Int) = X := h.1; have := HX1.out; omega)]; exact HNN.out)
                      subst hfg
                      clear hmx hm0 hm10 hxd
                      go_wp2
                      go_roundw
                      case rel => exact ⟨F + 1, by have := HF4.out; omega, by rw [HNO.out], rfl, by first | rfl | trivial⟩
                      case measure => have := HF4.out; simp [intOf]; omega
                    · have e3 : ((F : Int) == (g : Int)) = false := beq_eq_false_iff_ne.2 (by omega)
                      have e4 : ¬ (F : Int) = (g : Int) := by omega
                      have HTP := hid (show TE[F]? = some ((F : Int), 1, (X : Int)) by rw [← HMX.out, ← HHM.out]; exact HTS.out F HF4.out (by rw [HHM.out, HMX.out]; exact HXD.out) hfg)
                      have hat := fF_at (x := (X : Int)) HTP.out rfl HXP.out
                      rw [HNN.out] at hat
                      have HYS := hid (show (fF (X : Int) (TE.take (F + 1))).length = N + 1 by rw [fF_yes HTP.out rfl HXP.out, List.length_append, HNN.out]; rfl)
                      have hnl : N < Ln := by rw [← HLN.out]; exact (List.getElem?_eq_some_iff.1 hat).1
                      obtain ⟨go, co, hv1, hv2, hv3, hv4⟩ := HO.out.at_ (by rw [HLN.out]; omega)
                      have q0 := hv4 N _ hat 0 (by decide)
                      simp only [vpC, vtC, List.getElem?_cons_zero, Nat.add_zero] at q0
                      rw [HLN.out] at hv1
                      injection hv1 with i1 i2 i3
                      clear i2
                      subst i1 i3
                      have hni : (N : Int) < (Ln : Int) := by omega
                      have hn4 : (N : Int) ≤ 4 := by have := HL4.out; omega
                      have hn0 : (0 : Int) ≤ (N : Int) := by omega
                      have hl4 : (Ln : Int) ≤ 4 := by have := HL4.out; omega
                      have e5 : ¬ F = g := hfg
                      have e6 : (F == g) = false := beq_eq_false_iff_ne.2 hfg
                      rw [HLN.out] at hv2
                      have HF4i := hid hfi
                      clear hmx hm0 hm10 hxd hat hv4 hnl hfg
                      go_wp2_with (first
                        | (go_at_call 21; (with_reducible refine (VTop_calls HV.out F F rfl _ HTP.out X rfl).mono ?_); rintro e w3 ⟨rfl, rfl⟩; skip))
                      go_roundw
                      case rel => exact ⟨F + 1, by have := HF4.out; omega, by rw [HYS.out]; rfl, rfl, by first | rfl | trivial⟩
                      case measure => have := HF4.out; simp [intOf]; omega
                · have e1 : (m == (X : Int)) = false := beq_eq_false_iff_ne.2 hmx
                  have e2 : (m != (X : Int)) = true := by rw [bne, e1]; rfl
                  have HNO := hid (show (fF (X : Int) (TE.take (F + 1))).length = N by
                    have hno : ∃ p, TE[F]? = some p ∧ ¬ (p.2.2 = (X : Int) ∧ 0 < (X : Int)) := by
                      by_cases hcs : m ≤ d ∨ F = g
                      · exact ⟨_, HTN.out F HF4.out (by rw [HHM.out]; exact hcs), fun h => by have h1 : (0 : Int) = X := h.1; have := HX1.out; omega⟩
                      · refine ⟨_, HTS.out F HF4.out (by rw [HHM.out]; omega) (fun h => hcs (.inr h)), fun h => hmx ?_⟩
                        have h1 : M.getD F 0 = X := h.1
                        rw [← HHM.out]; exact h1
                    obtain ⟨p, hp, hn⟩ := hno
                    rw [fF_no hp hn]; exact HNN.out)
                  clear hm0 hm10
                  go_wp2
                  go_roundw
                  case rel => exact ⟨F + 1, by have := HF4.out; omega, by rw [HNO.out], rfl, by first | rfl | trivial⟩
                  case measure => have := HF4.out; simp [intOf]; omega
              · have hfe : F = 4 := by omega
                subst hfe
                have htk : TE.take 4 = TE := List.take_of_length_le (by rw [HT4.out]; omega)
                rw [htk, HLN.out]
                clear hf4 hF4 htk
                go_wp2
                go_roundw
                case rel => exact ⟨X + 1, by omega, by have := HX10.out; omega, rfl, HV.out, HL.out, HF.out⟩
                case measure => have := HX10.out; simp [intOf]; omega
          · have hxe : X = 11 := by omega
            subst hxe
            have HTG := hid (HTN.out g HG4.out (.inr rfl))
            clear hX1 hX2 hx10
            go_wp2_with (first
              | (go_at_call 21; (with_reducible refine (VTop_calls HV.out g g rfl _ HTG.out 0 rfl).mono ?_); rintro e w3 ⟨rfl, rfl⟩; skip)
              | (go_at_call 23; (with_reducible refine (Wait_one _ 0 4 0 rfl (.inr (.inl ⟨rfl, rfl⟩))).mono ?_); rintro e w3 ⟨rfl, rfl⟩; skip)
              | (go_at_call 23; (with_reducible refine (Wait_one _ 99 256 99 rfl (.inr (.inr ⟨rfl, rfl⟩))).mono ?_); rintro e w3 ⟨rfl, rfl⟩; skip))
            go_ret
            exact ⟨rfl, HF.out⟩
end Go.Proofs.YtkpeoenbeaapoaaDoor
