/- PageClients, walked: clients' entries lie on the last page, nine bytes each, by their numbers. -/
import Derived.Test.YtbjkdikiomhmgaaPgKnown
import Derived.Test.YtbjkdikiomhmgaaTypes
namespace Go.Proofs.Ytbjkdikiomhmgaa
open Go.RowKit Go.ChangeShapes
set_option linter.unusedVariables false
set_option linter.unusedSimpArgs false
abbrev TA4 : Nat := 39
def byt4 (x : List Int) : List Value := x.map (Value.int .u32)
theorem b4_cell {w : World} {g T : Nat} {x : List Int} (h : Blk w g (byt4 x) T) (k : Nat) (hk : k < x.length) {v : Int} (hv : x.getD k 0 = v) : w.cell? ⟨g, k, none⟩ = some (.int .u32 v) := by
  rw [h.cell, byt4, List.getElem?_map, List.getElem?_eq_getElem hk, ← hv, List.getD_eq_getElem?_getD, List.getElem?_eq_getElem hk]; rfl
def csN (x y : List Int) (n : Nat) : List Int := (List.range n).foldl (fun c (j : Nat) => setC c ((j : Int) + 1) (x.getD j 0) (y.getD j 0)) (List.replicate 10 0)
def wantN (x : List Int) (n : Nat) : Nat := ((List.range n).map fun j => if x.getD j 0 = 0 then 0 else 9).sum
theorem csN_succ (x y : List Int) (n : Nat) : csN x y (n + 1) = setC (csN x y n) ((n : Int) + 1) (x.getD n 0) (y.getD n 0) := by unfold csN; rw [List.range_succ, List.foldl_append]; rfl
theorem wantN_succ (x : List Int) (n : Nat) : wantN x (n + 1) = wantN x n + if x.getD n 0 = 0 then 0 else 9 := by unfold wantN; rw [List.range_succ, List.map_append, List.sum_append]; simp
theorem wantN_le (x : List Int) (n : Nat) : wantN x n ≤ 9 * n := by
  induction n with
  | zero => exact Nat.le_refl _
  | succ n ih => rw [wantN_succ]; split <;> omega
theorem csN_good (x y : List Int) (n : Nat) : GoodC (csN x y n) := by
  induction n with
  | zero => exact GoodC.zero
  | succ n ih => rw [csN_succ]; exact ih.set _ _ _
theorem csN_four (t0 t1 t2 t3 r0 r1 r2 r3 : Int) : csN [t0, t1, t2, t3] [r0, r1, r2, r3] 4 = [0, 0, t0, if t0 = 0 then 0 else r0, t1, if t1 = 0 then 0 else r1, t2, if t2 = 0 then 0 else r2, t3, if t3 = 0 then 0 else r3] := rfl
theorem csN_T {x y : List Int} (hx : x.length = 4) (hy : y.length = 4) (k : Nat) (hk : k < 4) : getT (csN x y 4) ((k : Int) + 1) = x.getD k 0 := by
  match x, y, hx, hy with
  | [t0, t1, t2, t3], [r0, r1, r2, r3], _, _ =>
    rw [csN_four]
    rcases (show k = 0 ∨ k = 1 ∨ k = 2 ∨ k = 3 by omega) with rfl | rfl | rfl | rfl <;> rfl
theorem csN_R {x y : List Int} (hx : x.length = 4) (hy : y.length = 4) (k : Nat) (hk : k < 4) : getR (csN x y 4) ((k : Int) + 1) = if x.getD k 0 = 0 then 0 else y.getD k 0 := by
  match x, y, hx, hy with
  | [t0, t1, t2, t3], [r0, r1, r2, r3], _, _ =>
    rw [csN_four]
    rcases (show k = 0 ∨ k = 1 ∨ k = 2 ∨ k = 3 by omega) with rfl | rfl | rfl | rfl <;> rfl
theorem cbytes_sz (cs : List Int) (i : Nat) : (cbytes cs i).length = if cs.getD (i * 2) 0 = 0 then 0 else 9 := by
  unfold cbytes
  split
  · rfl
  · simp [be_len]
theorem csN_len {x y : List Int} (hx : x.length = 4) (hy : y.length = 4) (vs : List Int) : (pageB vs (csN x y 4) 7).length = wantN x 4 := by
  rw [pageB, if_pos rfl]
  rw [pclis_succ, pclis_succ, pclis_succ, pclis_succ, pclis_succ]
  simp only [List.length_append, cbytes_sz]
  match x, y, hx, hy with
  | [t0, t1, t2, t3], [r0, r1, r2, r3], _, _ =>
    rw [csN_four, wantN_succ, wantN_succ, wantN_succ, wantN_succ]
    show ((((([] : List Int).length + (if (0 : Int) = 0 then 0 else 9)) + (if t0 = 0 then 0 else 9)) + (if t1 = 0 then 0 else 9)) + (if t2 = 0 then 0 else 9)) + (if t3 = 0 then 0 else 9) = ((((0 + if t0 = 0 then 0 else 9) + if t1 = 0 then 0 else 9) + if t2 = 0 then 0 else 9) + if t3 = 0 then 0 else 9)
    rfl
theorem setC_zero (cs : List Int) (t r : Int) : setC cs 0 t r = cs := by rw [setC, if_neg (by omega)]
theorem setC_five (cs : List Int) (t r : Int) : setC cs 5 t r = cs := by rw [setC, if_neg (by omega)]
theorem u32_bd {x : List Int} (hw : ∀ n ∈ x, (Lit.int .u32 n).wf = true) (k : Nat) : 0 ≤ x.getD k 0 ∧ x.getD k 0 ≤ 4294967295 := getD_bd (l := x) (m := 4294967295) (fun n hn => bounds_u32 (hw n hn)) (by decide) k
set_option maxRecDepth 100000 in
set_option maxHeartbeats 16000000 in
theorem PageClients_walk (l0 : List Value) (x0 : List Int) (l1 : List Value) (x1 : List Int) (w : World) (h0 : c39.K w x0 l0) (h1 : c39.K w x1 l1) :
    Calls Try.prog 5 #[.agg l0.toArray, .agg l1.toArray] w fun e w' => e = .returned (.bool true) ∧ Below w.heap.size w w' := by
  obtain ⟨rfl, hlx, hwx⟩ := k39 h0
  obtain ⟨rfl, hly, hwy⟩ := k39 h1
  clear h0 h1
  obtain ⟨Z, hZ⟩ : ∃ Z, (byt4 x0).toArray = Z := ⟨_, rfl⟩
  obtain ⟨Y, hY⟩ : ∃ Y, (byt4 x1).toArray = Y := ⟨_, rfl⟩
  have hZ' : (x0.map (Value.int .u32)).toArray = Z := hZ
  have hY' : (x1.map (Value.int .u32)).toArray = Y := hY
  rw [hZ', hY']
  clear hZ' hY'
  have HLX := hid hlx; have HLY := hid hly; have HWX := hid hwx; have HWY := hid hwy; clear hlx hly hwx hwy
  have HT := hid (show Blk ((w.alloc (.cells Z TA4)).alloc (.cells Y TA4)) w.heap.size (byt4 x0) TA4 from (show Blk (w.alloc (.cells Z TA4)) w.heap.size (byt4 x0) TA4 by rw [← hZ]; exact Blk.new w (byt4 x0) TA4).alloc _)
  have HS := hid (show Blk ((w.alloc (.cells Z TA4)).alloc (.cells Y TA4)) (w.heap.size + 1) (byt4 x1) TA4 by rw [← hY, ← show (w.alloc (.cells Z TA4)).heap.size = w.heap.size + 1 by simp]; exact Blk.new _ (byt4 x1) TA4)
  have HF0 := hid (show Below w.heap.size w ((w.alloc (.cells Z TA4)).alloc (.cells Y TA4)) from ((Below.refl _ _).alloc (Nat.le_refl _) _).alloc (by simp) _)
  clear hZ hY
  go_enter Try.func5, Try.ntmps5
  go_wp2_with (first
    | (go_at_call 6; (with_reducible refine (known_calls _).mono ?_); rintro e w1 ⟨rfl, f1⟩; have HF := hid (below_next HF0.out (f1)); have n0_ := hid (HT.out.frm (frm0_of f1) (fun h => h)); have n1_ := hid (HS.out.frm (frm0_of f1) (fun h => h)); clear HT HS; have HT := n0_; clear n0_; have HS := n1_; clear n1_; clear f1 HF0)
    | (go_at_call 7; (with_reducible refine (PNew_calls w1).mono ?_); rintro e w2 ⟨rfl, h', f'⟩; have HT0 := hid HT.out.lt; have HS0 := hid HS.out.lt; have HB := hid HF.out.size; have HM := hid h'; have n0_ := hid (HT.out.frm (frm0_of f') (fun h => h)); have n1_ := hid (HS.out.frm (frm0_of f') (fun h => h)); have n2_ := hid (below_next HF.out f'); clear HT HS HF; have HT := n0_; clear n0_; have HS := n1_; clear n1_; have HF := n2_; clear n2_; clear f' h'))
  have HTB := hid (Nat.ne_of_lt HT0.out); have HSB := hid (Nat.ne_of_lt HS0.out)
  clear HT0 HS0
  generalize hbb : w1.heap.size = b at *
  generalize hsb : w.heap.size + 1 = sb at *
  generalize htb : w.heap.size = tb at *
  clear hbb hsb
  have HTE := hid htb; clear htb
  go_loopw [6, 7] (fun wa i wr => ∃ (k : Nat), k ≤ 4 ∧ wa = .int .i64 (wantN x0 k : Nat) ∧ i = .int .u8 k ∧ IsMap wr b (List.replicate 64 0) (csN x0 x1 k) ∧ Blk wr tb (byt4 x0) TA4 ∧ Blk wr sb (byt4 x1) TA4 ∧ Below tb w wr) (fun _ i _ => 4 - (intOf i).toNat)
  case atStart => exact ⟨0, by omega, rfl, rfl, HM.out, HT.out, HS.out, HF.out⟩
  case round =>
    clear HM HF HT HS
    obtain ⟨k, hk, rfl, rfl, hm, ht, hs, hf⟩ := hrel
    have HM := hid hm; have HF := hid hf; have HT := hid ht; have HS := hid hs; clear hm hf ht hs
    by_cases hlt : k < 4
    · obtain ⟨t, hT⟩ : ∃ t, x0.getD k 0 = t := ⟨_, rfl⟩
      obtain ⟨r, hR⟩ : ∃ t, x1.getD k 0 = t := ⟨_, rfl⟩
      have hkx : k < x0.length := by rw [HLX.out]; exact hlt
      have hky : k < x1.length := by rw [HLY.out]; exact hlt
      have q0 := b4_cell HT.out k hkx hT
      have q1 := b4_cell HS.out k hky hR
      have HBT := hid (hT ▸ u32_bd HWX.out k); have HBR := hid (hR ▸ u32_bd HWY.out k)
      have HQT := hid hT; have HQR := hid hR; have HKX := hid hkx; have HKY := hid hky; have HLT := hid hlt
      have hki : (k : Int) < 4 := by omega
      have e1 : IntKind.u8.wrap ((k : Int) + 1) = (k : Int) + 1 := by simp only [IntKind.wrap, IntKind.bits, IntKind.signed]; simp; omega
      have HK1 := hid (show 0 ≤ (k : Int) + 1 by omega)
      have HSU := hid (show setC (csN x0 x1 k) ((k : Int) + 1) t r = csN x0 x1 (k + 1) by rw [csN_succ, hT, hR])
      have HWL := hid (wantN_le x0 k)
      have HWS := hid (wantN_succ x0 k)
      clear hT hR hkx hky hk hlt
      obtain ⟨W, hW⟩ : ∃ W, wantN x0 k = W := ⟨_, rfl⟩
      rw [hW]
      have HW := hid hW; clear hW
      have hW36 : (W : Int) ≤ 36 := by have := HWL.out; have := HW.out; have := HLT.out; omega
      by_cases ht0 : t = 0
      · subst ht0
        have HW2 := hid (show wantN x0 (k + 1) = W by rw [HWS.out, HQT.out, HW.out]; rfl)
        go_wp2_with (fail)
        have HT2 := hid (HT.out.frm (frm_drew _) (fun h => h)); have HS2 := hid (HS.out.frm (frm_drew _) (fun h => h)); have HM2 := hid (HM.out.frm (frm_drew _) (fun h => h)); have HF2 := hid (bdrew HF.out); clear HT HS HM HF; have HT := HT2; have HS := HS2; have HM := HM2; have HF := HF2; clear HT2 HS2 HM2 HF2
        go_region_held3 (fun wx => wx.cell? ⟨tb, k, none⟩ = some (.int .u32 0) ∧ wx.cell? ⟨sb, k, none⟩ = some (.int .u32 r)) (first | go_keep | exact ⟨r0, r1⟩) ((go_at_call 9; (with_reducible refine (PSetClient_calls HM.out ((k : Int) + 1) HK1.out 0 r HBT.out HBR.out _ HSU.out).mono ?_); rintro e w' ⟨rfl, h', f'⟩; have n0_ := hid (h'); have n1_ := hid (HT.out.frm f' (fun e => HTB.out e)); have n2_ := hid (HS.out.frm f' (fun e => HSB.out e)); have n3_ := hid (HTE.out ▸ below_frm1 (HTE.out ▸ HF.out) f' (HTE.out ▸ HB.out)); clear HM HT HS HF; have HM := n0_; clear n0_; have HT := n1_; clear n1_; have HS := n2_; clear n2_; have HF := n3_; clear n3_; clear f' h'; have r0 := b4_cell HT.out k HKX.out HQT.out; have r1 := b4_cell HS.out k HKY.out HQR.out))
        clear q0 q1
        have q0 := r0
        go_wp2_with (fail)
        go_roundw
        case rel => exact ⟨k + 1, by have := HLT.out; omega, by rw [HW2.out], by first | rfl | go_num, HM.out, HT.out, HS.out, HF.out⟩
        case measure => simp [intOf]; have := HLT.out; omega
      · have HW2 := hid (show wantN x0 (k + 1) = W + 9 by rw [HWS.out, HQT.out, HW.out, if_neg ht0])
        have qt : (t == 0) = false := beq_eq_false_iff_ne.2 ht0
        have qt2 : (t != 0) = true := by rw [bne, qt]; rfl
        have HT0 := hid ht0; clear ht0
        go_wp2_with (fail)
        have HT2 := hid (HT.out.frm (frm_drew _) (fun h => h)); have HS2 := hid (HS.out.frm (frm_drew _) (fun h => h)); have HM2 := hid (HM.out.frm (frm_drew _) (fun h => h)); have HF2 := hid (bdrew HF.out); clear HT HS HM HF; have HT := HT2; have HS := HS2; have HM := HM2; have HF := HF2; clear HT2 HS2 HM2 HF2
        go_region_held3 (fun wx => wx.cell? ⟨tb, k, none⟩ = some (.int .u32 t) ∧ wx.cell? ⟨sb, k, none⟩ = some (.int .u32 r)) (first | go_keep | exact ⟨r0, r1⟩) ((go_at_call 9; (with_reducible refine (PSetClient_calls HM.out ((k : Int) + 1) HK1.out t r HBT.out HBR.out _ HSU.out).mono ?_); rintro e w' ⟨rfl, h', f'⟩; have n0_ := hid (h'); have n1_ := hid (HT.out.frm f' (fun e => HTB.out e)); have n2_ := hid (HS.out.frm f' (fun e => HSB.out e)); have n3_ := hid (HTE.out ▸ below_frm1 (HTE.out ▸ HF.out) f' (HTE.out ▸ HB.out)); clear HM HT HS HF; have HM := n0_; clear n0_; have HT := n1_; clear n1_; have HS := n2_; clear n2_; have HF := n3_; clear n3_; clear f' h'; have r0 := b4_cell HT.out k HKX.out HQT.out; have r1 := b4_cell HS.out k HKY.out HQR.out))
        clear q0 q1
        have q0 := r0
        go_wp2_with (fail)
        go_roundw
        case rel => exact ⟨k + 1, by have := HLT.out; omega, by rw [HW2.out]; first | rfl | go_num, by first | rfl | go_num, HM.out, HT.out, HS.out, HF.out⟩
        case measure => simp [intOf]; have := HLT.out; omega
    · obtain rfl : k = 4 := by omega
      clear hk hlt
      obtain ⟨W, hW⟩ : ∃ W, wantN x0 4 = W := ⟨_, rfl⟩
      have HCT := hid (fun k hk => csN_T (y := x1) HLX.out HLY.out k hk); have HCR := hid (fun k hk => csN_R HLX.out HLY.out k hk)
      have HCL := hid (csN_len HLX.out HLY.out (List.replicate 64 0))
      have HG := hid (csN_good x0 x1 4)
      rw [hW]
      have HW := hid hW; clear hW
      obtain ⟨cs, hcs⟩ : ∃ cs, csN x0 x1 4 = cs := ⟨_, rfl⟩
      rw [hcs] at HM HCT HCR HCL HG
      clear hcs
      go_wp2_with (first
        | (go_at_call 9; (with_reducible refine (PSetClient_calls HM.out 0 (by decide) 9 9 (by decide) (by decide) cs (setC_zero cs 9 9)).mono ?_); rintro e w' ⟨rfl, h', f'⟩; have n0_ := hid (h'); have n1_ := hid (HT.out.frm f' (fun e => HTB.out e)); have n2_ := hid (HS.out.frm f' (fun e => HSB.out e)); have n3_ := hid (HTE.out ▸ below_frm1 (HTE.out ▸ HF.out) f' (HTE.out ▸ HB.out)); clear HM HT HS HF; have HM := n0_; clear n0_; have HT := n1_; clear n1_; have HS := n2_; clear n2_; have HF := n3_; clear n3_; clear f' h')
        | (go_at_call 9; (with_reducible refine (PSetClient_calls HM.out 5 (by decide) 9 9 (by decide) (by decide) cs (setC_five cs 9 9)).mono ?_); rintro e w' ⟨rfl, h', f'⟩; have n0_ := hid (h'); have n1_ := hid (HT.out.frm f' (fun e => HTB.out e)); have n2_ := hid (HS.out.frm f' (fun e => HSB.out e)); have n3_ := hid (HTE.out ▸ below_frm1 (HTE.out ▸ HF.out) f' (HTE.out ▸ HB.out)); clear HM HT HS HF; have HM := n0_; clear n0_; have HT := n1_; clear n1_; have HS := n2_; clear n2_; have HF := n3_; clear n3_; clear f' h'))
      go_loopw [8] (fun i wr => ∃ (k : Nat), k ≤ 4 ∧ i = .int .u8 k ∧ IsMap wr b (List.replicate 64 0) cs ∧ Blk wr tb (byt4 x0) TA4 ∧ Blk wr sb (byt4 x1) TA4 ∧ Below tb w wr) (fun i _ => 4 - (intOf i).toNat)
      case atStart => exact ⟨0, by omega, rfl, HM.out, HT.out, HS.out, HF.out⟩
      case round =>
        clear HM HF HT HS
        obtain ⟨k, hk, rfl, hm, ht, hs, hf⟩ := hrel
        have HM := hid hm; have HF := hid hf; have HT := hid ht; have HS := hid hs; clear hm hf ht hs
        by_cases hlt : k < 4
        · obtain ⟨t, hT⟩ : ∃ t, x0.getD k 0 = t := ⟨_, rfl⟩
          obtain ⟨r, hR⟩ : ∃ t, x1.getD k 0 = t := ⟨_, rfl⟩
          have hkx : k < x0.length := by rw [HLX.out]; exact hlt
          have hky : k < x1.length := by rw [HLY.out]; exact hlt
          have HQT := hid hT; have HQR := hid hR; have HKX := hid hkx; have HKY := hid hky; have HLT := hid hlt
          have q0 := b4_cell HT.out k HKX.out HQT.out
          have q1 := b4_cell HS.out k HKY.out HQR.out
          have hki : (k : Int) < 4 := by omega
          have e1 : IntKind.u8.wrap ((k : Int) + 1) = (k : Int) + 1 := by simp only [IntKind.wrap, IntKind.bits, IntKind.signed]; simp; omega
          have HK1 := hid (show 0 ≤ (k : Int) + 1 by omega)
          have HGT := hid (show getT cs ((k : Int) + 1) = t by rw [HCT.out k hlt, hT])
          by_cases ht0 : t = 0
          · subst ht0
            have HGR := hid (show getR cs ((k : Int) + 1) = 0 by rw [HCR.out k hlt, hT]; rfl)
            clear hT hR hkx hky hk hlt
            go_wp2_with (first
              | (go_at_call 14; (with_reducible refine (PClient_calls HM.out ((k : Int) + 1) HK1.out 0 0 HGT.out HGR.out).mono ?_); rintro e w' ⟨rfl, f'⟩; have n0_ := hid (HM.out.frm f' (fun h => h)); have n1_ := hid (HT.out.frm f' (fun h => h)); have n2_ := hid (HS.out.frm f' (fun h => h)); have n3_ := hid (HTE.out ▸ below_frm0 (HTE.out ▸ HF.out) f'); clear HM HT HS HF; have HM := n0_; clear n0_; have HT := n1_; clear n1_; have HS := n2_; clear n2_; have HF := n3_; clear n3_; clear f'; clear q0 q1; have q0 := b4_cell HT.out k HKX.out HQT.out; have q1 := b4_cell HS.out k HKY.out HQR.out))
            go_roundw
            case rel => exact ⟨k + 1, by have := HLT.out; omega, by first | rfl | go_num, HM.out, HT.out, HS.out, HF.out⟩
            case measure => simp [intOf]; have := HLT.out; omega
          · have HGR := hid (show getR cs ((k : Int) + 1) = r by rw [HCR.out k hlt, hT, if_neg ht0, hR])
            have qt : (t == 0) = false := beq_eq_false_iff_ne.2 ht0
            have qt2 : (t != 0) = true := by rw [bne, qt]; rfl
            clear hT hR hkx hky hk hlt ht0
            go_wp2_with (first
              | (go_at_call 14; (with_reducible refine (PClient_calls HM.out ((k : Int) + 1) HK1.out t r HGT.out HGR.out).mono ?_); rintro e w' ⟨rfl, f'⟩; have n0_ := hid (HM.out.frm f' (fun h => h)); have n1_ := hid (HT.out.frm f' (fun h => h)); have n2_ := hid (HS.out.frm f' (fun h => h)); have n3_ := hid (HTE.out ▸ below_frm0 (HTE.out ▸ HF.out) f'); clear HM HT HS HF; have HM := n0_; clear n0_; have HT := n1_; clear n1_; have HS := n2_; clear n2_; have HF := n3_; clear n3_; clear f'; clear q0 q1; have q0 := b4_cell HT.out k HKX.out HQT.out; have q1 := b4_cell HS.out k HKY.out HQR.out))
            go_roundw
            case rel => exact ⟨k + 1, by have := HLT.out; omega, by first | rfl | go_num, HM.out, HT.out, HS.out, HF.out⟩
            case measure => simp [intOf]; have := HLT.out; omega
        · obtain rfl : k = 4 := by omega
          clear hk hlt
          have HWN := hid HW.out
          have HPL := hid (show (pageB (List.replicate 64 0) cs 7).length = W by rw [HCL.out, HW.out])
          go_wp2_with (first
            | (go_at_call 7; (with_reducible refine (PNew_calls _).mono ?_); rintro e w7 ⟨rfl, h', f'⟩; have HX := hid h'; have HXB := hid (Nat.ne_of_lt HM.out.blk.lt); have HXT := hid (HTE.out ▸ (show Below w.heap.size w _ from HTE.out ▸ HF.out).size); have n0_ := hid (HM.out.frm (frm0_of f') (fun h => h)); have n1_ := hid (HTE.out ▸ below_next (HTE.out ▸ HF.out) f'); clear HM HF; have HM := n0_; clear n0_; have HF := n1_; clear n1_; clear f' h')
            | (go_at_call 11; (with_reducible refine (Page_of HM.out 7 7 rfl (by decide)).mono ?_); rintro e w' ⟨g1, rfl, _, h1, f'⟩; (rw [HPL.out] at h1); have HI := hid h1; (rw [HPL.out]); have n0_ := hid (HM.out.frm f' (fun h => h)); have n1_ := hid (HX.out.frm f' (fun h => h)); have n2_ := hid (HTE.out ▸ below_frm0 (HTE.out ▸ HF.out) f'); clear HM HX HF; have HM := n0_; clear n0_; have HX := n1_; clear n1_; have HF := n2_; clear n2_; clear f' h1)
            | (go_at_call 10; (with_reducible refine (Load_cli HX.out HI.out HPL.out 7 rfl cs HG.out HM.out.bc rfl).mono ?_); rintro e w' ⟨rfl, h', f'⟩; have n0_ := hid (h'); have n1_ := hid (HM.out.frm f' (fun e => HXB.out e)); have n2_ := hid (HTE.out ▸ below_frm1 (HTE.out ▸ HF.out) f' (HTE.out ▸ HXT.out)); clear HX HM HF; have HX := n0_; clear n0_; have HM := n1_; clear n1_; have HF := n2_; clear n2_; clear f' h')
            | (go_at_call 13; (with_reducible refine (PSame_calls HX.out HM.out true (by simp)).mono ?_); rintro e w' ⟨rfl, f'⟩; have n0_ := hid (HTE.out ▸ below_frm0 (HTE.out ▸ HF.out) f'); clear HF; have HF := n0_; clear n0_; clear f'))
          go_ret
          exact ⟨rfl, HTE.out ▸ HF.out⟩
end Go.Proofs.Ytbjkdikiomhmgaa
