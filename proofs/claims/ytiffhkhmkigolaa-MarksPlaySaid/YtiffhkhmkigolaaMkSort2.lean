/- Rows of marks, sorted by the library. -/
import Derived.Test.YtiffhkhmkigolaaMkSort
namespace Go.Proofs.Ytiffhkhmkigolaa
open Go.RowKit Go.ChangeShapes
set_option linter.unusedVariables false
set_option linter.unusedSimpArgs false
set_option maxRecDepth 100000
theorem OwnM.cells {w : World} {A : Nat → Prop} {g n c : Nat} {l : List Mk} (h : OwnM w A (.slice (some ⟨g, 0, none⟩) n c) l) (j : Nat) (r : Mk) (hj : l[j]? = some r) (i : Nat) (hi : i < 2) : w.cell? ⟨g, j * 2 + i, none⟩ = (mkC r)[i]? := by
  obtain ⟨g', c', e, _, _, h4⟩ := h.at_ (by have := (List.getElem?_eq_some_iff.1 hj).1; omega)
  injection e with e1 e2 e3
  injection e1 with e1
  injection e1 with e1
  subst e1
  exact h4 j r hj i hi
theorem OwnM.free {w : World} {A : Nat → Prop} {g n c : Nat} {l : List Mk} (h : OwnM w A (.slice (some ⟨g, 0, none⟩) n c) l) (i : Nat) : w.frozen? ⟨g, i, none⟩ = false := by
  rcases h.own.2 with ⟨e, _⟩ | ⟨g', cap, cur, e, _, hgg, _⟩
  · cases e
  · injection e with e1 e2 e3
    injection e1 with e1
    injection e1 with e1
    subst e1
    simp [World.frozen?, hgg]
theorem OwnM.lt2 {w : World} {A : Nat → Prop} {g n c : Nat} {l : List Mk} (h : OwnM w A (.slice (some ⟨g, 0, none⟩) n c) l) : g < w.heap.size := h.lt rfl
set_option maxHeartbeats 16000000 in
theorem Ins_calls {w : World} {A : Nat → Prop} {g n c : Nat} {L : List Mk} (h : OwnM w A (.slice (some ⟨g, 0, none⟩) n c) L) (hn : n = L.length) (hnc : n ≤ c) (hcm : c ≤ 9223372036854775807) (hl : n ≤ 12) (hd : Alike L L) :
    Calls Try.prog 34 #[.slice (some ⟨g, 0, none⟩) n c, .int .i64 0, .int .i64 n, (.func (.func 29) #[] #[])] w fun e w' => e = .returned (.tuple #[]) ∧ (∃ L', OwnM w' A (.slice (some ⟨g, 0, none⟩) n c) L' ∧ Alike L L' ∧ ∀ p q, p < q → q < n → sq L' q < sq L' p) ∧ Frm (· = g) w w' := by
  have HO := hid h; have HA := hid hd; have HN := hid hn; have HL := hid hl
  clear h hn hd
  have hn12 : (n : Int) ≤ 12 := by omega
  have hn0 : (0 : Int) ≤ (n : Int) := by omega
  go_enter Try.func34, Try.ntmps34
  go_wp2
  go_loopw [8] (fun iv wr => ∃ (i : Nat) (L1 : List Mk), 1 ≤ i ∧ (i ≤ n ∨ i = 1) ∧ iv = .int .i64 i ∧ OwnM wr A (.slice (some ⟨g, 0, none⟩) n c) L1 ∧ Alike L L1 ∧ Ord L1 (i - 1) i ∧ Frm (· = g) w wr) (fun i _ => 13 - (intOf i).toNat)
  case atStart => exact ⟨1, L, by omega, .inr rfl, rfl, HO.out, HA.out, fun p q h1 h2 _ => by omega, Frm.refl _ _⟩
  case round =>
    clear HO HA
    generalize wr = wx at *
    obtain ⟨i, L1, hi1, hin, rfl, ho, ha, hr, hf⟩ := hrel
    have HO := hid ho; have HA := hid ha; have HR := hid hr; have HF := hid hf
    clear ho ha hr hf
    have HI1 := hid hi1
    by_cases hlt : i < n
    · have HLT := hid hlt
      have hii : (i : Int) < (n : Int) := by omega
      have hi0 : (1 : Int) ≤ (i : Int) := by omega
      clear hin hlt hi1
      go_wp2
      go_loopw [9] (fun jv wr => ∃ (j : Nat) (L2 : List Mk), j ≤ i ∧ jv = .int .i64 j ∧ OwnM wr A (.slice (some ⟨g, 0, none⟩) n c) L2 ∧ Alike L L2 ∧ Ord L2 i j ∧ Frm (· = g) w wr) (fun i _ => (intOf i).toNat)
      case atStart => exact ⟨i, L1, Nat.le_refl _, rfl, HO.out, HA.out, fun p q h1 h2 h3 => HR.out p q h1 (by omega) h3, HF.out⟩
      case round =>
        clear HO HA HR HF
        generalize wr = wz at *
        obtain ⟨j, L2, hji, rfl, ho, ha, hr, hf⟩ := hrel
        have HO := hid ho; have HA := hid ha; have HR := hid hr; have HF := hid hf
        have HJI := hid hji
        clear ho ha hr hf
        by_cases hj : j = 0
        · subst hj
          have hOD := HR.out.done (Nat.zero_le _) (.inl rfl)
          have HOD := hid hOD
          clear hOD hji
          go_wp2_with fail
          refine wp_region_held_drew (S := fun wx => True) (by kernel_rfl) ?_ (fun hHeld => ?_)
          · trivial
          refine wpAnyH_take (i := 0) (oi := ⟨some 18, _, _, _, _, _⟩) (v := ?v1) rfl (by kernel_rfl) (by kernel_rfl) (by kernel_rfl) (fun _ _ _ h => h) (Or.inl ⟨by rfl, ?y1⟩) (by assumption) ?r1
          case y1 => (intro wx hSx; (try dsimp only at hSx); go_simp; (try with_reducible rfl))
          try simp only [Act.put, List.setIfInBounds_toArray, List.set_cons_zero, List.set_cons_succ]
          refine wpAnyH_take (i := 1) (oi := ⟨some 19, _, _, _, _, _⟩) (v := ?v2) rfl (by kernel_rfl) (by kernel_rfl) (by kernel_rfl) (fun _ _ _ h => h) (Or.inl ⟨by rfl, ?y2⟩) (by assumption) ?r2
          case y2 => (intro wx hSx; (try dsimp only at hSx); go_simp; (try with_reducible rfl))
          try simp only [Act.put, List.setIfInBounds_toArray, List.set_cons_zero, List.set_cons_succ]
          refine wpAnyH_take (i := 2) (oi := ⟨some 20, _, _, _, _, _⟩) (v := ?v3) rfl (by kernel_rfl) (by kernel_rfl) (by kernel_rfl) (fun _ _ _ h => h) (Or.inl ⟨by rfl, ?y3⟩) (by assumption) ?r3
          case y3 => (intro wx hSx; (try dsimp only at hSx); go_simp; (try with_reducible rfl))
          try simp only [Act.put, List.setIfInBounds_toArray, List.set_cons_zero, List.set_cons_succ]
          refine wpAnyH_take (i := 3) (oi := ⟨some 21, _, _, _, _, _⟩) (v := ?v4) rfl (by kernel_rfl) (by kernel_rfl) (by kernel_rfl) (fun _ _ _ h => h) (Or.inl ⟨by rfl, ?y4⟩) (by assumption) ?r4
          case y4 => (intro wx hSx; (try dsimp only at hSx); go_simp; (try with_reducible rfl))
          try simp only [Act.put, List.setIfInBounds_toArray, List.set_cons_zero, List.set_cons_succ]
          refine wpAnyH_take (i := 4) (oi := ⟨some 22, _, _, _, _, _⟩) (v := undef) rfl (by kernel_rfl) (by kernel_rfl) (by kernel_rfl) (fun _ _ _ h => h) (Or.inr ⟨by rfl, rfl⟩) (by assumption) ?_
          try simp only [Act.put, List.setIfInBounds_toArray, List.set_cons_zero, List.set_cons_succ]
          refine wpAnyH_take (i := 5) (oi := ⟨some 23, _, _, _, _, _⟩) (v := undef) rfl (by kernel_rfl) (by kernel_rfl) (by kernel_rfl) (fun _ _ _ h => h) (Or.inr ⟨by rfl, rfl⟩) (by assumption) ?_
          try simp only [Act.put, List.setIfInBounds_toArray, List.set_cons_zero, List.set_cons_succ]
          refine wpAnyH_take (i := 6) (oi := ⟨some 24, _, _, _, _, _⟩) (v := undef) rfl (by kernel_rfl) (by kernel_rfl) (by kernel_rfl) (fun _ _ _ h => h) (Or.inr ⟨by rfl, rfl⟩) (by assumption) ?_
          try simp only [Act.put, List.setIfInBounds_toArray, List.set_cons_zero, List.set_cons_succ]
          refine wpAnyH_take (i := 7) (oi := ⟨some 25, _, _, _, _, _⟩) (v := undef) rfl (by kernel_rfl) (by kernel_rfl) (by kernel_rfl) (fun _ _ _ h => h) (Or.inr ⟨by rfl, rfl⟩) (by assumption) ?_
          try simp only [Act.put, List.setIfInBounds_toArray, List.set_cons_zero, List.set_cons_succ]
          refine wpAnyH_take (i := 8) (oi := ⟨some 26, _, _, _, _, _⟩) (v := undef) rfl (by kernel_rfl) (by kernel_rfl) (by kernel_rfl) (fun _ _ _ h => h) (Or.inr ⟨by rfl, rfl⟩) (by assumption) ?_
          try simp only [Act.put, List.setIfInBounds_toArray, List.set_cons_zero, List.set_cons_succ]
          refine wpAnyH_take (i := 9) (oi := ⟨some 27, _, _, _, _, _⟩) (v := undef) rfl (by kernel_rfl) (by kernel_rfl) (by kernel_rfl) (fun _ _ _ h => h) (Or.inr ⟨by rfl, rfl⟩) (by assumption) ?_
          try simp only [Act.put, List.setIfInBounds_toArray, List.set_cons_zero, List.set_cons_succ]
          refine wpAnyH_take (i := 10) (oi := ⟨some 28, _, _, _, _, _⟩) (v := undef) rfl (by kernel_rfl) (by kernel_rfl) (by kernel_rfl) (fun _ _ _ h => h) (Or.inr ⟨by rfl, rfl⟩) (by assumption) ?_
          try simp only [Act.put, List.setIfInBounds_toArray, List.set_cons_zero, List.set_cons_succ]
          refine wpAnyH_take (i := 11) (oi := ⟨some 29, _, _, _, _, _⟩) (v := undef) rfl (by kernel_rfl) (by kernel_rfl) (by kernel_rfl) (fun _ _ _ h => h) (Or.inr ⟨by rfl, rfl⟩) (by assumption) ?_
          try simp only [Act.put, List.setIfInBounds_toArray, List.set_cons_zero, List.set_cons_succ]
          refine wpAnyH_take (i := 12) (oi := ⟨some 30, _, _, _, _, _⟩) (v := undef) rfl (by kernel_rfl) (by kernel_rfl) (by kernel_rfl) (fun _ _ _ h => h) (Or.inr ⟨by rfl, rfl⟩) (by assumption) ?_
          try simp only [Act.put, List.setIfInBounds_toArray, List.set_cons_zero, List.set_cons_succ]
          refine wpAnyH_take (i := 13) (oi := ⟨some 31, _, _, _, _, _⟩) (v := undef) rfl (by kernel_rfl) (by kernel_rfl) (by kernel_rfl) (fun _ _ _ h => h) (Or.inr ⟨by rfl, rfl⟩) (by assumption) ?_
          try simp only [Act.put, List.setIfInBounds_toArray, List.set_cons_zero, List.set_cons_succ]
          refine wpAnyH_take (i := 14) (oi := ⟨some 32, _, _, _, _, _⟩) (v := undef) rfl (by kernel_rfl) (by kernel_rfl) (by kernel_rfl) (fun _ _ _ h => h) (Or.inr ⟨by rfl, rfl⟩) (by assumption) ?_
          try simp only [Act.put, List.setIfInBounds_toArray, List.set_cons_zero, List.set_cons_succ]
          refine wpAnyH_take (i := 15) (oi := ⟨some 33, _, _, _, _, _⟩) (v := undef) rfl (by kernel_rfl) (by kernel_rfl) (by kernel_rfl) (fun _ _ _ h => h) (Or.inr ⟨by rfl, rfl⟩) (by assumption) ?_
          try simp only [Act.put, List.setIfInBounds_toArray, List.set_cons_zero, List.set_cons_succ]
          refine wpAnyH_take (i := 16) (oi := ⟨some 34, _, _, _, _, _⟩) (v := ?v5) rfl (by kernel_rfl) (by kernel_rfl) (by kernel_rfl) (fun _ _ _ h => h) (Or.inl ⟨by rfl, ?y5⟩) (by assumption) ?r5
          case y5 => (intro wx hSx; (try dsimp only at hSx); go_simp; (try with_reducible rfl))
          try simp only [Act.put, List.setIfInBounds_toArray, List.set_cons_zero, List.set_cons_succ]
          refine wpAnyH_done (by kernel_rfl) ?_ _
          go_wp2
          go_roundw
          case rel => exact ⟨i + 1, L2, by omega, .inl HLT.out, rfl, HO.out.quiet (frm_drew _), HA.out, by rw [show i + 1 - 1 = i from rfl]; exact fun p q h1 h2 h3 => HOD.out p q h1 (by omega) h3, HF.out.drew⟩
          case measure => have := HLT.out; have := HL.out; simp [intOf]; omega
        · obtain ⟨q, hq⟩ : ∃ q, q + 1 = j := ⟨j - 1, by omega⟩
          have HQ := hid hq
          have hjn : j < n := by have := HLT.out; omega
          have hL2 : L2.length = n := by rw [HA.out.len]; exact HN.out.symm
          obtain ⟨x, hx⟩ : ∃ x, L2[j]? = some x := ⟨_, List.getElem?_eq_getElem (by omega)⟩
          obtain ⟨y, hy⟩ : ∃ y, L2[q]? = some y := ⟨_, List.getElem?_eq_getElem (by omega)⟩
          have HXJ := hid hx; have HYQ := hid hy
          have hsx : sq L2 j = x.1 := by unfold sq; rw [List.getD_eq_getElem?_getD, hx]; rfl
          have hsy : sq L2 q = y.1 := by unfold sq; rw [List.getD_eq_getElem?_getD, hy]; rfl
          have HSX := hid hsx; have HSY := hid hsy
          have HD := hid (show x.1 ≠ y.1 by rw [← hsx, ← hsy]; exact HA.out.dist j q (by omega) (by have := HN.out; omega) (by have := HN.out; omega))
          have HAT := hid (fun (w' : World) (h : OwnM w' A (.slice (some ⟨g, 0, none⟩) n c) L2) (j : Nat) (r : Mk) (hj : L2[j]? = some r) (i : Nat) (hi : i < 2) => h.cells j r hj i hi)
          have HJN := hid hjn; have HL2 := hid hL2
          have hj0 : (0 : Int) < (j : Int) := by omega
          have hjN : 0 < j := by omega
          have hqw : IntKind.i64.wrap (q : Int) = (q : Int) := by simp [IntKind.wrap, IntKind.bits, IntKind.signed]; omega
          have hjn2 : (j : Int) < (n : Int) := by omega
          have hq1 : (j : Int) - 1 = (q : Int) := by omega
          have hqn : (q : Int) < (n : Int) := by omega
          have hq0 : (0 : Int) ≤ (q : Int) := by omega
          have hj12 : (j : Int) ≤ 12 := by omega
          have hd1 := hid (HO.out.quiet (frm_drew wz)); have hd2 := hid HF.out.drew
          obtain ⟨Z, hZ⟩ : ∃ Z, cmpI y.1 x.1 = Z := ⟨_, rfl⟩
          have HZ := hid hZ
          obtain ⟨xs, xr⟩ := x
          obtain ⟨ys, yr⟩ := y
          clear hj hji hq hjn hL2 hx hy hsx hsy hZ
          by_cases hc : ys < xs
          · have HC := hid hc
            obtain rfl : Z = -1 := by rw [← HZ.out]; exact if_pos hc
            have HSW := hid (HR.out.swp (q := q) (by have := HN.out; have := HLT.out; rw [HL2.out]; omega) HJI.out HQ.out (by rw [HSX.out, HSY.out]; exact hc))
            clear hc
            go_wp2_with fail
            clear HO HF; have HO := hd1; have HF := hd2; clear hd1 hd2
            have c0 := HAT.out _ HO.out j _ HXJ.out 0 (by decide); have c1 := HAT.out _ HO.out j _ HXJ.out 1 (by decide); have d0 := HAT.out _ HO.out q _ HYQ.out 0 (by decide); have d1 := HAT.out _ HO.out q _ HYQ.out 1 (by decide); (simp only [mkC, List.getElem?_cons_succ, List.getElem?_cons_zero, Nat.add_zero] at c0 c1 d0 d1)
            go_region_held3 (fun wx => wx.cell? ⟨g, j * 2, none⟩ = some (.int .u32 xs) ∧ wx.cell? ⟨g, j * 2 + 1, none⟩ = some (.int .u64 xr) ∧ wx.cell? ⟨g, q * 2, none⟩ = some (.int .u32 ys) ∧ wx.cell? ⟨g, q * 2 + 1, none⟩ = some (.int .u64 yr)) (first | go_keep | exact ⟨c0, c1, d0, d1⟩) ((go_at_call 29; (with_reducible refine (Clo_calls _ (xs, xr) (ys, yr) _ HZ.out).mono ?_); rintro e w5 ⟨rfl, f'⟩; clear c0 c1 d0 d1; have HO2 := hid (HO.out.quiet f'); have HF2 := hid (HF.out.trans' f' (fun _ _ h => h.elim)); clear HO HF f'; have HO := HO2; have HF := HF2; clear HO2 HF2; have c0 := HAT.out _ HO.out j _ HXJ.out 0 (by decide); have c1 := HAT.out _ HO.out j _ HXJ.out 1 (by decide); have d0 := HAT.out _ HO.out q _ HYQ.out 0 (by decide); have d1 := HAT.out _ HO.out q _ HYQ.out 1 (by decide); (simp only [mkC, List.getElem?_cons_succ, List.getElem?_cons_zero, Nat.add_zero] at c0 c1 d0 d1)))
            have z0 := HO.out.free (j * 2); have z1 := HO.out.free (j * 2 + 1); have z2 := HO.out.free (q * 2); have z3 := HO.out.free (q * 2 + 1)
            have hjq1 : ¬ j = q := by have := HQ.out; omega
            have hjq2 : ¬ q = j := by have := HQ.out; omega
            have hjq3 : ¬ j * 2 = q * 2 + 1 := by omega
            have hjq4 : ¬ q * 2 = j * 2 + 1 := by omega
            have hjq5 : ¬ j * 2 + 1 = q * 2 := by omega
            have hjq6 : ¬ q * 2 + 1 = j * 2 := by omega
            have hjq7 : ¬ j * 2 = q * 2 := by omega
            have hjq8 : ¬ q * 2 = j * 2 := by omega
            go_wp2_with fail
            go_region
            go_wp2
            have HSP := hid (show swp L2 j q = (L2.set j (ys, yr)).set q (xs, xr) by unfold swp; rw [List.getD_eq_getElem?_getD, List.getD_eq_getElem?_getD, HYQ.out, HXJ.out]; rfl)
            go_roundw
            case rel => exact ⟨q, swp L2 j q, by have := HQ.out; have := HJI.out; omega, rfl, by rw [HSP.out]; exact ((HO.out.quiet (frm_drew _)).set (by rw [HL2.out]) j (by have := HL2.out; have := HJN.out; omega) (ys, yr)).set (by rw [List.length_set, HL2.out]) q (by rw [List.length_set]; have := HL2.out; have := HJN.out; have := HQ.out; omega) (xs, xr), HA.out.swp j q (by have := HN.out; have := HJN.out; omega) (by have := HN.out; have := HJN.out; have := HQ.out; omega), HSW.out, (((HF.out.drew.setCell _ _ (.inr rfl)).setCell _ _ (.inr rfl)).setCell _ _ (.inr rfl)).setCell _ _ (.inr rfl)⟩
            case measure => have := HQ.out; simp [intOf]; omega
          · have HC := hid (show xs < ys by have : xs ≠ ys := HD.out; omega)
            obtain rfl : Z = 1 := by rw [← HZ.out]; exact (if_neg hc).trans (if_pos HC.out)
            have HOD := hid (HR.out.done HJI.out (.inr ⟨q, HQ.out, by rw [HSX.out, HSY.out]; exact HC.out⟩))
            clear hc
            go_wp2_with fail
            clear HO HF; have HO := hd1; have HF := hd2; clear hd1 hd2
            have c0 := HAT.out _ HO.out j _ HXJ.out 0 (by decide); have c1 := HAT.out _ HO.out j _ HXJ.out 1 (by decide); have d0 := HAT.out _ HO.out q _ HYQ.out 0 (by decide); have d1 := HAT.out _ HO.out q _ HYQ.out 1 (by decide); (simp only [mkC, List.getElem?_cons_succ, List.getElem?_cons_zero, Nat.add_zero] at c0 c1 d0 d1)
            go_region_held3 (fun wx => wx.cell? ⟨g, j * 2, none⟩ = some (.int .u32 xs) ∧ wx.cell? ⟨g, j * 2 + 1, none⟩ = some (.int .u64 xr) ∧ wx.cell? ⟨g, q * 2, none⟩ = some (.int .u32 ys) ∧ wx.cell? ⟨g, q * 2 + 1, none⟩ = some (.int .u64 yr)) (first | go_keep | exact ⟨c0, c1, d0, d1⟩) ((go_at_call 29; (with_reducible refine (Clo_calls _ (xs, xr) (ys, yr) _ HZ.out).mono ?_); rintro e w5 ⟨rfl, f'⟩; clear c0 c1 d0 d1; have HO2 := hid (HO.out.quiet f'); have HF2 := hid (HF.out.trans' f' (fun _ _ h => h.elim)); clear HO HF f'; have HO := HO2; have HF := HF2; clear HO2 HF2; have c0 := HAT.out _ HO.out j _ HXJ.out 0 (by decide); have c1 := HAT.out _ HO.out j _ HXJ.out 1 (by decide); have d0 := HAT.out _ HO.out q _ HYQ.out 0 (by decide); have d1 := HAT.out _ HO.out q _ HYQ.out 1 (by decide); (simp only [mkC, List.getElem?_cons_succ, List.getElem?_cons_zero, Nat.add_zero] at c0 c1 d0 d1)))
            go_wp2
            go_roundw
            case rel => exact ⟨i + 1, L2, by omega, .inl HLT.out, rfl, HO.out, HA.out, by rw [show i + 1 - 1 = i from rfl]; exact fun p q h1 h2 h3 => HOD.out p q h1 (by omega) h3, HF.out⟩
            case measure => have := HLT.out; have := HL.out; simp [intOf]; omega
    · have hie : ∀ p q, p < q → q < n → sq L1 q < sq L1 p := fun p q h1 h2 => HR.out p q h1 (by omega) (by omega)
      have HIE := hid hie
      have hii : ¬ (i : Int) < (n : Int) := by omega
      clear hie hin hlt hi1
      go_wp2
      go_end0
      exact ⟨rfl, ⟨L1, HO.out, HA.out, HIE.out⟩, HF.out⟩
set_option maxHeartbeats 8000000 in
theorem Pdq_calls {w : World} {A : Nat → Prop} {g n c : Nat} {L : List Mk} (h : OwnM w A (.slice (some ⟨g, 0, none⟩) n c) L) (hn : n = L.length) (hnc : n ≤ c) (hcm : c ≤ 9223372036854775807) (hl : n ≤ 12) (hd : Alike L L) (z : Int) :
    Calls Try.prog 31 #[.slice (some ⟨g, 0, none⟩) n c, .int .i64 0, .int .i64 n, .int .i64 z, (.func (.func 29) #[] #[])] w fun e w' => e = .returned (.tuple #[]) ∧ (∃ L', OwnM w' A (.slice (some ⟨g, 0, none⟩) n c) L' ∧ Alike L L' ∧ ∀ p q, p < q → q < n → sq L' q < sq L' p) ∧ Frm (· = g) w w' := by
  have HO := hid h; have HN := hid hn; have HL := hid hl; have HD := hid hd; have HC := hid hnc; have HM := hid hcm
  have hn12 : (n : Int) ≤ 12 := by omega
  have hn0 : (0 : Int) ≤ (n : Int) := by omega
  clear h hn hl hd hnc hcm
  go_enter Try.func31, Try.ntmps31
  go_wp2
  go_loopw [1, 2] (fun av bv wr => av = .int .i64 0 ∧ bv = .int .i64 n ∧ wr = w) (fun _ _ _ => 0)
  case atStart => exact ⟨rfl, rfl, rfl⟩
  case round =>
    obtain ⟨rfl, rfl, rfl⟩ := hrel
    go_wp2_with (go_at_call 34; (with_reducible refine (Ins_calls HO.out HN.out HC.out HM.out HL.out HD.out).mono ?_); rintro e w' ⟨rfl, h1, h2⟩; have H1 := hid h1; have H2 := hid h2; clear h1 h2)
    refine bodyPost_ret (results_none rfl _ _ _) rfl ?_
    exact ⟨rfl, H1.out, H2.out⟩
theorem Len64_calls (w : World) (n : Nat) (hn : n ≤ 4) (N : Int) (hN : N = n) : Calls Try.prog 43 #[.int .u64 N] w fun e w' => (∃ z : Int, e = .returned (.int .i64 z)) ∧ w = w' := by
  rcases (show n = 0 ∨ n = 1 ∨ n = 2 ∨ n = 3 ∨ n = 4 by omega) with rfl | rfl | rfl | rfl | rfl <;>
  · subst hN
    go_enter Try.func43, Try.ntmps43
    go_wp2
    go_ret
    exact ⟨⟨_, rfl⟩, by first | rfl | trivial⟩
theorem Len_calls (w : World) (n : Nat) (hn : n ≤ 4) (N : Int) (hN : N = n) : Calls Try.prog 32 #[.int .u64 N] w fun e w' => (∃ z : Int, e = .returned (.int .i64 z)) ∧ w = w' := by
  have HN := hid hn; have HM := hid hN
  clear hn hN
  go_enter Try.func32, Try.ntmps32
  go_wp2_with (go_at_call 43; (with_reducible refine (Len64_calls _ n HN.out N HM.out).mono ?_); rintro e w' ⟨⟨z, rfl⟩, rfl⟩; skip)
  go_ret
  exact ⟨⟨_, rfl⟩, by first | rfl | trivial⟩
theorem Ins0_calls (w : World) (a : Option Addr) (c : Nat) : Calls Try.prog 34 #[.slice a 0 c, .int .i64 0, .int .i64 0, (.func (.func 29) #[] #[])] w fun e w' => e = .returned (.tuple #[]) ∧ w = w' := by
  go_enter Try.func34, Try.ntmps34
  go_wp2
  go_loopw [8] (fun iv wr => iv = .int .i64 1 ∧ wr = w) (fun _ _ => 0)
  case atStart => exact ⟨rfl, rfl⟩
  case round =>
    obtain ⟨rfl, rfl⟩ := hrel
    go_wp2
    go_end0
    exact ⟨rfl, by first | rfl | trivial⟩
theorem Pdq0_calls (w : World) (a : Option Addr) (c : Nat) (z : Int) : Calls Try.prog 31 #[.slice a 0 c, .int .i64 0, .int .i64 0, .int .i64 z, (.func (.func 29) #[] #[])] w fun e w' => e = .returned (.tuple #[]) ∧ w = w' := by
  go_enter Try.func31, Try.ntmps31
  go_wp2
  go_loopw [1, 2] (fun av bv wr => av = .int .i64 0 ∧ bv = .int .i64 0 ∧ wr = w) (fun _ _ _ => 0)
  case atStart => exact ⟨rfl, rfl, rfl⟩
  case round =>
    obtain ⟨rfl, rfl, rfl⟩ := hrel
    go_wp2_with (go_at_call 34; (with_reducible refine (Ins0_calls _ _ _).mono ?_); rintro e w' ⟨rfl, rfl⟩; skip)
    refine bodyPost_ret (results_none rfl _ _ _) rfl ?_
    exact ⟨rfl, by first | rfl | trivial⟩
/-- SortFunc at few marks: the same ones, the greatest place first. -/
theorem Sort_calls {w : World} {A : Nat → Prop} {v : Value} {L : List Mk} (h : OwnM w A v L) (hl : L.length ≤ 4) (hd : Alike L L) :
    Calls Try.prog 28 #[v, (.func (.func 29) #[] #[])] w fun e w' => e = .returned (.tuple #[]) ∧ (∃ L', OwnM w' A v L' ∧ Alike L L' ∧ ∀ p q, p < q → q < L.length → sq L' q < sq L' p) ∧ Frm (fun k => v.ownBlock = some k) w w' := by
  obtain ⟨a, c, rfl⟩ := h.slice
  obtain ⟨n, hn⟩ : ∃ n, L.length = n := ⟨_, rfl⟩
  rw [hn]
  rw [hn] at hl h
  by_cases h0 : n = 0
  · subst h0
    have HO := hid h; have HD := hid hd
    clear hl hd h hn
    go_enter Try.func28, Try.ntmps28
    go_wp2_with (first
      | (go_at_call 32; (with_reducible refine (Len_calls _ 0 (by decide) 0 rfl).mono ?_); rintro e w' ⟨⟨z, rfl⟩, rfl⟩; skip)
      | (go_at_call 31; (with_reducible refine (Pdq0_calls _ _ _ _).mono ?_); rintro e w' ⟨rfl, rfl⟩; skip))
    go_end0
    exact ⟨rfl, ⟨L, HO.out, HD.out, fun p q _ h => by omega⟩, Frm.refl _ _⟩
  · obtain ⟨g, c', hv, hc, hm, _⟩ := h.at_ (by omega)
    rw [hn] at hv hc
    injection hv with e1 e2 e3
    subst e1 e3
    have HO := hid h; have HD := hid hd; have HN := hid hn.symm; have HL := hid hl; have HC := hid hc; have HM := hid hm
    have hn4 : (n : Int) ≤ 4 := by omega
    have hn0 : (0 : Int) ≤ (n : Int) := by omega
    clear hd h hn h0 e2 hc hm hl
    go_enter Try.func28, Try.ntmps28
    go_wp2_with (first
      | (go_at_call 32; (with_reducible refine (Len_calls _ n HL.out n rfl).mono ?_); rintro e w' ⟨⟨z, rfl⟩, rfl⟩; skip)
      | (go_at_call 31; (with_reducible refine (Pdq_calls HO.out HN.out HC.out HM.out (by have := HL.out; omega) HD.out _).mono ?_); rintro e w' ⟨rfl, h1, h2⟩; have H1 := hid h1; have H2 := hid h2; clear h1 h2))
    go_end0
    exact ⟨rfl, H1.out, H2.out.mono fun k _ e => e ▸ rfl⟩
end Go.Proofs.Ytiffhkhmkigolaa
