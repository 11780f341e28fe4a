/- ViewsJoin, walked: a view is to be joined just when two replicas have gone beyond one's own; it is the least of theirs. For every votes and every own view. -/
import Derived.Test.YtkpeoenbeaapoaaDoorVwKnown
import Derived.Test.YtkpeoenbeaapoaaDoorTypes
namespace Go.Proofs.YtkpeoenbeaapoaaDoor
open Go.RowKit Go.ChangeShapes
set_option linter.unusedVariables false
set_option linter.unusedSimpArgs false
set_option maxRecDepth 100000
abbrev TA4 : Nat := 22
def aC (A : List Int) : List Value := A.map (Value.int .u8)
theorem aC_at (A : List Int) (k : Nat) (y : Int) (h : A[k]? = some y) : (aC A)[k]? = some (.int .u8 y) := by unfold aC; rw [List.getElem?_map, h]; rfl
/-- The views that are voted for. -/
def xs9 (A : List Int) : List Int := A.map fun y => y % 9 + 1
theorem xs9_at (A : List Int) (k : Nat) (y : Int) (h : A[k]? = some y) : (xs9 A)[k]? = some (y % 9 + 1) := by unfold xs9; rw [List.getElem?_map, h]; rfl
/-- The votes behind k rounds. -/
def tK (A : List Int) (k : Nat) : List Vt := (List.range 4).map fun j => if j < k then ((j : Int), 1, A.getD j 0 % 9 + 1) else (0, 0, 0)
theorem tK_zero (A : List Int) : tK A 0 = VT0 := rfl
theorem tK_at (A : List Int) (k : Nat) (hk : k < 4) : (tK A k)[k]? = some (0, 0, 0) := by
  unfold tK
  rw [List.getElem?_map, List.getElem?_range hk]
  show some (if k < k then _ else _) = _
  rw [if_neg (Nat.lt_irrefl k)]
theorem tK_succ (A : List Int) (k : Nat) (hk : k < 4) (y : Int) (h : A[k]? = some y) : (tK A k).set k ((k : Int), 1, y % 9 + 1) = tK A (k + 1) := by
  have hy : A.getD k 0 = y := by rw [List.getD_eq_getElem?_getD, h]; rfl
  have h4 : k = 0 ∨ k = 1 ∨ k = 2 ∨ k = 3 := by omega
  unfold tK
  rcases h4 with rfl | rfl | rfl | rfl <;> rw [← hy] <;> rfl
theorem tK_at2 (A : List Int) (k : Nat) (hk : k < 4) (y : Int) (h : A[k]? = some y) : (tK A (k + 1))[k]? = some ((k : Int), 1, y % 9 + 1) := by
  rw [← tK_succ A k hk y h, List.getElem?_set_self (by show k < (List.map _ (List.range 4)).length; rw [List.length_map, List.length_range]; exact hk)]
set_option maxHeartbeats 16000000 in
theorem ViewsJoin_walk (l0 : List Value) (x0 : List Int) (a1 : Int) (w : World) (h0 : c22.K w x0 l0) (h1 : (Lit.int .u8 a1).wf = true) :
    Calls Tryd.prog 3 #[.agg l0.toArray, .int .u8 a1] w fun e w' => e = .returned (.bool true) ∧ Below w.heap.size w w' := by
  obtain ⟨rfl, hl4, hwf⟩ := k22 h0
  clear h0
  have hA : ∀ y ∈ x0, 0 ≤ y ∧ y ≤ 255 := fun y hy => (by have := hwf y hy; simp [Lit.wf, IntKind.min, IntKind.max, IntKind.bits, IntKind.signed] at this; omega)
  obtain ⟨ho0, ho1⟩ : 0 ≤ a1 ∧ a1 ≤ 255 := by have := h1; simp [Lit.wf, IntKind.min, IntKind.max, IntKind.bits, IntKind.signed] at this; omega
  have HA := hid hA
  have HL4 := hid hl4
  obtain ⟨b0, b1, b2, b3, rfl⟩ : ∃ b0 b1 b2 b3, x0 = [b0, b1, b2, b3] := by
    match x0, hl4 with
    | [b0, b1, b2, b3], _ => exact ⟨b0, b1, b2, b3, rfl⟩
  clear hwf hl4 hA h1
  go_enter Tryd.func3, Tryd.ntmps3
  go_wp2_with (first
    | (go_at_call 6; (with_reducible refine (known_calls _).mono ?_); rintro e w1 ⟨rfl, f'⟩; have HX := hid ((Blk.new w (aC [b0, b1, b2, b3]) TA4).frm f' (fun h => h)); have HW1 : w.heap.size < w1.heap.size := (by have := f'.size; simp at this; omega); have HF := hid (((Below.refl _ _).alloc (Nat.le_refl _) _).trans (f'.below (by simp) (fun k hk hn => hn))); clear f')
    | (go_at_call 7; (with_reducible refine (VNew_calls _).mono ?_); rintro e w2 ⟨rfl, hv, hf⟩; have HV := hid hv; have HF2 := hid (HF.out.trans (hf.below HF.out.size (fun k hk hn => hn))); have HX2 := hid (HX.out.frm hf (fun h => h)); clear hv hf HF HX; have HF := HF2; have HX := HX2; clear HF2 HX2))
  have HA0 := hid (rfl : [b0, b1, b2, b3] = [b0, b1, b2, b3])
  obtain ⟨A, hAA⟩ : ∃ A, [b0, b1, b2, b3] = A := ⟨_, rfl⟩
  rw [hAA] at HA HL4 HX
  have HAA := hid hAA
  clear hAA HA0
  have HVW := hid (show w.heap.size < w1.heap.size from HW1)
  obtain ⟨vb, hvb⟩ : ∃ vb, w1.heap.size = vb := ⟨_, rfl⟩
  rw [hvb] at HV HVW ⊢
  clear hvb
  obtain ⟨xb, hxb⟩ : ∃ xb, w.heap.size = xb := ⟨_, rfl⟩
  have HXB := hid hxb
  rw [hxb] at HX ⊢
  clear hxb
  go_loopw [6, 7, 8] (fun nv lv iv wr => ∃ (k N : Nat) (L : Int), k ≤ 4 ∧ jAll a1 ((xs9 A).take k) = (N, L) ∧ nv = .int .i64 N ∧ lv = .int .u32 L ∧ iv = .int .u8 k ∧ IsVs wr vb (tK A k) ∧ Blk wr xb (aC A) TA4 ∧ Below w.heap.size w wr) (fun _ _ i _ => 4 - (intOf i).toNat)
  case atStart => exact ⟨0, 0, 0, by omega, rfl, rfl, rfl, rfl, HV.out, HX.out, HF.out⟩
  case round =>
    clear HV HX HF
    obtain ⟨k, N, L, hk, hJ, rfl, rfl, rfl, hv, hx, hf⟩ := hrel
    have HV := hid hv; have HX := hid hx; have HF := hid hf
    have HNk := hid (show N ≤ k by have := jAll_n a1 ((xs9 A).take k) (0, 0); rw [show ((xs9 A).take k).foldl (jF a1) (0, 0) = (N, L) from hJ, List.length_take] at this; have h2 : N ≤ 0 + min k (xs9 A).length := this; omega)
    have HJ := hid hJ
    clear hv hx hf hJ
    by_cases hk4 : k < 4
    · obtain ⟨y, hy⟩ : ∃ y, A[k]? = some y := ⟨_, List.getElem?_eq_getElem (by rw [HL4.out]; exact hk4)⟩
      have HY := hid hy
      obtain ⟨hy0, hy1⟩ := HA.out y (List.mem_of_getElem? hy)
      have hc := (HX.out.cell k).trans (aC_at A k y hy)
      have hki : (k : Int) < 4 := by omega
      have hk0 : 0 ≤ (k : Int) := by omega
      have HK4 := hid hk4
      obtain ⟨m, hm⟩ : ∃ m, y % 9 = m := ⟨_, rfl⟩
      obtain ⟨hm0, hm8⟩ : 0 ≤ m ∧ m ≤ 8 := by omega
      have HTS := hid (show (tK A k).set k ((k : Int), 1, m + 1) = tK A (k + 1) from hm ▸ tK_succ A k hk4 y hy)
      have HT2 := hid (show (tK A (k + 1))[k]? = some ((k : Int), 1, m + 1) from hm ▸ tK_at2 A k hk4 y hy)
      have HT1 := hid (tK_at A k hk4)
      have HXS := hid (show (xs9 A)[k]? = some (m + 1) from hm ▸ xs9_at A k y hy)
      have HM := hid (show 0 ≤ m ∧ m ≤ 8 from ⟨hm0, hm8⟩)
      have hmt : y.tmod 9 = m := by rw [Int.tmod_eq_emod_of_nonneg hy0]; exact hm
      have HMT := hid hm
      clear hy hk4 hk hy0 hy1 hm
      by_cases hz : m = 0
      · subst hz
        clear hm0 hm8
        by_cases hv : 1 ≤ a1
        · have HJ1 := hid (show jAll a1 ((xs9 A).take (k + 1)) = (N, L) by rw [jAll_succ a1 _ k (0 + 1) HXS.out, HJ.out]; exact jF_le hv)
          go_wp2_with (first
            | (go_at_call 9; (with_reducible refine (Vote_calls _ _ _).mono ?_); rintro e w2 ⟨rfl, f'⟩; clear hc; have HV2 := hid (HV.out.frm f' (fun h => h)); have HX2 := hid (HX.out.frm f' (fun h => h)); have HF2 := hid (HF.out.trans (f'.below HF.out.size (fun k hk hn => hn))); clear HV HF HX f'; have HV := HV2; have HF := HF2; have HX := HX2; clear HV2 HF2 HX2; have hc := (HX.out.cell k).trans (aC_at A k y HY.out))
            | (go_at_call 8; (with_reducible refine (VAdd_old (T := tK A (k + 1)) HV.out k HK4.out k rfl 1 (by have := HM.out; omega) _ _ _ HT2.out (Int.le_refl _)).mono ?_); rintro e w3 ⟨rfl, he, f'⟩; clear hc; have HV2 := hid (he); have HX2 := hid (HX.out.frm f' (fun h => h)); have HF2 := hid (HF.out.trans (f'.below HF.out.size (fun k hk hn => hn))); clear HV HF HX f' he; have HV := HV2; have HF := HF2; have HX := HX2; clear HV2 HF2 HX2; have hc := (HX.out.cell k).trans (aC_at A k y HY.out))
            | (go_at_call 8; (with_reducible refine (VAdd_new (T := tK A k) HV.out k HK4.out k rfl 1 (by have := HM.out; omega) 0 0 0 HT1.out (by have := HM.out; omega)).mono ?_); rintro e w3 ⟨rfl, he, f'⟩; clear hc; have HV2 := hid (HTS.out ▸ he); have HX2 := hid (HX.out.frm f' (fun h => by have := HVW.out; have := HXB.out; omega)); have HF2 := hid (HF.out.trans (f'.below HF.out.size (fun k hk hn => by have := HVW.out; omega))); clear HV HF HX f' he; have HV := HV2; have HF := HF2; have HX := HX2; clear HV2 HF2 HX2; have hc := (HX.out.cell k).trans (aC_at A k y HY.out)))
          go_roundw
          case rel => exact ⟨k + 1, N, L, by have := HK4.out; omega, HJ1.out, rfl, rfl, rfl, HV.out, HX.out, HF.out⟩
          case measure => have := HK4.out; simp [intOf]; omega
        · by_cases hN : N = 0
          · subst hN
            have HJ1 := hid (show jAll a1 ((xs9 A).take (k + 1)) = (1, (0 + 1)) by rw [jAll_succ a1 _ k (0 + 1) HXS.out, HJ.out]; exact jF_new hv (.inl rfl))
            go_wp2_with (first
              | (go_at_call 9; (with_reducible refine (Vote_calls _ _ _).mono ?_); rintro e w2 ⟨rfl, f'⟩; clear hc; have HV2 := hid (HV.out.frm f' (fun h => h)); have HX2 := hid (HX.out.frm f' (fun h => h)); have HF2 := hid (HF.out.trans (f'.below HF.out.size (fun k hk hn => hn))); clear HV HF HX f'; have HV := HV2; have HF := HF2; have HX := HX2; clear HV2 HF2 HX2; have hc := (HX.out.cell k).trans (aC_at A k y HY.out))
              | (go_at_call 8; (with_reducible refine (VAdd_old (T := tK A (k + 1)) HV.out k HK4.out k rfl 1 (by have := HM.out; omega) _ _ _ HT2.out (Int.le_refl _)).mono ?_); rintro e w3 ⟨rfl, he, f'⟩; clear hc; have HV2 := hid (he); have HX2 := hid (HX.out.frm f' (fun h => h)); have HF2 := hid (HF.out.trans (f'.below HF.out.size (fun k hk hn => hn))); clear HV HF HX f' he; have HV := HV2; have HF := HF2; have HX := HX2; clear HV2 HF2 HX2; have hc := (HX.out.cell k).trans (aC_at A k y HY.out))
              | (go_at_call 8; (with_reducible refine (VAdd_new (T := tK A k) HV.out k HK4.out k rfl 1 (by have := HM.out; omega) 0 0 0 HT1.out (by have := HM.out; omega)).mono ?_); rintro e w3 ⟨rfl, he, f'⟩; clear hc; have HV2 := hid (HTS.out ▸ he); have HX2 := hid (HX.out.frm f' (fun h => by have := HVW.out; have := HXB.out; omega)); have HF2 := hid (HF.out.trans (f'.below HF.out.size (fun k hk hn => by have := HVW.out; omega))); clear HV HF HX f' he; have HV := HV2; have HF := HF2; have HX := HX2; clear HV2 HF2 HX2; have hc := (HX.out.cell k).trans (aC_at A k y HY.out)))
            go_roundw
            case rel => exact ⟨k + 1, 1, (0 + 1), by have := HK4.out; omega, HJ1.out, rfl, rfl, rfl, HV.out, HX.out, HF.out⟩
            case measure => have := HK4.out; simp [intOf]; omega
          · have hN2 : ((N : Int) == 0) = false := beq_eq_false_iff_ne.2 (by omega)
            have hN3 : ¬ (N : Int) = 0 := by omega
            have hN4 : (N : Int) ≤ 4 := by have := HNk.out; have := HK4.out; omega
            have hN5 : 0 ≤ (N : Int) := by omega
            by_cases hl : 1 < L
            · have HJ1 := hid (show jAll a1 ((xs9 A).take (k + 1)) = (N + 1, (0 + 1)) by rw [jAll_succ a1 _ k (0 + 1) HXS.out, HJ.out]; exact jF_new hv (.inr hl))
              go_wp2_with (first
                | (go_at_call 9; (with_reducible refine (Vote_calls _ _ _).mono ?_); rintro e w2 ⟨rfl, f'⟩; clear hc; have HV2 := hid (HV.out.frm f' (fun h => h)); have HX2 := hid (HX.out.frm f' (fun h => h)); have HF2 := hid (HF.out.trans (f'.below HF.out.size (fun k hk hn => hn))); clear HV HF HX f'; have HV := HV2; have HF := HF2; have HX := HX2; clear HV2 HF2 HX2; have hc := (HX.out.cell k).trans (aC_at A k y HY.out))
                | (go_at_call 8; (with_reducible refine (VAdd_old (T := tK A (k + 1)) HV.out k HK4.out k rfl 1 (by have := HM.out; omega) _ _ _ HT2.out (Int.le_refl _)).mono ?_); rintro e w3 ⟨rfl, he, f'⟩; clear hc; have HV2 := hid (he); have HX2 := hid (HX.out.frm f' (fun h => h)); have HF2 := hid (HF.out.trans (f'.below HF.out.size (fun k hk hn => hn))); clear HV HF HX f' he; have HV := HV2; have HF := HF2; have HX := HX2; clear HV2 HF2 HX2; have hc := (HX.out.cell k).trans (aC_at A k y HY.out))
                | (go_at_call 8; (with_reducible refine (VAdd_new (T := tK A k) HV.out k HK4.out k rfl 1 (by have := HM.out; omega) 0 0 0 HT1.out (by have := HM.out; omega)).mono ?_); rintro e w3 ⟨rfl, he, f'⟩; clear hc; have HV2 := hid (HTS.out ▸ he); have HX2 := hid (HX.out.frm f' (fun h => by have := HVW.out; have := HXB.out; omega)); have HF2 := hid (HF.out.trans (f'.below HF.out.size (fun k hk hn => by have := HVW.out; omega))); clear HV HF HX f' he; have HV := HV2; have HF := HF2; have HX := HX2; clear HV2 HF2 HX2; have hc := (HX.out.cell k).trans (aC_at A k y HY.out)))
              go_roundw
              case rel => exact ⟨k + 1, N + 1, (0 + 1), by have := HK4.out; omega, HJ1.out, rfl, rfl, rfl, HV.out, HX.out, HF.out⟩
              case measure => have := HK4.out; simp [intOf]; omega
            · have HJ1 := hid (show jAll a1 ((xs9 A).take (k + 1)) = (N + 1, L) by rw [jAll_succ a1 _ k (0 + 1) HXS.out, HJ.out]; exact jF_old hv (fun h => h.elim hN hl))
              go_wp2_with (first
                | (go_at_call 9; (with_reducible refine (Vote_calls _ _ _).mono ?_); rintro e w2 ⟨rfl, f'⟩; clear hc; have HV2 := hid (HV.out.frm f' (fun h => h)); have HX2 := hid (HX.out.frm f' (fun h => h)); have HF2 := hid (HF.out.trans (f'.below HF.out.size (fun k hk hn => hn))); clear HV HF HX f'; have HV := HV2; have HF := HF2; have HX := HX2; clear HV2 HF2 HX2; have hc := (HX.out.cell k).trans (aC_at A k y HY.out))
                | (go_at_call 8; (with_reducible refine (VAdd_old (T := tK A (k + 1)) HV.out k HK4.out k rfl 1 (by have := HM.out; omega) _ _ _ HT2.out (Int.le_refl _)).mono ?_); rintro e w3 ⟨rfl, he, f'⟩; clear hc; have HV2 := hid (he); have HX2 := hid (HX.out.frm f' (fun h => h)); have HF2 := hid (HF.out.trans (f'.below HF.out.size (fun k hk hn => hn))); clear HV HF HX f' he; have HV := HV2; have HF := HF2; have HX := HX2; clear HV2 HF2 HX2; have hc := (HX.out.cell k).trans (aC_at A k y HY.out))
                | (go_at_call 8; (with_reducible refine (VAdd_new (T := tK A k) HV.out k HK4.out k rfl 1 (by have := HM.out; omega) 0 0 0 HT1.out (by have := HM.out; omega)).mono ?_); rintro e w3 ⟨rfl, he, f'⟩; clear hc; have HV2 := hid (HTS.out ▸ he); have HX2 := hid (HX.out.frm f' (fun h => by have := HVW.out; have := HXB.out; omega)); have HF2 := hid (HF.out.trans (f'.below HF.out.size (fun k hk hn => by have := HVW.out; omega))); clear HV HF HX f' he; have HV := HV2; have HF := HF2; have HX := HX2; clear HV2 HF2 HX2; have hc := (HX.out.cell k).trans (aC_at A k y HY.out)))
              go_roundw
              case rel => exact ⟨k + 1, N + 1, L, by have := HK4.out; omega, HJ1.out, rfl, rfl, rfl, HV.out, HX.out, HF.out⟩
              case measure => have := HK4.out; simp [intOf]; omega
      · have hz2 : 0 < m := by omega
        have HZ2 := hid hz2
        clear hz
        by_cases hv : (m + 1) ≤ a1
        · have HJ1 := hid (show jAll a1 ((xs9 A).take (k + 1)) = (N, L) by rw [jAll_succ a1 _ k (m + 1) HXS.out, HJ.out]; exact jF_le hv)
          go_wp2_with (first
            | (go_at_call 9; (with_reducible refine (Vote_calls _ _ _).mono ?_); rintro e w2 ⟨rfl, f'⟩; clear hc; have HV2 := hid (HV.out.frm f' (fun h => h)); have HX2 := hid (HX.out.frm f' (fun h => h)); have HF2 := hid (HF.out.trans (f'.below HF.out.size (fun k hk hn => hn))); clear HV HF HX f'; have HV := HV2; have HF := HF2; have HX := HX2; clear HV2 HF2 HX2; have hc := (HX.out.cell k).trans (aC_at A k y HY.out))
            | (go_at_call 8; (with_reducible refine (VAdd_old (T := tK A (k + 1)) HV.out k HK4.out k rfl (m + 1) (by have := HM.out; omega) _ _ _ HT2.out (Int.le_refl _)).mono ?_); rintro e w3 ⟨rfl, he, f'⟩; clear hc; have HV2 := hid (he); have HX2 := hid (HX.out.frm f' (fun h => h)); have HF2 := hid (HF.out.trans (f'.below HF.out.size (fun k hk hn => hn))); clear HV HF HX f' he; have HV := HV2; have HF := HF2; have HX := HX2; clear HV2 HF2 HX2; have hc := (HX.out.cell k).trans (aC_at A k y HY.out))
            | (go_at_call 8; (with_reducible refine (VAdd_old (T := tK A (k + 1)) HV.out k HK4.out k rfl m (by have := HM.out; have := HZ2.out; omega) _ _ _ HT2.out (by omega)).mono ?_); rintro e w3 ⟨rfl, he, f'⟩; clear hc; have HV2 := hid (he); have HX2 := hid (HX.out.frm f' (fun h => h)); have HF2 := hid (HF.out.trans (f'.below HF.out.size (fun k hk hn => hn))); clear HV HF HX f' he; have HV := HV2; have HF := HF2; have HX := HX2; clear HV2 HF2 HX2; have hc := (HX.out.cell k).trans (aC_at A k y HY.out))
            | (go_at_call 8; (with_reducible refine (VAdd_new (T := tK A k) HV.out k HK4.out k rfl (m + 1) (by have := HM.out; omega) 0 0 0 HT1.out (by have := HM.out; omega)).mono ?_); rintro e w3 ⟨rfl, he, f'⟩; clear hc; have HV2 := hid (HTS.out ▸ he); have HX2 := hid (HX.out.frm f' (fun h => by have := HVW.out; have := HXB.out; omega)); have HF2 := hid (HF.out.trans (f'.below HF.out.size (fun k hk hn => by have := HVW.out; omega))); clear HV HF HX f' he; have HV := HV2; have HF := HF2; have HX := HX2; clear HV2 HF2 HX2; have hc := (HX.out.cell k).trans (aC_at A k y HY.out)))
          go_roundw
          case rel => exact ⟨k + 1, N, L, by have := HK4.out; omega, HJ1.out, rfl, rfl, rfl, HV.out, HX.out, HF.out⟩
          case measure => have := HK4.out; simp [intOf]; omega
        · by_cases hN : N = 0
          · subst hN
            have HJ1 := hid (show jAll a1 ((xs9 A).take (k + 1)) = (1, (m + 1)) by rw [jAll_succ a1 _ k (m + 1) HXS.out, HJ.out]; exact jF_new hv (.inl rfl))
            go_wp2_with (first
              | (go_at_call 9; (with_reducible refine (Vote_calls _ _ _).mono ?_); rintro e w2 ⟨rfl, f'⟩; clear hc; have HV2 := hid (HV.out.frm f' (fun h => h)); have HX2 := hid (HX.out.frm f' (fun h => h)); have HF2 := hid (HF.out.trans (f'.below HF.out.size (fun k hk hn => hn))); clear HV HF HX f'; have HV := HV2; have HF := HF2; have HX := HX2; clear HV2 HF2 HX2; have hc := (HX.out.cell k).trans (aC_at A k y HY.out))
              | (go_at_call 8; (with_reducible refine (VAdd_old (T := tK A (k + 1)) HV.out k HK4.out k rfl (m + 1) (by have := HM.out; omega) _ _ _ HT2.out (Int.le_refl _)).mono ?_); rintro e w3 ⟨rfl, he, f'⟩; clear hc; have HV2 := hid (he); have HX2 := hid (HX.out.frm f' (fun h => h)); have HF2 := hid (HF.out.trans (f'.below HF.out.size (fun k hk hn => hn))); clear HV HF HX f' he; have HV := HV2; have HF := HF2; have HX := HX2; clear HV2 HF2 HX2; have hc := (HX.out.cell k).trans (aC_at A k y HY.out))
              | (go_at_call 8; (with_reducible refine (VAdd_old (T := tK A (k + 1)) HV.out k HK4.out k rfl m (by have := HM.out; have := HZ2.out; omega) _ _ _ HT2.out (by omega)).mono ?_); rintro e w3 ⟨rfl, he, f'⟩; clear hc; have HV2 := hid (he); have HX2 := hid (HX.out.frm f' (fun h => h)); have HF2 := hid (HF.out.trans (f'.below HF.out.size (fun k hk hn => hn))); clear HV HF HX f' he; have HV := HV2; have HF := HF2; have HX := HX2; clear HV2 HF2 HX2; have hc := (HX.out.cell k).trans (aC_at A k y HY.out))
              | (go_at_call 8; (with_reducible refine (VAdd_new (T := tK A k) HV.out k HK4.out k rfl (m + 1) (by have := HM.out; omega) 0 0 0 HT1.out (by have := HM.out; omega)).mono ?_); rintro e w3 ⟨rfl, he, f'⟩; clear hc; have HV2 := hid (HTS.out ▸ he); have HX2 := hid (HX.out.frm f' (fun h => by have := HVW.out; have := HXB.out; omega)); have HF2 := hid (HF.out.trans (f'.below HF.out.size (fun k hk hn => by have := HVW.out; omega))); clear HV HF HX f' he; have HV := HV2; have HF := HF2; have HX := HX2; clear HV2 HF2 HX2; have hc := (HX.out.cell k).trans (aC_at A k y HY.out)))
            go_roundw
            case rel => exact ⟨k + 1, 1, (m + 1), by have := HK4.out; omega, HJ1.out, rfl, rfl, rfl, HV.out, HX.out, HF.out⟩
            case measure => have := HK4.out; simp [intOf]; omega
          · have hN2 : ((N : Int) == 0) = false := beq_eq_false_iff_ne.2 (by omega)
            have hN3 : ¬ (N : Int) = 0 := by omega
            have hN4 : (N : Int) ≤ 4 := by have := HNk.out; have := HK4.out; omega
            have hN5 : 0 ≤ (N : Int) := by omega
            by_cases hl : (m + 1) < L
            · have HJ1 := hid (show jAll a1 ((xs9 A).take (k + 1)) = (N + 1, (m + 1)) by rw [jAll_succ a1 _ k (m + 1) HXS.out, HJ.out]; exact jF_new hv (.inr hl))
              go_wp2_with (first
                | (go_at_call 9; (with_reducible refine (Vote_calls _ _ _).mono ?_); rintro e w2 ⟨rfl, f'⟩; clear hc; have HV2 := hid (HV.out.frm f' (fun h => h)); have HX2 := hid (HX.out.frm f' (fun h => h)); have HF2 := hid (HF.out.trans (f'.below HF.out.size (fun k hk hn => hn))); clear HV HF HX f'; have HV := HV2; have HF := HF2; have HX := HX2; clear HV2 HF2 HX2; have hc := (HX.out.cell k).trans (aC_at A k y HY.out))
                | (go_at_call 8; (with_reducible refine (VAdd_old (T := tK A (k + 1)) HV.out k HK4.out k rfl (m + 1) (by have := HM.out; omega) _ _ _ HT2.out (Int.le_refl _)).mono ?_); rintro e w3 ⟨rfl, he, f'⟩; clear hc; have HV2 := hid (he); have HX2 := hid (HX.out.frm f' (fun h => h)); have HF2 := hid (HF.out.trans (f'.below HF.out.size (fun k hk hn => hn))); clear HV HF HX f' he; have HV := HV2; have HF := HF2; have HX := HX2; clear HV2 HF2 HX2; have hc := (HX.out.cell k).trans (aC_at A k y HY.out))
                | (go_at_call 8; (with_reducible refine (VAdd_old (T := tK A (k + 1)) HV.out k HK4.out k rfl m (by have := HM.out; have := HZ2.out; omega) _ _ _ HT2.out (by omega)).mono ?_); rintro e w3 ⟨rfl, he, f'⟩; clear hc; have HV2 := hid (he); have HX2 := hid (HX.out.frm f' (fun h => h)); have HF2 := hid (HF.out.trans (f'.below HF.out.size (fun k hk hn => hn))); clear HV HF HX f' he; have HV := HV2; have HF := HF2; have HX := HX2; clear HV2 HF2 HX2; have hc := (HX.out.cell k).trans (aC_at A k y HY.out))
                | (go_at_call 8; (with_reducible refine (VAdd_new (T := tK A k) HV.out k HK4.out k rfl (m + 1) (by have := HM.out; omega) 0 0 0 HT1.out (by have := HM.out; omega)).mono ?_); rintro e w3 ⟨rfl, he, f'⟩; clear hc; have HV2 := hid (HTS.out ▸ he); have HX2 := hid (HX.out.frm f' (fun h => by have := HVW.out; have := HXB.out; omega)); have HF2 := hid (HF.out.trans (f'.below HF.out.size (fun k hk hn => by have := HVW.out; omega))); clear HV HF HX f' he; have HV := HV2; have HF := HF2; have HX := HX2; clear HV2 HF2 HX2; have hc := (HX.out.cell k).trans (aC_at A k y HY.out)))
              go_roundw
              case rel => exact ⟨k + 1, N + 1, (m + 1), by have := HK4.out; omega, HJ1.out, rfl, rfl, rfl, HV.out, HX.out, HF.out⟩
              case measure => have := HK4.out; simp [intOf]; omega
            · have HJ1 := hid (show jAll a1 ((xs9 A).take (k + 1)) = (N + 1, L) by rw [jAll_succ a1 _ k (m + 1) HXS.out, HJ.out]; exact jF_old hv (fun h => h.elim hN hl))
              go_wp2_with (first
                | (go_at_call 9; (with_reducible refine (Vote_calls _ _ _).mono ?_); rintro e w2 ⟨rfl, f'⟩; clear hc; have HV2 := hid (HV.out.frm f' (fun h => h)); have HX2 := hid (HX.out.frm f' (fun h => h)); have HF2 := hid (HF.out.trans (f'.below HF.out.size (fun k hk hn => hn))); clear HV HF HX f'; have HV := HV2; have HF := HF2; have HX := HX2; clear HV2 HF2 HX2; have hc := (HX.out.cell k).trans (aC_at A k y HY.out))
                | (go_at_call 8; (with_reducible refine (VAdd_old (T := tK A (k + 1)) HV.out k HK4.out k rfl (m + 1) (by have := HM.out; omega) _ _ _ HT2.out (Int.le_refl _)).mono ?_); rintro e w3 ⟨rfl, he, f'⟩; clear hc; have HV2 := hid (he); have HX2 := hid (HX.out.frm f' (fun h => h)); have HF2 := hid (HF.out.trans (f'.below HF.out.size (fun k hk hn => hn))); clear HV HF HX f' he; have HV := HV2; have HF := HF2; have HX := HX2; clear HV2 HF2 HX2; have hc := (HX.out.cell k).trans (aC_at A k y HY.out))
                | (go_at_call 8; (with_reducible refine (VAdd_old (T := tK A (k + 1)) HV.out k HK4.out k rfl m (by have := HM.out; have := HZ2.out; omega) _ _ _ HT2.out (by omega)).mono ?_); rintro e w3 ⟨rfl, he, f'⟩; clear hc; have HV2 := hid (he); have HX2 := hid (HX.out.frm f' (fun h => h)); have HF2 := hid (HF.out.trans (f'.below HF.out.size (fun k hk hn => hn))); clear HV HF HX f' he; have HV := HV2; have HF := HF2; have HX := HX2; clear HV2 HF2 HX2; have hc := (HX.out.cell k).trans (aC_at A k y HY.out))
                | (go_at_call 8; (with_reducible refine (VAdd_new (T := tK A k) HV.out k HK4.out k rfl (m + 1) (by have := HM.out; omega) 0 0 0 HT1.out (by have := HM.out; omega)).mono ?_); rintro e w3 ⟨rfl, he, f'⟩; clear hc; have HV2 := hid (HTS.out ▸ he); have HX2 := hid (HX.out.frm f' (fun h => by have := HVW.out; have := HXB.out; omega)); have HF2 := hid (HF.out.trans (f'.below HF.out.size (fun k hk hn => by have := HVW.out; omega))); clear HV HF HX f' he; have HV := HV2; have HF := HF2; have HX := HX2; clear HV2 HF2 HX2; have hc := (HX.out.cell k).trans (aC_at A k y HY.out)))
              go_roundw
              case rel => exact ⟨k + 1, N + 1, L, by have := HK4.out; omega, HJ1.out, rfl, rfl, rfl, HV.out, HX.out, HF.out⟩
              case measure => have := HK4.out; simp [intOf]; omega
    · have hke : k = 4 := by omega
      subst hke
      have hx9 : (xs9 A).take 4 = [b0 % 9 + 1, b1 % 9 + 1, b2 % 9 + 1, b3 % 9 + 1] := by rw [← HAA.out]; rfl
      have hjj := HJ.out
      rw [hx9] at hjj
      have ht4 : tK A 4 = [(0, 1, b0 % 9 + 1), (1, 1, b1 % 9 + 1), (2, 1, b2 % 9 + 1), (3, 1, b3 % 9 + 1)] := by rw [← HAA.out]; rfl
      have hvv := HV.out
      rw [ht4] at hvv
      have HVV := hid hvv; have HJJ := hid hjj
      clear hvv hjj hx9 ht4 hk hk4
      by_cases h2 : N < 2
      · have HD := hid (show ¬ 2 ≤ N by omega)
        have hd : (N : Int) < 2 := by omega
        clear h2
        go_wp2_with (first
          | (go_at_call 10; (with_reducible refine (VJoin_no HVV.out a1 N L HJJ.out HD.out).mono ?_); rintro e w2 ⟨rfl, f'⟩; have f'0 := f'.below HF.out.size (fun k hk hn => hn)))
        go_ret
        exact ⟨vret_bool (show (!decide (2 ≤ (N : Int))) = true by rw [decide_eq_false (by have := HD.out; omega)]; rfl), HF.out.trans f'0⟩
      · have HD := hid (show 2 ≤ N by omega)
        have hd : 2 ≤ (N : Int) := by omega
        clear h2
        go_wp2_with (first
          | (go_at_call 10; (with_reducible refine (VJoin_yes HVV.out a1 N L HJJ.out HD.out).mono ?_); rintro e w2 ⟨rfl, f'⟩; have f'0 := f'.below HF.out.size (fun k hk hn => hn)))
        go_ret
        exact ⟨rfl, HF.out.trans f'0⟩
end Go.Proofs.YtkpeoenbeaapoaaDoor
