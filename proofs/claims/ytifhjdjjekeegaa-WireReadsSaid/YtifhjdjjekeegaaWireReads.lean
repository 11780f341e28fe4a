/- WireReads, walked: whatever bytes, read by whatever calls: the document's numbers, or its error. -/
import Derived.Test.YtifhjdjjekeegaaWireGet
namespace Go.Proofs.Ytifhjdjjekeegaa
open Go.RowKit Go.ChangeShapes
set_option linter.unusedVariables false
set_option linter.unusedSimpArgs false
set_option maxRecDepth 100000 in
set_option maxHeartbeats 16000000 in
theorem WireReads_walk (a0 : Option Addr) (c0 : Nat) (z0 : List Int) (a1 : Option Addr) (c1 : Nat) (z1 : List (Int × Int × (List Int) × Int × Unit)) (w : World) (h0 : IsInts .u8 w a0 c0 z0) (h1 : SlK c46 w a1 c1 z1) :
    Calls Try.prog 5 #[.slice a0 z0.length c0, .slice a1 z1.length c1] w fun e w' => e = .returned (.bool true) ∧ Below w.heap.size w w' := by
  have hle0 := h0.le
  have hsm0 := h0.small
  have hle := h1.le
  have hsm := h1.small
  by_cases hl0 : z0.length > 400
  · go_enter Try.func5, Try.ntmps5
    go_wp2_with (go_at_call 8; (with_reducible refine (known_calls _).mono ?_); rintro e w1 ⟨rfl, f1⟩)
    go_ret
    exact ⟨rfl, f1⟩
  by_cases hl1 : z1.length > 40
  · go_enter Try.func5, Try.ntmps5
    go_wp2_with (go_at_call 8; (with_reducible refine (known_calls _).mono ?_); rintro e w1 ⟨rfl, f1⟩)
    go_ret
    exact ⟨rfl, f1⟩
  have HI0 := hid h0; clear h0
  go_enter Try.func5, Try.ntmps5
  go_wp2_with (first
      | (go_at_call 8; (with_reducible refine (known_calls _).mono ?_); rintro e w1 ⟨rfl, f1⟩; have HF := hid f1; clear f1)
      | (at_builtin; obtain ⟨A', c', w2, hrun, hI, hfr, _⟩ := app_nil (HI0.out.below HF.out (Nat.le_refl _)) (by omega); refine wpList_run rfl _ _ _ _ rfl rfl rfl hrun ?_; clear hrun; have nF := hid (below_frm0 HF.out hfr); clear HF hfr; have HF := nF; clear nF; have HIo := hid hI; clear hI)
      | (go_at_call 16; (with_reducible refine (Open_calls (x := z0) HIo.out rfl (by omega)).mono ?_); rintro e w3 ⟨b, hb, rfl, hR, f'⟩; have hRB := Nat.le_trans HF.out.size hb; have hF := below_next HF.out f'; clear HF HIo f' hb))
  go_loopw [6, 7] (fun lf i wr => ∃ (k : Nat) (y : List Int) (A : Option Addr) (c : Nat), k ≤ z1.length ∧ lf = .slice A y.length c ∧ i = .int .i64 k ∧ IsInts .u8 w A c y ∧ IsRd wr b y ∧ y.length ≤ 400 ∧ Below w.heap.size w wr) (fun _ i _ => z1.length - (intOf i).toNat)
  case atStart => exact ⟨0, z0, a0, c0, by omega, rfl, rfl, HI0.out, hR, by omega, hF⟩
  case round =>
    clear hR hF HI0
    obtain ⟨k, y, A, c, hk, rfl, rfl, hY, hR, hy4, hF⟩ := hrel
    have HRB := hid hRB; clear hRB
    have HY := hid hY; clear hY
    have HR := hid hR; clear hR
    by_cases hlt : k < z1.length
    · obtain ⟨ba, off0, rfl, hba0, hc⟩ := h1.at_ (by omega)
      obtain ⟨t, ht⟩ : ∃ t, z1[k]? = some t := ⟨z1[k], List.getElem?_eq_getElem hlt⟩
      obtain ⟨cs, hkx, hcx⟩ := hc k t ht
      rw [cells46] at hcx
      obtain ⟨_, g0, y0, g1, y1, ⟨sa, sn, g2, s2⟩, g3, y3⟩ := k46 hkx
      have q0 : wr.cell? ⟨ba, off0 + k * 4, none⟩ = _ := (hF.cell (p := ⟨ba, _, none⟩) hba0).trans (hcx 0 _ g0)
      have q3 : wr.cell? ⟨ba, off0 + k * 4 + 3, none⟩ = _ := (hF.cell (p := ⟨ba, _, none⟩) hba0).trans (hcx 3 _ g3)
      have hq3 := hid (hcx 3 _ g3)
      have hmo := bounds_i64 y3
      obtain ⟨wh, nn, bs, mo, _⟩ := t
      dsimp only at *
      clear hc hcx hkx g0 g1 g2 g3 y0 y1 y3 h1 s2 ht
      have hba := hid hba0; clear hba0
      have hmo1 := hmo.1
      have hmo2 := hmo.2
      clear hmo
      have HF := hid hF; clear hF
      have hcn : ∀ w, (convert 25 9 (.slice none 0 0)).run Try.prog w = .ok (.string (strOfNums [])) w := fun w => conv_of (l := 0) (IsInts.nil w .u8) rfl
      obtain ⟨q, hq⟩ : ∃ q, Go.bits .and .i64 wh 7 = q := ⟨_, rfl⟩
      have hq7 : 0 ≤ q ∧ q ≤ 7 := by rw [← hq, i64_and7]; omega
      have hq0 := hq7.1
      by_cases g0 : q = 0
      · subst g0
        by_cases hm : y.length < 1
        · as_aux_lemma =>
            have hyl : (y.length : Int) < 1 := by omega
            go_wp2_with (first
          | (go_at_call 19; (with_reducible refine (RU8_short HR.out (by omega)).mono ?_); rintro e w' ⟨rfl, rfl⟩)
          | (go_at_call 18; (with_reducible refine (Left_n HR.out (y.length : Int) (rfl)).mono ?_); rintro e w' ⟨rfl, rfl⟩))
            go_roundw
            case rel => exact ⟨k + 1, y, _, _, by omega, rfl, by go_num, HY.out, HR.out, hy4, HF.out⟩
            case measure => simp [intOf]; omega
        · as_aux_lemma =>
            obtain ⟨g, off, rfl, _, _⟩ := HY.out.at_ (by omega)
            have hyle := HY.out.le
            have hysm := HY.out.small
            have hmy := hid (show 1 ≤ y.length by omega)
            have hbd := vOf_take_bound y HY.out.wf 1 (by decide) hmy.out
            obtain ⟨v, hv⟩ : ∃ v, vOf (y.take 1) = v := ⟨_, rfl⟩
            rw [hv, show (256 : Int) ^ 1 = 256 from rfl] at hbd
            have hv1 := hbd.1
            have hv2 := hbd.2
            have hvw := hid (show IntKind.u8.wrap (vOf (y.take 1)) = v from by rw [hv, wrap_u8]; omega)
            have hvh := hid hv
            clear hv hbd
            have hyl : (1 : Int) ≤ (y.length : Int) := by omega
            have hyc : (1 : Int) ≤ (c : Int) := by omega
            by_cases hck : c = 1
            · subst hck
              go_wp2_with (first
          | (go_at_call 19; (with_reducible refine (RU8_ok HR.out hmy.out v hvw.out).mono ?_); rintro e w' ⟨rfl, h', f'⟩; have nR := hid h'; have nF := hid (below_frm1 HF.out f' HRB.out); clear HR HF h' f'; have HR := nR; have HF := nF; clear nR nF; have q3' := (HF.out.cell (p := ⟨ba, off0 + k * 4 + 3, none⟩) hba.out).trans hq3.out)
          | (go_at_call 23; (with_reducible refine (Get_calls (Blk.new _ [.slice (some ⟨g, off, none⟩) y.length _, .bool false] TRf) ((HY.out.below HF.out (Nat.le_refl _)).frm ((Frm.refl (fun _ => False) _).alloc _) (fun _ _ h => h)) 1 1 rfl (by decide) hmy.out v hvh.out).mono ?_); rintro e w' ⟨rfl, fg⟩; have f0 := fresh0 fg; have nR := hid (HR.out.quiet f0); have nF := hid (below_frm0 HF.out f0); clear HR HF fg f0; have HR := nR; have HF := nF; clear nR nF; have q3' := (HF.out.cell (p := ⟨ba, off0 + k * 4 + 3, none⟩) hba.out).trans hq3.out)
          | (go_at_call 18; (with_reducible refine (Left_n HR.out ((y.length - 1 : Nat) : Int) (by simp)).mono ?_); rintro e w' ⟨rfl, rfl⟩))
              go_roundw
              case measure => simp [intOf]; omega
              case rel => exact ⟨k + 1, y.drop 1, _, _, by omega, by first | (rw [List.length_drop]; done) | (have hz := HY.out.le; rw [List.length_drop, show y.length - 1 = 0 by omega]; try simp), by go_num, HY.out.drop0 1 rfl, HR.out, by rw [List.length_drop]; omega, HF.out⟩
            · have hck' := hck
              go_wp2_with (first
          | (go_at_call 19; (with_reducible refine (RU8_ok HR.out hmy.out v hvw.out).mono ?_); rintro e w' ⟨rfl, h', f'⟩; have nR := hid h'; have nF := hid (below_frm1 HF.out f' HRB.out); clear HR HF h' f'; have HR := nR; have HF := nF; clear nR nF; have q3' := (HF.out.cell (p := ⟨ba, off0 + k * 4 + 3, none⟩) hba.out).trans hq3.out)
          | (go_at_call 23; (with_reducible refine (Get_calls (Blk.new _ [.slice (some ⟨g, off, none⟩) y.length _, .bool false] TRf) ((HY.out.below HF.out (Nat.le_refl _)).frm ((Frm.refl (fun _ => False) _).alloc _) (fun _ _ h => h)) 1 1 rfl (by decide) hmy.out v hvh.out).mono ?_); rintro e w' ⟨rfl, fg⟩; have f0 := fresh0 fg; have nR := hid (HR.out.quiet f0); have nF := hid (below_frm0 HF.out f0); clear HR HF fg f0; have HR := nR; have HF := nF; clear nR nF; have q3' := (HF.out.cell (p := ⟨ba, off0 + k * 4 + 3, none⟩) hba.out).trans hq3.out)
          | (go_at_call 18; (with_reducible refine (Left_n HR.out ((y.length - 1 : Nat) : Int) (by simp)).mono ?_); rintro e w' ⟨rfl, rfl⟩))
              go_roundw
              case measure => simp [intOf]; omega
              case rel => exact ⟨k + 1, y.drop 1, _, _, by omega, by first | (rw [List.length_drop]; done) | (have hz := HY.out.le; rw [List.length_drop, show y.length - 1 = 0 by omega]; try simp), by go_num, HY.out.drop 1, HR.out, by rw [List.length_drop]; omega, HF.out⟩
      have b0 : (q == 0) = false := beq_eq_false_iff_ne.2 g0
      by_cases g1 : q = 1
      · subst g1
        by_cases hm : y.length < 2
        · as_aux_lemma =>
            have hyl : (y.length : Int) < 2 := by omega
            go_wp2_with (first
          | (go_at_call 20; (with_reducible refine (RU16_short HR.out (by omega)).mono ?_); rintro e w' ⟨rfl, rfl⟩)
          | (go_at_call 18; (with_reducible refine (Left_n HR.out (y.length : Int) (rfl)).mono ?_); rintro e w' ⟨rfl, rfl⟩))
            go_roundw
            case rel => exact ⟨k + 1, y, _, _, by omega, rfl, by go_num, HY.out, HR.out, hy4, HF.out⟩
            case measure => simp [intOf]; omega
        · as_aux_lemma =>
            obtain ⟨g, off, rfl, _, _⟩ := HY.out.at_ (by omega)
            have hyle := HY.out.le
            have hysm := HY.out.small
            have hmy := hid (show 2 ≤ y.length by omega)
            have hbd := vOf_take_bound y HY.out.wf 2 (by decide) hmy.out
            obtain ⟨v, hv⟩ : ∃ v, vOf (y.take 2) = v := ⟨_, rfl⟩
            rw [hv, show (256 : Int) ^ 2 = 65536 from rfl] at hbd
            have hv1 := hbd.1
            have hv2 := hbd.2
            have hvw := hid (show IntKind.u16.wrap (vOf (y.take 2)) = v from by rw [hv, wrap_u16]; omega)
            have hvh := hid hv
            clear hv hbd
            have hyl : (2 : Int) ≤ (y.length : Int) := by omega
            have hyc : (2 : Int) ≤ (c : Int) := by omega
            by_cases hck : c = 2
            · subst hck
              go_wp2_with (first
          | (go_at_call 20; (with_reducible refine (RU16_ok HR.out hmy.out v hvw.out).mono ?_); rintro e w' ⟨rfl, h', f'⟩; have nR := hid h'; have nF := hid (below_frm1 HF.out f' HRB.out); clear HR HF h' f'; have HR := nR; have HF := nF; clear nR nF; have q3' := (HF.out.cell (p := ⟨ba, off0 + k * 4 + 3, none⟩) hba.out).trans hq3.out)
          | (go_at_call 23; (with_reducible refine (Get_calls (Blk.new _ [.slice (some ⟨g, off, none⟩) y.length _, .bool false] TRf) ((HY.out.below HF.out (Nat.le_refl _)).frm ((Frm.refl (fun _ => False) _).alloc _) (fun _ _ h => h)) 2 2 rfl (by decide) hmy.out v hvh.out).mono ?_); rintro e w' ⟨rfl, fg⟩; have f0 := fresh0 fg; have nR := hid (HR.out.quiet f0); have nF := hid (below_frm0 HF.out f0); clear HR HF fg f0; have HR := nR; have HF := nF; clear nR nF; have q3' := (HF.out.cell (p := ⟨ba, off0 + k * 4 + 3, none⟩) hba.out).trans hq3.out)
          | (go_at_call 18; (with_reducible refine (Left_n HR.out ((y.length - 2 : Nat) : Int) (by simp)).mono ?_); rintro e w' ⟨rfl, rfl⟩))
              go_roundw
              case measure => simp [intOf]; omega
              case rel => exact ⟨k + 1, y.drop 2, _, _, by omega, by first | (rw [List.length_drop]; done) | (have hz := HY.out.le; rw [List.length_drop, show y.length - 2 = 0 by omega]; try simp), by go_num, HY.out.drop0 2 rfl, HR.out, by rw [List.length_drop]; omega, HF.out⟩
            · have hck' := hck
              go_wp2_with (first
          | (go_at_call 20; (with_reducible refine (RU16_ok HR.out hmy.out v hvw.out).mono ?_); rintro e w' ⟨rfl, h', f'⟩; have nR := hid h'; have nF := hid (below_frm1 HF.out f' HRB.out); clear HR HF h' f'; have HR := nR; have HF := nF; clear nR nF; have q3' := (HF.out.cell (p := ⟨ba, off0 + k * 4 + 3, none⟩) hba.out).trans hq3.out)
          | (go_at_call 23; (with_reducible refine (Get_calls (Blk.new _ [.slice (some ⟨g, off, none⟩) y.length _, .bool false] TRf) ((HY.out.below HF.out (Nat.le_refl _)).frm ((Frm.refl (fun _ => False) _).alloc _) (fun _ _ h => h)) 2 2 rfl (by decide) hmy.out v hvh.out).mono ?_); rintro e w' ⟨rfl, fg⟩; have f0 := fresh0 fg; have nR := hid (HR.out.quiet f0); have nF := hid (below_frm0 HF.out f0); clear HR HF fg f0; have HR := nR; have HF := nF; clear nR nF; have q3' := (HF.out.cell (p := ⟨ba, off0 + k * 4 + 3, none⟩) hba.out).trans hq3.out)
          | (go_at_call 18; (with_reducible refine (Left_n HR.out ((y.length - 2 : Nat) : Int) (by simp)).mono ?_); rintro e w' ⟨rfl, rfl⟩))
              go_roundw
              case measure => simp [intOf]; omega
              case rel => exact ⟨k + 1, y.drop 2, _, _, by omega, by first | (rw [List.length_drop]; done) | (have hz := HY.out.le; rw [List.length_drop, show y.length - 2 = 0 by omega]; try simp), by go_num, HY.out.drop 2, HR.out, by rw [List.length_drop]; omega, HF.out⟩
      have b1 : (q == 1) = false := beq_eq_false_iff_ne.2 g1
      by_cases g2 : q = 2
      · subst g2
        by_cases hm : y.length < 4
        · as_aux_lemma =>
            have hyl : (y.length : Int) < 4 := by omega
            go_wp2_with (first
          | (go_at_call 21; (with_reducible refine (RU32_short HR.out (by omega)).mono ?_); rintro e w' ⟨rfl, rfl⟩)
          | (go_at_call 18; (with_reducible refine (Left_n HR.out (y.length : Int) (rfl)).mono ?_); rintro e w' ⟨rfl, rfl⟩))
            go_roundw
            case rel => exact ⟨k + 1, y, _, _, by omega, rfl, by go_num, HY.out, HR.out, hy4, HF.out⟩
            case measure => simp [intOf]; omega
        · as_aux_lemma =>
            obtain ⟨g, off, rfl, _, _⟩ := HY.out.at_ (by omega)
            have hyle := HY.out.le
            have hysm := HY.out.small
            have hmy := hid (show 4 ≤ y.length by omega)
            have hbd := vOf_take_bound y HY.out.wf 4 (by decide) hmy.out
            obtain ⟨v, hv⟩ : ∃ v, vOf (y.take 4) = v := ⟨_, rfl⟩
            rw [hv, show (256 : Int) ^ 4 = 4294967296 from rfl] at hbd
            have hv1 := hbd.1
            have hv2 := hbd.2
            have hvw := hid (show IntKind.u32.wrap (vOf (y.take 4)) = v from by rw [hv, wrap_u32]; omega)
            have hvh := hid hv
            clear hv hbd
            have hyl : (4 : Int) ≤ (y.length : Int) := by omega
            have hyc : (4 : Int) ≤ (c : Int) := by omega
            by_cases hck : c = 4
            · subst hck
              go_wp2_with (first
          | (go_at_call 21; (with_reducible refine (RU32_ok HR.out hmy.out v hvw.out).mono ?_); rintro e w' ⟨rfl, h', f'⟩; have nR := hid h'; have nF := hid (below_frm1 HF.out f' HRB.out); clear HR HF h' f'; have HR := nR; have HF := nF; clear nR nF; have q3' := (HF.out.cell (p := ⟨ba, off0 + k * 4 + 3, none⟩) hba.out).trans hq3.out)
          | (go_at_call 23; (with_reducible refine (Get_calls (Blk.new _ [.slice (some ⟨g, off, none⟩) y.length _, .bool false] TRf) ((HY.out.below HF.out (Nat.le_refl _)).frm ((Frm.refl (fun _ => False) _).alloc _) (fun _ _ h => h)) 4 4 rfl (by decide) hmy.out v hvh.out).mono ?_); rintro e w' ⟨rfl, fg⟩; have f0 := fresh0 fg; have nR := hid (HR.out.quiet f0); have nF := hid (below_frm0 HF.out f0); clear HR HF fg f0; have HR := nR; have HF := nF; clear nR nF; have q3' := (HF.out.cell (p := ⟨ba, off0 + k * 4 + 3, none⟩) hba.out).trans hq3.out)
          | (go_at_call 18; (with_reducible refine (Left_n HR.out ((y.length - 4 : Nat) : Int) (by simp)).mono ?_); rintro e w' ⟨rfl, rfl⟩))
              go_roundw
              case measure => simp [intOf]; omega
              case rel => exact ⟨k + 1, y.drop 4, _, _, by omega, by first | (rw [List.length_drop]; done) | (have hz := HY.out.le; rw [List.length_drop, show y.length - 4 = 0 by omega]; try simp), by go_num, HY.out.drop0 4 rfl, HR.out, by rw [List.length_drop]; omega, HF.out⟩
            · have hck' := hck
              go_wp2_with (first
          | (go_at_call 21; (with_reducible refine (RU32_ok HR.out hmy.out v hvw.out).mono ?_); rintro e w' ⟨rfl, h', f'⟩; have nR := hid h'; have nF := hid (below_frm1 HF.out f' HRB.out); clear HR HF h' f'; have HR := nR; have HF := nF; clear nR nF; have q3' := (HF.out.cell (p := ⟨ba, off0 + k * 4 + 3, none⟩) hba.out).trans hq3.out)
          | (go_at_call 23; (with_reducible refine (Get_calls (Blk.new _ [.slice (some ⟨g, off, none⟩) y.length _, .bool false] TRf) ((HY.out.below HF.out (Nat.le_refl _)).frm ((Frm.refl (fun _ => False) _).alloc _) (fun _ _ h => h)) 4 4 rfl (by decide) hmy.out v hvh.out).mono ?_); rintro e w' ⟨rfl, fg⟩; have f0 := fresh0 fg; have nR := hid (HR.out.quiet f0); have nF := hid (below_frm0 HF.out f0); clear HR HF fg f0; have HR := nR; have HF := nF; clear nR nF; have q3' := (HF.out.cell (p := ⟨ba, off0 + k * 4 + 3, none⟩) hba.out).trans hq3.out)
          | (go_at_call 18; (with_reducible refine (Left_n HR.out ((y.length - 4 : Nat) : Int) (by simp)).mono ?_); rintro e w' ⟨rfl, rfl⟩))
              go_roundw
              case measure => simp [intOf]; omega
              case rel => exact ⟨k + 1, y.drop 4, _, _, by omega, by first | (rw [List.length_drop]; done) | (have hz := HY.out.le; rw [List.length_drop, show y.length - 4 = 0 by omega]; try simp), by go_num, HY.out.drop 4, HR.out, by rw [List.length_drop]; omega, HF.out⟩
      have b2 : (q == 2) = false := beq_eq_false_iff_ne.2 g2
      by_cases g3 : q = 3
      · subst g3
        by_cases hm : y.length < 8
        · as_aux_lemma =>
            have hyl : (y.length : Int) < 8 := by omega
            go_wp2_with (first
          | (go_at_call 22; (with_reducible refine (RU64_short HR.out (by omega)).mono ?_); rintro e w' ⟨rfl, rfl⟩)
          | (go_at_call 18; (with_reducible refine (Left_n HR.out (y.length : Int) (rfl)).mono ?_); rintro e w' ⟨rfl, rfl⟩))
            go_roundw
            case rel => exact ⟨k + 1, y, _, _, by omega, rfl, by go_num, HY.out, HR.out, hy4, HF.out⟩
            case measure => simp [intOf]; omega
        · as_aux_lemma =>
            obtain ⟨g, off, rfl, _, _⟩ := HY.out.at_ (by omega)
            have hyle := HY.out.le
            have hysm := HY.out.small
            have hmy := hid (show 8 ≤ y.length by omega)
            have hbd := vOf_take_bound y HY.out.wf 8 (by decide) hmy.out
            obtain ⟨v, hv⟩ : ∃ v, vOf (y.take 8) = v := ⟨_, rfl⟩
            rw [hv, show (256 : Int) ^ 8 = 18446744073709551616 from rfl] at hbd
            have hv1 := hbd.1
            have hv2 := hbd.2
            have hvw := hid (show vOf (y.take 8) = v from hv)
            have hvh := hid hv
            clear hv hbd
            have hyl : (8 : Int) ≤ (y.length : Int) := by omega
            have hyc : (8 : Int) ≤ (c : Int) := by omega
            by_cases hck : c = 8
            · subst hck
              go_wp2_with (first
          | (go_at_call 22; (with_reducible refine (RU64_ok HR.out hmy.out v hvw.out).mono ?_); rintro e w' ⟨rfl, h', f'⟩; have nR := hid h'; have nF := hid (below_frm1 HF.out f' HRB.out); clear HR HF h' f'; have HR := nR; have HF := nF; clear nR nF; have q3' := (HF.out.cell (p := ⟨ba, off0 + k * 4 + 3, none⟩) hba.out).trans hq3.out)
          | (go_at_call 23; (with_reducible refine (Get_calls (Blk.new _ [.slice (some ⟨g, off, none⟩) y.length _, .bool false] TRf) ((HY.out.below HF.out (Nat.le_refl _)).frm ((Frm.refl (fun _ => False) _).alloc _) (fun _ _ h => h)) 8 8 rfl (by decide) hmy.out v hvh.out).mono ?_); rintro e w' ⟨rfl, fg⟩; have f0 := fresh0 fg; have nR := hid (HR.out.quiet f0); have nF := hid (below_frm0 HF.out f0); clear HR HF fg f0; have HR := nR; have HF := nF; clear nR nF; have q3' := (HF.out.cell (p := ⟨ba, off0 + k * 4 + 3, none⟩) hba.out).trans hq3.out)
          | (go_at_call 18; (with_reducible refine (Left_n HR.out ((y.length - 8 : Nat) : Int) (by simp)).mono ?_); rintro e w' ⟨rfl, rfl⟩))
              go_roundw
              case measure => simp [intOf]; omega
              case rel => exact ⟨k + 1, y.drop 8, _, _, by omega, by first | (rw [List.length_drop]; done) | (have hz := HY.out.le; rw [List.length_drop, show y.length - 8 = 0 by omega]; try simp), by go_num, HY.out.drop0 8 rfl, HR.out, by rw [List.length_drop]; omega, HF.out⟩
            · have hck' := hck
              go_wp2_with (first
          | (go_at_call 22; (with_reducible refine (RU64_ok HR.out hmy.out v hvw.out).mono ?_); rintro e w' ⟨rfl, h', f'⟩; have nR := hid h'; have nF := hid (below_frm1 HF.out f' HRB.out); clear HR HF h' f'; have HR := nR; have HF := nF; clear nR nF; have q3' := (HF.out.cell (p := ⟨ba, off0 + k * 4 + 3, none⟩) hba.out).trans hq3.out)
          | (go_at_call 23; (with_reducible refine (Get_calls (Blk.new _ [.slice (some ⟨g, off, none⟩) y.length _, .bool false] TRf) ((HY.out.below HF.out (Nat.le_refl _)).frm ((Frm.refl (fun _ => False) _).alloc _) (fun _ _ h => h)) 8 8 rfl (by decide) hmy.out v hvh.out).mono ?_); rintro e w' ⟨rfl, fg⟩; have f0 := fresh0 fg; have nR := hid (HR.out.quiet f0); have nF := hid (below_frm0 HF.out f0); clear HR HF fg f0; have HR := nR; have HF := nF; clear nR nF; have q3' := (HF.out.cell (p := ⟨ba, off0 + k * 4 + 3, none⟩) hba.out).trans hq3.out)
          | (go_at_call 18; (with_reducible refine (Left_n HR.out ((y.length - 8 : Nat) : Int) (by simp)).mono ?_); rintro e w' ⟨rfl, rfl⟩))
              go_roundw
              case measure => simp [intOf]; omega
              case rel => exact ⟨k + 1, y.drop 8, _, _, by omega, by first | (rw [List.length_drop]; done) | (have hz := HY.out.le; rw [List.length_drop, show y.length - 8 = 0 by omega]; try simp), by go_num, HY.out.drop 8, HR.out, by rw [List.length_drop]; omega, HF.out⟩
      have b3 : (q == 3) = false := beq_eq_false_iff_ne.2 g3
      have hq4 : 3 < q := by omega
      by_cases hm : y.length < 2
      · as_aux_lemma =>
          have hyl : (y.length : Int) < 2 := by omega
          go_wp2_with (first
          | (go_at_call 17; (with_reducible refine (RBytes_short HR.out mo (by omega)).mono ?_); rintro e w' ⟨rfl, rfl⟩)
          | (go_at_call 18; (with_reducible refine (Left_n HR.out (y.length : Int) (rfl)).mono ?_); rintro e w' ⟨rfl, rfl⟩))
          go_roundw
          case rel => exact ⟨k + 1, y, _, _, by omega, rfl, by go_num, HY.out, HR.out, hy4, HF.out⟩
          case measure => simp [intOf]; omega
      · as_aux_lemma =>
          obtain ⟨g, off, rfl, _, _⟩ := HY.out.at_ (by omega)
          have hyle := HY.out.le
          have hysm := HY.out.small
          have hmy := hid (show 2 ≤ y.length by omega)
          have hbd := vOf_take_bound y HY.out.wf 2 (by decide) hmy.out
          rw [show (256 : Int) ^ 2 = 65536 from rfl] at hbd
          obtain ⟨v, hv⟩ : ∃ v : Nat, vOf (y.take 2) = (v : Int) := ⟨(vOf (y.take 2)).toNat, by omega⟩
          rw [hv] at hbd
          have hv2 : v ≤ 65535 := by omega
          have hv0 : (0 : Int) ≤ (v : Int) := by omega
          have hv1 : (v : Int) ≤ 65535 := by omega
          have hvw := hid (show IntKind.u16.wrap (vOf (y.take 2)) = (v : Int) by rw [hv, wrap_u16]; omega)
          have hvh := hid hv
          clear hv hbd
          have hyl : (2 : Int) ≤ (y.length : Int) := by omega
          by_cases hmo : mo < 0
          · go_wp2_with (first
          | (go_at_call 17; (with_reducible refine (RBytes_long HR.out mo hmy.out v hvw.out (by omega) hv2).mono ?_); rintro e w' ⟨rfl, h', f'⟩; have nR := hid h'; have nF := hid (below_frm1 HF.out f' HRB.out); clear HR HF h' f'; have HR := nR; have HF := nF; clear nR nF; have q3' := (HF.out.cell (p := ⟨ba, off0 + k * 4 + 3, none⟩) hba.out).trans hq3.out)
          | (go_at_call 23; (with_reducible refine (Get_calls (Blk.new _ [.slice (some ⟨g, off, none⟩) y.length _, .bool false] TRf) ((HY.out.below HF.out (Nat.le_refl _)).frm ((Frm.refl (fun _ => False) _).alloc _) (fun _ _ h => h)) 2 2 rfl (by decide) hmy.out (v : Int) hvh.out).mono ?_); rintro e w' ⟨rfl, fg⟩; have f0 := fresh0 fg; have nR := hid (HR.out.quiet f0); have nF := hid (below_frm0 HF.out f0); clear HR HF fg f0; have HR := nR; have HF := nF; clear nR nF; have q3' := (HF.out.cell (p := ⟨ba, off0 + k * 4 + 3, none⟩) hba.out).trans hq3.out)
          | (go_at_call 18; (with_reducible refine (Left_n HR.out (y.length : Int) (rfl)).mono ?_); rintro e w' ⟨rfl, rfl⟩))
            go_roundw
            case rel => exact ⟨k + 1, y, _, _, by omega, rfl, by go_num, HY.out, HR.out, hy4, HF.out⟩
            case measure => simp [intOf]; omega

          have hmo0 : 0 ≤ mo := by omega
          have hmw : IntKind.u64.wrap mo = mo := wrapsu _ hmo0 (by omega)
          by_cases hmv : mo < (v : Int)
          · go_wp2_with (first
          | (go_at_call 17; (with_reducible refine (RBytes_long HR.out mo hmy.out v hvw.out (by omega) hv2).mono ?_); rintro e w' ⟨rfl, h', f'⟩; have nR := hid h'; have nF := hid (below_frm1 HF.out f' HRB.out); clear HR HF h' f'; have HR := nR; have HF := nF; clear nR nF; have q3' := (HF.out.cell (p := ⟨ba, off0 + k * 4 + 3, none⟩) hba.out).trans hq3.out)
          | (go_at_call 23; (with_reducible refine (Get_calls (Blk.new _ [.slice (some ⟨g, off, none⟩) y.length _, .bool false] TRf) ((HY.out.below HF.out (Nat.le_refl _)).frm ((Frm.refl (fun _ => False) _).alloc _) (fun _ _ h => h)) 2 2 rfl (by decide) hmy.out (v : Int) hvh.out).mono ?_); rintro e w' ⟨rfl, fg⟩; have f0 := fresh0 fg; have nR := hid (HR.out.quiet f0); have nF := hid (below_frm0 HF.out f0); clear HR HF fg f0; have HR := nR; have HF := nF; clear nR nF; have q3' := (HF.out.cell (p := ⟨ba, off0 + k * 4 + 3, none⟩) hba.out).trans hq3.out)
          | (go_at_call 18; (with_reducible refine (Left_n HR.out (y.length : Int) (rfl)).mono ?_); rintro e w' ⟨rfl, rfl⟩))
            go_roundw
            case rel => exact ⟨k + 1, y, _, _, by omega, rfl, by go_num, HY.out, HR.out, hy4, HF.out⟩
            case measure => simp [intOf]; omega

          have hly : IntKind.u64.wrap ((y.length : Int) - 2) = ((y.length : Int) - 2) := wrapsu _ (by omega) (by omega)
          by_cases hcv : y.length - 2 < v
          · have hcv' : (y.length : Int) - 2 < (v : Int) := by omega
            go_wp2_with (first
          | (go_at_call 17; (with_reducible refine (RBytes_cut HR.out mo hmy.out v hvw.out (by omega) (by omega) hv2).mono ?_); rintro e w' ⟨rfl, h', f'⟩; have nR := hid h'; have nF := hid (below_frm1 HF.out f' HRB.out); clear HR HF h' f'; have HR := nR; have HF := nF; clear nR nF; have q3' := (HF.out.cell (p := ⟨ba, off0 + k * 4 + 3, none⟩) hba.out).trans hq3.out)
          | (go_at_call 23; (with_reducible refine (Get_calls (Blk.new _ [.slice (some ⟨g, off, none⟩) y.length _, .bool false] TRf) ((HY.out.below HF.out (Nat.le_refl _)).frm ((Frm.refl (fun _ => False) _).alloc _) (fun _ _ h => h)) 2 2 rfl (by decide) hmy.out (v : Int) hvh.out).mono ?_); rintro e w' ⟨rfl, fg⟩; have f0 := fresh0 fg; have nR := hid (HR.out.quiet f0); have nF := hid (below_frm0 HF.out f0); clear HR HF fg f0; have HR := nR; have HF := nF; clear nR nF; have q3' := (HF.out.cell (p := ⟨ba, off0 + k * 4 + 3, none⟩) hba.out).trans hq3.out)
          | (go_at_call 18; (with_reducible refine (Left_n HR.out (y.length : Int) (rfl)).mono ?_); rintro e w' ⟨rfl, rfl⟩))
            go_roundw
            case rel => exact ⟨k + 1, y, _, _, by omega, rfl, by go_num, HY.out, HR.out, hy4, HF.out⟩
            case measure => simp [intOf]; omega

          have hcv' : (v : Int) ≤ (y.length : Int) - 2 := by omega
          have hlt := hid (show ((y.drop 2).take v).length = v by rw [List.length_take, List.length_drop]; omega)
          have hc1 : (2 : Int) + (v : Int) ≤ (c : Int) := by omega
          have hc2 : (2 : Int) ≤ 2 + (v : Int) := by omega
          have hc3 : (2 : Int) + (v : Int) ≤ (y.length : Int) := by omega
          have hw2 : IntKind.u64.wrap (2 + (v : Int)) = 2 + (v : Int) := wrapsu _ (by omega) (by omega)
          by_cases hck2 : c = 2
          · obtain rfl : v = 0 := by omega
            have HBD := hid (show IsInts .u8 w (some ⟨g, off, none⟩) 0 ((y.drop 2).take 0) from ⟨Nat.le_refl _, by decide, fun h => absurd (by simp) h, fun _ h => by simp at h⟩)
            have hvh0 := hid (show vOf (y.take 2) = 0 by have := hvh.out; simpa using this)
            subst hck2
            go_wp2_with (first
          | (go_at_call 17; (with_reducible refine (RBytes_ok HR.out mo hmy.out 0 hvw.out (by omega) (by omega) hv2).mono ?_); rintro e w' ⟨g', rfl, hg', hIo, h', f'⟩; have nR := hid h'; have nF := hid (below_frm1 HF.out f' HRB.out); clear HR HF h' f'; have HR := nR; have HF := nF; clear nR nF; have q3' := (HF.out.cell (p := ⟨ba, off0 + k * 4 + 3, none⟩) hba.out).trans hq3.out; have hio := hid hIo; clear hIo hg')
          | (go_at_call 23; (with_reducible refine (Get_calls (Blk.new _ [.slice (some ⟨g, off, none⟩) y.length _, .bool false] TRf) ((HY.out.below HF.out (Nat.le_refl _)).frm ((Frm.refl (fun _ => False) _).alloc _) (fun _ _ h => h)) 2 2 rfl (by decide) hmy.out 0 hvh0.out).mono ?_); rintro e w' ⟨rfl, fg⟩; have f0 := fresh0 fg; have nR := hid (HR.out.quiet f0); have nF := hid (below_frm0 HF.out f0); have hcv1 := conv_of (l := 0) (hio.out.frm f0 (fun _ _ h => h)) hlt.out; clear HR HF fg f0 hio; have HR := nR; have HF := nF; clear nR nF; have hcv2 := conv_of (l := 0) (HBD.out.below HF.out (Nat.le_refl _)) hlt.out; have q3' := (HF.out.cell (p := ⟨ba, off0 + k * 4 + 3, none⟩) hba.out).trans hq3.out)
          | (go_at_call 18; (with_reducible refine (Left_n HR.out ((y.length - (2 + 0) : Nat) : Int) (by simp)).mono ?_); rintro e w' ⟨rfl, rfl⟩))
            go_roundw
            case measure => simp [intOf]; omega
            case rel => exact ⟨k + 1, y.drop (2 + 0), _, _, by omega, by first | (rw [List.length_drop]; done) | (have hz := HY.out.le; rw [List.length_drop, show y.length - (2 + 0) = 0 by omega]; try simp), by go_num, HY.out.drop0 (2 + 0) rfl, HR.out, by rw [List.length_drop]; omega, HF.out⟩
          have HBD := hid ((HY.out.drop 2).take v)
          by_cases hck : c = 2 + v
          · subst hck
            have HBD2 := hid (show IsInts .u8 w (some ⟨g, off + 2, none⟩) v ((y.drop 2).take v) by have h := HBD.out; rwa [Nat.add_sub_cancel_left] at h)
            go_wp2_with (first
          | (go_at_call 17; (with_reducible refine (RBytes_ok HR.out mo hmy.out v hvw.out (by omega) (by omega) hv2).mono ?_); rintro e w' ⟨g', rfl, hg', hIo, h', f'⟩; have nR := hid h'; have nF := hid (below_frm1 HF.out f' HRB.out); clear HR HF h' f'; have HR := nR; have HF := nF; clear nR nF; have q3' := (HF.out.cell (p := ⟨ba, off0 + k * 4 + 3, none⟩) hba.out).trans hq3.out; have hio := hid hIo; clear hIo hg')
          | (go_at_call 23; (with_reducible refine (Get_calls (Blk.new _ [.slice (some ⟨g, off, none⟩) y.length _, .bool false] TRf) ((HY.out.below HF.out (Nat.le_refl _)).frm ((Frm.refl (fun _ => False) _).alloc _) (fun _ _ h => h)) 2 2 rfl (by decide) hmy.out (v : Int) hvh.out).mono ?_); rintro e w' ⟨rfl, fg⟩; have f0 := fresh0 fg; have nR := hid (HR.out.quiet f0); have nF := hid (below_frm0 HF.out f0); have hcv1 := conv_of (l := v) (hio.out.frm f0 (fun _ _ h => h)) hlt.out; clear HR HF fg f0 hio; have HR := nR; have HF := nF; clear nR nF; have hcv3 := conv_of (l := v) (HBD2.out.below HF.out (Nat.le_refl _)) hlt.out; have hcv2 := conv_of (l := v) (HBD.out.below HF.out (Nat.le_refl _)) hlt.out; have q3' := (HF.out.cell (p := ⟨ba, off0 + k * 4 + 3, none⟩) hba.out).trans hq3.out)
          | (go_at_call 18; (with_reducible refine (Left_n HR.out ((y.length - (2 + v) : Nat) : Int) (by simp)).mono ?_); rintro e w' ⟨rfl, rfl⟩))
            go_roundw
            case measure => simp [intOf]; omega
            case rel => exact ⟨k + 1, y.drop (2 + v), _, _, by omega, by first | (rw [List.length_drop]; done) | (have hz := HY.out.le; rw [List.length_drop, show y.length - (2 + v) = 0 by omega]; try simp), by go_num, HY.out.drop0 (2 + v) rfl, HR.out, by rw [List.length_drop]; omega, HF.out⟩
          · go_wp2_with (first
          | (go_at_call 17; (with_reducible refine (RBytes_ok HR.out mo hmy.out v hvw.out (by omega) (by omega) hv2).mono ?_); rintro e w' ⟨g', rfl, hg', hIo, h', f'⟩; have nR := hid h'; have nF := hid (below_frm1 HF.out f' HRB.out); clear HR HF h' f'; have HR := nR; have HF := nF; clear nR nF; have q3' := (HF.out.cell (p := ⟨ba, off0 + k * 4 + 3, none⟩) hba.out).trans hq3.out; have hio := hid hIo; clear hIo hg')
          | (go_at_call 23; (with_reducible refine (Get_calls (Blk.new _ [.slice (some ⟨g, off, none⟩) y.length _, .bool false] TRf) ((HY.out.below HF.out (Nat.le_refl _)).frm ((Frm.refl (fun _ => False) _).alloc _) (fun _ _ h => h)) 2 2 rfl (by decide) hmy.out (v : Int) hvh.out).mono ?_); rintro e w' ⟨rfl, fg⟩; have f0 := fresh0 fg; have nR := hid (HR.out.quiet f0); have nF := hid (below_frm0 HF.out f0); have hcv1 := conv_of (l := v) (hio.out.frm f0 (fun _ _ h => h)) hlt.out; clear HR HF fg f0 hio; have HR := nR; have HF := nF; clear nR nF; have hcv2 := conv_of (l := v) (HBD.out.below HF.out (Nat.le_refl _)) hlt.out; have q3' := (HF.out.cell (p := ⟨ba, off0 + k * 4 + 3, none⟩) hba.out).trans hq3.out)
          | (go_at_call 18; (with_reducible refine (Left_n HR.out ((y.length - (2 + v) : Nat) : Int) (by simp)).mono ?_); rintro e w' ⟨rfl, rfl⟩))
            go_roundw
            case measure => simp [intOf]; omega
            case rel => exact ⟨k + 1, y.drop (2 + v), _, _, by omega, by first | (rw [List.length_drop]; done) | (have hz := HY.out.le; rw [List.length_drop, show y.length - (2 + v) = 0 by omega]; try simp), by go_num, HY.out.drop (2 + v), HR.out, by rw [List.length_drop]; omega, HF.out⟩
    · go_wp2
      go_ret
      exact ⟨rfl, hF⟩
end Go.Proofs.Ytifhjdjjekeegaa
