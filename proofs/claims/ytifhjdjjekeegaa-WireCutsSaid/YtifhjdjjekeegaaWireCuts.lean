/- WireCuts, walked: what is cut off anywhere is too short, and the reader stays where it was. -/
import Derived.Test.YtifhjdjjekeegaaWireVal
namespace Go.Proofs.Ytifhjdjjekeegaa
open Go.RowKit Go.ChangeShapes
set_option linter.unusedVariables false
set_option linter.unusedSimpArgs false
theorem Left_c {w : World} {b : Nat} {x : List Int} (h : IsRd w b x) (n : Int) (hn : (x.length : Int) = n) : Calls Try.prog 18 #[.pointer (some ⟨b, 0, none⟩)] w fun e w' => e = .returned (.int .i64 n) ∧ w = w' := by
  subst hn; exact Left_calls h
set_option maxHeartbeats 4000000 in
theorem WireCuts_walk (c : Int) (a1 : Option Addr) (c1 : Nat) (z0 : List Int) (cut : Int) (w : World) (w0 : (Lit.int .u32 c).wf = true) (h0 : IsInts .u8 w a1 c1 z0) (w2 : (Lit.int .u16 cut).wf = true) :
    Calls Try.prog 6 #[.int .u32 c, .slice a1 z0.length c1, .int .u16 cut] w fun e w' => e = .returned (.bool true) ∧ Below w.heap.size w w' := by
  have hcb := bounds_u32 w0
  have hcut := bounds_u16 w2
  clear w0 w2
  have hle := h0.le
  have hsm := h0.small
  by_cases hlen : z0.length > 300
  · go_enter Try.func6, Try.ntmps6
    go_wp2_with (go_at_call 8; (with_reducible refine (known_calls _).mono ?_); rintro e w' ⟨rfl, f1⟩; have HF := hid f1; clear f1)
    go_ret
    exact ⟨rfl, HF.out⟩
  have HI0 := hid h0; clear h0
  have hc2 : 0 ≤ c ∧ c < 4294967296 := by omega
  obtain ⟨x, hx⟩ : ∃ x, x = [] ++ be c 4 ++ be (z0.length : Int) 2 ++ z0 := ⟨_, rfl⟩
  have hxl : x.length = z0.length + 6 := by rw [hx]; simp [be_len]; omega
  have hx2 : x = be c 4 ++ (be (z0.length : Int) 2 ++ z0) := by rw [hx, List.nil_append, List.append_assoc]
  have ht4 : x.take 4 = be c 4 := by rw [hx2, List.take_left' (be_len _ _)]
  have hd4 : x.drop 4 = be (z0.length : Int) 2 ++ z0 := by rw [hx2, List.drop_left' (be_len _ _)]
  have hd42 : (x.drop 4).take 2 = be (z0.length : Int) 2 := by rw [hd4, List.take_left' (be_len _ _)]
  obtain ⟨k, hk, htm⟩ : ∃ k : Nat, k < z0.length + 6 ∧ Int.tmod cut ((z0.length : Int) + 6) = (k : Int) := by
    have e1 : Int.tmod cut ((z0.length : Int) + 6) = cut % ((z0.length : Int) + 6) := Int.tmod_eq_emod_of_nonneg hcut.1
    have e2 := Int.emod_nonneg cut (b := (z0.length : Int) + 6) (by omega)
    have e3 := Int.emod_lt_of_pos cut (b := (z0.length : Int) + 6) (by omega)
    exact ⟨(cut % ((z0.length : Int) + 6)).toNat, by omega, by omega⟩
  have hkl : (x.take k).length = k := by rw [List.length_take]; omega
  have k0 : (0 : Int) ≤ (k : Int) := by omega
  have k1 : (k : Int) ≤ (z0.length : Int) + 6 := by omega
  have HX := hid hx; clear hx hx2 hd4
  have HL := hid hxl; clear hxl
  have HK := hid hkl; clear hkl
  by_cases hk4 : k < 4
  · go_enter Try.func6, Try.ntmps6
    go_wp2_with (first
          | (go_at_call 8; (with_reducible refine (known_calls _).mono ?_); rintro e w' ⟨rfl, f1⟩; have HF := hid f1; clear f1)
          | (go_at_call 9; (with_reducible refine (WNew_calls _ (fun k => k < w.heap.size) (hA_of HF.out)).mono ?_); rintro e w' ⟨rfl, h', f'⟩; have nF := hid (below_next HF.out f'); clear HF f'; have HF := nF; clear nF; have HW := hid h'; clear h')
          | (go_at_call 13; (with_reducible refine (WU32_calls HW.out (hA_of HF.out) _ hc2.1 hc2.2 (by simp [be_len])).mono ?_); rintro e w' ⟨rfl, h', f'⟩; have nF := hid (below_A HF.out f'); clear HF HW f'; have HF := nF; have HW := hid h'; clear h' nF)
          | (go_at_call 15; (with_reducible refine (WBytes_calls HW.out (hA_of HF.out) (HI0.out.below HF.out (Nat.le_refl _)) (fun w' f => HI0.out.below (below_A HF.out f) (Nat.le_refl _)) (by omega) (by simp [be_len])).mono ?_); rintro e w' ⟨rfl, h', f'⟩; have nF := hid (below_A HF.out f'); clear HF HW f'; have HF := nF; have HW := hid h'; clear h' nF)
          | (go_at_call 11; (with_reducible refine (WAll_calls HW.out (by first | (simp [be_len]; done) | (simp [be_len]; omega)) (z0.length + 6) (by rw [← HX.out]; exact HL.out)).mono ?_); rintro e w' ⟨rfl, hI, f'⟩; have nF := hid (below_next HF.out f'); have nW := hid (HW.out.quiet (frm0_of f')); clear HF HW f'; have HF := nF; have HW := nW; clear nF nW; have HI := hid hI; clear hI)
          | (go_at_call 16; (with_reducible refine (Open_calls (x := (x.take k)) (m := k) ((HX.out ▸ HI.out : IsInts .u8 _ _ _ x).take k) HK.out (by have := HK.out; omega)).mono ?_); rintro e w' ⟨b', hb', rfl, hR, f'⟩; have nF := hid (below_next HF.out f'); have HB := hid (Nat.le_trans HF.out.size hb'); clear HF f' hb'; have HF := nF; clear nF; have HR := hid hR; clear hR)
          | (go_at_call 21; (with_reducible refine (RU32_short HR.out (by have := HK.out; omega)).mono ?_); rintro e w' ⟨rfl, rfl⟩)
          | (go_at_call 18; (with_reducible refine (Left_c HR.out (k : Int) (by rw [HK.out])).mono ?_); rintro e w' ⟨rfl, rfl⟩))
    go_ret
    exact ⟨rfl, HF.out⟩
  have hv4 : IntKind.u32.wrap (vOf ((x.take k).take 4)) = c := by
    rw [List.take_take, Nat.min_eq_left (by omega), ht4, vOf_be4 _ hc2.1 hc2.2]; simp [IntKind.wrap, IntKind.bits, IntKind.signed]; omega
  have hl4 : ((x.take k).drop 4).length = k - 4 := by rw [List.length_drop, HK.out]
  have HV4 := hid hv4; clear hv4
  have HL4 := hid hl4; clear hl4
  by_cases hk6 : k < 6
  · go_enter Try.func6, Try.ntmps6
    go_wp2_with (first
          | (go_at_call 8; (with_reducible refine (known_calls _).mono ?_); rintro e w' ⟨rfl, f1⟩; have HF := hid f1; clear f1)
          | (go_at_call 9; (with_reducible refine (WNew_calls _ (fun k => k < w.heap.size) (hA_of HF.out)).mono ?_); rintro e w' ⟨rfl, h', f'⟩; have nF := hid (below_next HF.out f'); clear HF f'; have HF := nF; clear nF; have HW := hid h'; clear h')
          | (go_at_call 13; (with_reducible refine (WU32_calls HW.out (hA_of HF.out) _ hc2.1 hc2.2 (by simp [be_len])).mono ?_); rintro e w' ⟨rfl, h', f'⟩; have nF := hid (below_A HF.out f'); clear HF HW f'; have HF := nF; have HW := hid h'; clear h' nF)
          | (go_at_call 15; (with_reducible refine (WBytes_calls HW.out (hA_of HF.out) (HI0.out.below HF.out (Nat.le_refl _)) (fun w' f => HI0.out.below (below_A HF.out f) (Nat.le_refl _)) (by omega) (by simp [be_len])).mono ?_); rintro e w' ⟨rfl, h', f'⟩; have nF := hid (below_A HF.out f'); clear HF HW f'; have HF := nF; have HW := hid h'; clear h' nF)
          | (go_at_call 11; (with_reducible refine (WAll_calls HW.out (by first | (simp [be_len]; done) | (simp [be_len]; omega)) (z0.length + 6) (by rw [← HX.out]; exact HL.out)).mono ?_); rintro e w' ⟨rfl, hI, f'⟩; have nF := hid (below_next HF.out f'); have nW := hid (HW.out.quiet (frm0_of f')); clear HF HW f'; have HF := nF; have HW := nW; clear nF nW; have HI := hid hI; clear hI)
          | (go_at_call 16; (with_reducible refine (Open_calls (x := (x.take k)) (m := k) ((HX.out ▸ HI.out : IsInts .u8 _ _ _ x).take k) HK.out (by have := HK.out; omega)).mono ?_); rintro e w' ⟨b', hb', rfl, hR, f'⟩; have nF := hid (below_next HF.out f'); have HB := hid (Nat.le_trans HF.out.size hb'); clear HF f' hb'; have HF := nF; clear nF; have HR := hid hR; clear hR)
          | (go_at_call 21; (with_reducible refine (RU32_ok HR.out (by have := HK.out; omega) c HV4.out).mono ?_); rintro e w' ⟨rfl, h', f'⟩; have nF := hid (below_frm1 HF.out f' HB.out); clear HF HR f'; have HF := nF; have HR := hid h'; clear h' nF)
          | (go_at_call 17; (with_reducible refine (RBytes_short HR.out 300 (by have := HL4.out; omega)).mono ?_); rintro e w' ⟨rfl, rfl⟩)
          | (go_at_call 18; (with_reducible refine (Left_c HR.out ((k : Int) - 4) (by rw [HL4.out]; omega)).mono ?_); rintro e w' ⟨rfl, rfl⟩))
    go_ret
    exact ⟨rfl, HF.out⟩
  have hv2 : IntKind.u16.wrap (vOf (((x.take k).drop 4).take 2)) = ((z0.length : Nat) : Int) := by
    rw [List.drop_take, List.take_take, Nat.min_eq_left (by omega), hd42, vOf_be2 _ (by omega) (by omega)]; simp [IntKind.wrap, IntKind.bits, IntKind.signed]; omega
  have HV2 := hid hv2; clear hv2
  clear ht4 hd42
  go_enter Try.func6, Try.ntmps6
  go_wp2_with (first
          | (go_at_call 8; (with_reducible refine (known_calls _).mono ?_); rintro e w' ⟨rfl, f1⟩; have HF := hid f1; clear f1)
          | (go_at_call 9; (with_reducible refine (WNew_calls _ (fun k => k < w.heap.size) (hA_of HF.out)).mono ?_); rintro e w' ⟨rfl, h', f'⟩; have nF := hid (below_next HF.out f'); clear HF f'; have HF := nF; clear nF; have HW := hid h'; clear h')
          | (go_at_call 13; (with_reducible refine (WU32_calls HW.out (hA_of HF.out) _ hc2.1 hc2.2 (by simp [be_len])).mono ?_); rintro e w' ⟨rfl, h', f'⟩; have nF := hid (below_A HF.out f'); clear HF HW f'; have HF := nF; have HW := hid h'; clear h' nF)
          | (go_at_call 15; (with_reducible refine (WBytes_calls HW.out (hA_of HF.out) (HI0.out.below HF.out (Nat.le_refl _)) (fun w' f => HI0.out.below (below_A HF.out f) (Nat.le_refl _)) (by omega) (by simp [be_len])).mono ?_); rintro e w' ⟨rfl, h', f'⟩; have nF := hid (below_A HF.out f'); clear HF HW f'; have HF := nF; have HW := hid h'; clear h' nF)
          | (go_at_call 11; (with_reducible refine (WAll_calls HW.out (by first | (simp [be_len]; done) | (simp [be_len]; omega)) (z0.length + 6) (by rw [← HX.out]; exact HL.out)).mono ?_); rintro e w' ⟨rfl, hI, f'⟩; have nF := hid (below_next HF.out f'); have nW := hid (HW.out.quiet (frm0_of f')); clear HF HW f'; have HF := nF; have HW := nW; clear nF nW; have HI := hid hI; clear hI)
          | (go_at_call 16; (with_reducible refine (Open_calls (x := (x.take k)) (m := k) ((HX.out ▸ HI.out : IsInts .u8 _ _ _ x).take k) HK.out (by have := HK.out; omega)).mono ?_); rintro e w' ⟨b', hb', rfl, hR, f'⟩; have nF := hid (below_next HF.out f'); have HB := hid (Nat.le_trans HF.out.size hb'); clear HF f' hb'; have HF := nF; clear nF; have HR := hid hR; clear hR)
          | (go_at_call 21; (with_reducible refine (RU32_ok HR.out (by have := HK.out; omega) c HV4.out).mono ?_); rintro e w' ⟨rfl, h', f'⟩; have nF := hid (below_frm1 HF.out f' HB.out); clear HF HR f'; have HF := nF; have HR := hid h'; clear h' nF)
          | (go_at_call 17; (with_reducible refine (RBytes_cut HR.out 300 (by have := HL4.out; omega) z0.length HV2.out (by omega) (by have := HL4.out; omega) (by omega)).mono ?_); rintro e w' ⟨rfl, h', f'⟩; have nF := hid (below_frm1 HF.out f' HB.out); clear HF HR f'; have HF := nF; have HR := hid h'; clear h' nF)
          | (go_at_call 18; (with_reducible refine (Left_c HR.out ((k : Int) - 4) (by rw [HL4.out]; omega)).mono ?_); rintro e w' ⟨rfl, rfl⟩))
  go_ret
  exact ⟨rfl, HF.out⟩
end Go.Proofs.Ytifhjdjjekeegaa
