/- WireBounds, walked: bytes above what is asked for are refused, at it taken. -/
import Derived.Test.YtifhjdjjekeegaaWireVal
namespace Go.Proofs.Ytifhjdjjekeegaa
open Go.RowKit Go.ChangeShapes
set_option linter.unusedVariables false
set_option linter.unusedSimpArgs false
theorem Left_n {w : World} {b : Nat} {x : List Int} (h : IsRd w b x) (n : Int) (hn : (x.length : Int) = n) : Calls Try.prog 18 #[.pointer (some ⟨b, 0, none⟩)] w fun e w' => e = .returned (.int .i64 n) ∧ w = w' := by
  subst hn; exact Left_calls h
set_option maxHeartbeats 4000000 in
theorem WireBounds_walk (a0 : Option Addr) (c0 : Nat) (z0 : List Int) (most : Int) (w : World) (h0 : IsInts .u8 w a0 c0 z0) (w1 : (Lit.int .u8 most).wf = true) :
    Calls Try.prog 4 #[.slice a0 z0.length c0, .int .u8 most] w fun e w' => e = .returned (.bool true) ∧ Below w.heap.size w w' := by
  have hm := bounds_u8 w1
  clear w1
  have hle := h0.le
  have hsm := h0.small
  by_cases hlen : z0.length > 300
  · go_enter Try.func4, Try.ntmps4
    go_wp2_with (go_at_call 8; (with_reducible refine (known_calls _).mono ?_); rintro e w' ⟨rfl, f1⟩; have HF := hid f1; clear f1)
    go_ret
    exact ⟨rfl, HF.out⟩
  have HI0 := hid h0; clear h0
  obtain ⟨x, hx⟩ : ∃ x, x = [] ++ be (z0.length : Int) 2 ++ z0 := ⟨_, rfl⟩
  have hxl : x.length = z0.length + 2 := by rw [hx]; simp [be_len]; omega
  have ht2 : x.take 2 = be (z0.length : Int) 2 := by rw [hx, List.nil_append, List.take_left' (be_len _ _)]
  have hd2 : x.drop 2 = z0 := by rw [hx, List.nil_append, List.drop_left' (be_len _ _)]
  have hv : IntKind.u16.wrap (vOf (x.take 2)) = ((z0.length : Nat) : Int) := by
    rw [ht2, vOf_be2 _ (by omega) (by omega)]; simp [IntKind.wrap, IntKind.bits, IntKind.signed]; omega
  have hdk : x.drop (2 + z0.length) = [] := List.drop_eq_nil_of_le (by omega)
  have HX := hid hx; clear hx
  have HT := hid ht2; clear ht2
  have HD := hid hd2; clear hd2
  have HV := hid hv; clear hv
  have HL := hid hxl; clear hxl
  have HK := hid hdk; clear hdk
  by_cases hc : (z0.length : Int) > most
  · go_enter Try.func4, Try.ntmps4
    go_wp2_with (first
          | (go_at_call 8; (with_reducible refine (known_calls _).mono ?_); rintro e w' ⟨rfl, f1⟩; have HF := hid f1; clear f1)
          | (go_at_call 9; (with_reducible refine (WNew_calls _ (fun k => k < w.heap.size) (hA_of HF.out)).mono ?_); rintro e w' ⟨rfl, h', f'⟩; have nF := hid (below_next HF.out f'); clear HF f'; have HF := nF; clear nF; have HW := hid h'; clear h')
          | (go_at_call 15; (with_reducible refine (WBytes_calls HW.out (hA_of HF.out) (HI0.out.below HF.out (Nat.le_refl _)) (fun w' f => HI0.out.below (below_A HF.out f) (Nat.le_refl _)) (by omega) (by simp [be_len])).mono ?_); rintro e w' ⟨rfl, h', f'⟩; have nF := hid (below_A HF.out f'); clear HF HW f'; have HF := nF; have HW := hid h'; clear h' nF)
          | (go_at_call 11; (with_reducible refine (WAll_calls HW.out (by first | (simp [be_len]; done) | (simp [be_len]; omega)) (z0.length + 2) (by rw [← HX.out]; exact HL.out)).mono ?_); rintro e w' ⟨rfl, hI, f'⟩; have nF := hid (below_next HF.out f'); have nW := hid (HW.out.quiet (frm0_of f')); clear HF HW f'; have HF := nF; have HW := nW; clear nF nW; have HI := hid hI; clear hI)
          | (go_at_call 16; (with_reducible refine (Open_calls (x := x) (m := (z0.length + 2)) (HX.out ▸ HI.out) HL.out (by have := HL.out; omega)).mono ?_); rintro e w' ⟨b', hb', rfl, hR, f'⟩; have nF := hid (below_next HF.out f'); have HB := hid (Nat.le_trans HF.out.size hb'); clear HF f' hb'; have HF := nF; clear nF; have HR := hid hR; clear hR)
          | (go_at_call 17; (with_reducible refine (RBytes_long HR.out most (by have := HL.out; omega) z0.length HV.out (by omega) (by omega)).mono ?_); rintro e w' ⟨rfl, h', f'⟩; have nF := hid (below_frm1 HF.out f' HB.out); clear HF HR f'; have HF := nF; have HR := hid h'; clear h' nF)
          | (go_at_call 18; (with_reducible refine (Left_n HR.out ((z0.length : Int) + 2) (by have := HL.out; omega)).mono ?_); rintro e w' ⟨rfl, rfl⟩))
    go_ret
    exact ⟨rfl, HF.out⟩
  · go_enter Try.func4, Try.ntmps4
    go_wp2_with (first
          | (go_at_call 8; (with_reducible refine (known_calls _).mono ?_); rintro e w' ⟨rfl, f1⟩; have HF := hid f1; clear f1)
          | (go_at_call 9; (with_reducible refine (WNew_calls _ (fun k => k < w.heap.size) (hA_of HF.out)).mono ?_); rintro e w' ⟨rfl, h', f'⟩; have nF := hid (below_next HF.out f'); clear HF f'; have HF := nF; clear nF; have HW := hid h'; clear h')
          | (go_at_call 15; (with_reducible refine (WBytes_calls HW.out (hA_of HF.out) (HI0.out.below HF.out (Nat.le_refl _)) (fun w' f => HI0.out.below (below_A HF.out f) (Nat.le_refl _)) (by omega) (by simp [be_len])).mono ?_); rintro e w' ⟨rfl, h', f'⟩; have nF := hid (below_A HF.out f'); clear HF HW f'; have HF := nF; have HW := hid h'; clear h' nF)
          | (go_at_call 11; (with_reducible refine (WAll_calls HW.out (by first | (simp [be_len]; done) | (simp [be_len]; omega)) (z0.length + 2) (by rw [← HX.out]; exact HL.out)).mono ?_); rintro e w' ⟨rfl, hI, f'⟩; have nF := hid (below_next HF.out f'); have nW := hid (HW.out.quiet (frm0_of f')); clear HF HW f'; have HF := nF; have HW := nW; clear nF nW; have HI := hid hI; clear hI)
          | (go_at_call 16; (with_reducible refine (Open_calls (x := x) (m := (z0.length + 2)) (HX.out ▸ HI.out) HL.out (by have := HL.out; omega)).mono ?_); rintro e w' ⟨b', hb', rfl, hR, f'⟩; have nF := hid (below_next HF.out f'); have HB := hid (Nat.le_trans HF.out.size hb'); clear HF f' hb'; have HF := nF; clear nF; have HR := hid hR; clear hR)
          | (go_at_call 17; (with_reducible refine (RBytes_ok HR.out most (by have := HL.out; omega) z0.length HV.out (by omega) (by have := HL.out; omega) (by omega)).mono ?_); rintro e w' ⟨g', rfl, hg', hIo, h', f'⟩; have nF := hid (below_frm1 HF.out f' HB.out); clear HF HR f'; have HF := nF; have HR := hid h'; clear h' nF hg'; have hcv1 := conv_of (HI0.out.below HF.out (Nat.le_refl _)) rfl; have hcv2 := conv_of (l := z0.length) hIo (by rw [HD.out, List.take_length]); (rw [HD.out, List.take_length] at hcv2); clear hIo)
          | (go_at_call 18; (with_reducible refine (Left_n HR.out 0 (by simp [HK.out])).mono ?_); rintro e w' ⟨rfl, rfl⟩))
    go_ret
    exact ⟨rfl, HF.out⟩
end Go.Proofs.Ytifhjdjjekeegaa
