/- ImageAreas, walked: whatever lies in both areas: the image is that of the greatest turn, of the first area of two alike. -/
import Derived.Test.YtnlmabdbpjbhoaaImgKnown
import Derived.Test.YtnlmabdbpjbhoaaImgRp
namespace Go.Proofs.Ytnlmabdbpjbhoaa
open Go.RowKit Go.ChangeShapes
set_option linter.unusedVariables false
set_option linter.unusedSimpArgs false
set_option maxHeartbeats 4000000 in
theorem ImageAreas_walk (a0 : Option Addr) (c0 : Nat) (z0 : List Int) (a1 : Option Addr) (c1 : Nat) (z1 : List Int) (w : World) (h0 : IsInts .u8 w a0 c0 z0) (h1 : IsInts .u8 w a1 c1 z1) :
    Calls Try.prog 4 #[.slice a0 z0.length c0, .slice a1 z1.length c1] w fun e w' => e = .returned (.bool true) ∧ Below w.heap.size w w' := by
  have hle1 := h0.le
  have hle2 := h1.le
  have hsm1 := h0.small
  have hsm2 := h1.small
  have H0 := hid h0; have H1 := hid h1; clear h0 h1
  by_cases hl1 : z0.length > 400
  · go_enter Try.func4, Try.ntmps4
    go_wp2_with (go_at_call 8; (with_reducible refine (known_calls _).mono ?_); rintro e w' ⟨rfl, f1⟩)
    go_ret
    exact ⟨rfl, f1⟩
  by_cases hl2 : z1.length > 400
  · go_enter Try.func4, Try.ntmps4
    go_wp2_with (go_at_call 8; (with_reducible refine (known_calls _).mono ?_); rintro e w' ⟨rfl, f1⟩)
    go_ret
    exact ⟨rfl, f1⟩
  have hm0 := hid (show z0.length ≤ 40040 by omega)
  have hm1 := hid (show z1.length ≤ 40040 by omega)
  have hi0 := hid (show (z0.length : Int) ≤ 40040 by omega)
  have hi1 := hid (show (z1.length : Int) ≤ 40040 by omega)
  rcases hpp : parse z0 with _ | ⟨t, bs⟩ <;> rcases hqq : parse z1 with _ | ⟨u, cs⟩
  · have hp := hid hpp; have hq := hid hqq; have hi := hid (img_of_nn hpp hqq); clear hpp hqq
    go_enter Try.func4, Try.ntmps4
    go_wp2_with (first
      | (go_at_call 8; (with_reducible refine (known_calls _).mono ?_); rintro e w' ⟨rfl, f1⟩; have HF := hid f1; clear f1)
      | (go_at_call 13; (with_reducible refine (DNew_calls _).mono ?_); rintro e w' ⟨rfl, h', f'⟩; have HB := hid HF.out.size; have HD := hid h'; have n0_ := hid (below_next HF.out f'); clear HF; have HF := n0_; clear n0_; clear f' h')
      | (go_at_call 14; (with_reducible refine (Write_ok0 HD.out (H0.out.below HF.out (Nat.le_refl _)) hi0.out).mono ?_); rintro e w' ⟨rfl, h', f'⟩; have n0_ := hid (below_frm1 HF.out f' HB.out); have n1_ := hid (h'); clear HF HD; have HF := n0_; clear n0_; have HD := n1_; clear n1_; clear f' h')
      | (go_at_call 14; (with_reducible refine (Write_ok1 HD.out (H1.out.below HF.out (Nat.le_refl _)) hi1.out).mono ?_); rintro e w' ⟨rfl, h', f'⟩; have n0_ := hid (below_frm1 HF.out f' HB.out); have n1_ := hid (h'); clear HF HD; have HF := n0_; clear n0_; have HD := n1_; clear n1_; clear f' h')
      | (go_at_call 10; (with_reducible refine (RParse_none (H0.out.below HF.out (Nat.le_refl _)) hm0.out hp.out).mono ?_); rintro e w' ⟨rfl, f'⟩; have n0_ := hid (below_frm0 HF.out f'); have n1_ := hid (HD.out.frm f'); clear HF HD; have HF := n0_; clear n0_; have HD := n1_; clear n1_; clear f')
      | (go_at_call 10; (with_reducible refine (RParse_none (H1.out.below HF.out (Nat.le_refl _)) hm1.out hq.out).mono ?_); rintro e w' ⟨rfl, f'⟩; have n0_ := hid (below_frm0 HF.out f'); have n1_ := hid (HD.out.frm f'); clear HF HD; have HF := n0_; clear n0_; have HD := n1_; clear n1_; clear f')
      | (go_at_call 15; (with_reducible refine (Load_none HD.out hi.out).mono ?_); rintro e w' ⟨rfl, f'⟩; have n0_ := hid (below_frm0 HF.out f'); have n1_ := hid (HD.out.frm f'); clear HF HD; have HF := n0_; clear n0_; have HD := n1_; clear n1_; clear f')
      | (go_at_call 16; (with_reducible refine (Turn_none HD.out hi.out).mono ?_); rintro e w' ⟨rfl, f'⟩; have n0_ := hid (below_frm0 HF.out f'); clear HF; have HF := n0_; clear n0_; clear f'))
    go_ret
    exact ⟨rfl, HF.out⟩
  · have hp := hid hpp; have hq := hid hqq; have hi := hid (img_of_ns hpp hqq); clear hpp hqq
    go_enter Try.func4, Try.ntmps4
    go_wp2_with (first
      | (go_at_call 8; (with_reducible refine (known_calls _).mono ?_); rintro e w' ⟨rfl, f1⟩; have HF := hid f1; clear f1)
      | (go_at_call 13; (with_reducible refine (DNew_calls _).mono ?_); rintro e w' ⟨rfl, h', f'⟩; have HB := hid HF.out.size; have HD := hid h'; have n0_ := hid (below_next HF.out f'); clear HF; have HF := n0_; clear n0_; clear f' h')
      | (go_at_call 14; (with_reducible refine (Write_ok0 HD.out (H0.out.below HF.out (Nat.le_refl _)) hi0.out).mono ?_); rintro e w' ⟨rfl, h', f'⟩; have n0_ := hid (below_frm1 HF.out f' HB.out); have n1_ := hid (h'); clear HF HD; have HF := n0_; clear n0_; have HD := n1_; clear n1_; clear f' h')
      | (go_at_call 14; (with_reducible refine (Write_ok1 HD.out (H1.out.below HF.out (Nat.le_refl _)) hi1.out).mono ?_); rintro e w' ⟨rfl, h', f'⟩; have n0_ := hid (below_frm1 HF.out f' HB.out); have n1_ := hid (h'); clear HF HD; have HF := n0_; clear n0_; have HD := n1_; clear n1_; clear f' h')
      | (go_at_call 10; (with_reducible refine (RParse_none (H0.out.below HF.out (Nat.le_refl _)) hm0.out hp.out).mono ?_); rintro e w' ⟨rfl, f'⟩; have n0_ := hid (below_frm0 HF.out f'); have n1_ := hid (HD.out.frm f'); clear HF HD; have HF := n0_; clear n0_; have HD := n1_; clear n1_; clear f')
      | (go_at_call 10; (with_reducible refine (RParse_some (H1.out.below HF.out (Nat.le_refl _)) hm1.out u cs hq.out).mono ?_); rintro e w' ⟨A2, k2, rfl, hY, f'⟩; have HY := hid hY; have n0_ := hid (below_frm0 HF.out f'); have n1_ := hid (HD.out.frm f'); clear HF HD; have HF := n0_; clear n0_; have HD := n1_; clear n1_; clear f' hY)
      | (go_at_call 15; (with_reducible refine (Load_some HD.out _ _ _ hi.out).mono ?_); rintro e w' ⟨g, rfl, hg, hB, f'⟩; have n0_ := hid (below_frm0 HF.out f'); have n1_ := hid (HD.out.frm f'); have n2_ := hid (HY.out.frm f' (fun _ _ h => h)); clear HF HD HY; have HF := n0_; clear n0_; have HD := n1_; clear n1_; have HY := n2_; clear n2_; have hcv1 := conv_of hB rfl; have hcv2 := conv_of HY.out rfl; clear f' hg hB)
      | (go_at_call 16; (with_reducible refine (Turn_some HD.out _ _ _ hi.out).mono ?_); rintro e w' ⟨rfl, f'⟩; have n0_ := hid (below_frm0 HF.out f'); clear HF; have HF := n0_; clear n0_; clear f'))
    go_ret
    exact ⟨rfl, HF.out⟩
  · have hp := hid hpp; have hq := hid hqq; have hi := hid (img_of_sn hpp hqq); clear hpp hqq
    go_enter Try.func4, Try.ntmps4
    go_wp2_with (first
      | (go_at_call 8; (with_reducible refine (known_calls _).mono ?_); rintro e w' ⟨rfl, f1⟩; have HF := hid f1; clear f1)
      | (go_at_call 13; (with_reducible refine (DNew_calls _).mono ?_); rintro e w' ⟨rfl, h', f'⟩; have HB := hid HF.out.size; have HD := hid h'; have n0_ := hid (below_next HF.out f'); clear HF; have HF := n0_; clear n0_; clear f' h')
      | (go_at_call 14; (with_reducible refine (Write_ok0 HD.out (H0.out.below HF.out (Nat.le_refl _)) hi0.out).mono ?_); rintro e w' ⟨rfl, h', f'⟩; have n0_ := hid (below_frm1 HF.out f' HB.out); have n1_ := hid (h'); clear HF HD; have HF := n0_; clear n0_; have HD := n1_; clear n1_; clear f' h')
      | (go_at_call 14; (with_reducible refine (Write_ok1 HD.out (H1.out.below HF.out (Nat.le_refl _)) hi1.out).mono ?_); rintro e w' ⟨rfl, h', f'⟩; have n0_ := hid (below_frm1 HF.out f' HB.out); have n1_ := hid (h'); clear HF HD; have HF := n0_; clear n0_; have HD := n1_; clear n1_; clear f' h')
      | (go_at_call 10; (with_reducible refine (RParse_some (H0.out.below HF.out (Nat.le_refl _)) hm0.out t bs hp.out).mono ?_); rintro e w' ⟨A, k, rfl, hX, f'⟩; have HX := hid hX; have n0_ := hid (below_frm0 HF.out f'); have n1_ := hid (HD.out.frm f'); clear HF HD; have HF := n0_; clear n0_; have HD := n1_; clear n1_; clear f' hX)
      | (go_at_call 10; (with_reducible refine (RParse_none (H1.out.below HF.out (Nat.le_refl _)) hm1.out hq.out).mono ?_); rintro e w' ⟨rfl, f'⟩; have n0_ := hid (below_frm0 HF.out f'); have n1_ := hid (HD.out.frm f'); have n2_ := hid (HX.out.frm f' (fun _ _ h => h)); clear HF HD HX; have HF := n0_; clear n0_; have HD := n1_; clear n1_; have HX := n2_; clear n2_; clear f')
      | (go_at_call 15; (with_reducible refine (Load_some HD.out _ _ _ hi.out).mono ?_); rintro e w' ⟨g, rfl, hg, hB, f'⟩; have n0_ := hid (below_frm0 HF.out f'); have n1_ := hid (HD.out.frm f'); have n2_ := hid (HX.out.frm f' (fun _ _ h => h)); clear HF HD HX; have HF := n0_; clear n0_; have HD := n1_; clear n1_; have HX := n2_; clear n2_; have hcv1 := conv_of hB rfl; have hcv2 := conv_of HX.out rfl; clear f' hg hB)
      | (go_at_call 16; (with_reducible refine (Turn_some HD.out _ _ _ hi.out).mono ?_); rintro e w' ⟨rfl, f'⟩; have n0_ := hid (below_frm0 HF.out f'); clear HF; have HF := n0_; clear n0_; clear f'))
    go_ret
    exact ⟨rfl, HF.out⟩
  · by_cases hut : t < u
    · have hp := hid hpp; have hq := hid hqq; have hi := hid (img_of_ss1 hpp hqq hut); clear hpp hqq
      go_enter Try.func4, Try.ntmps4
      go_wp2_with (first
        | (go_at_call 8; (with_reducible refine (known_calls _).mono ?_); rintro e w' ⟨rfl, f1⟩; have HF := hid f1; clear f1)
        | (go_at_call 13; (with_reducible refine (DNew_calls _).mono ?_); rintro e w' ⟨rfl, h', f'⟩; have HB := hid HF.out.size; have HD := hid h'; have n0_ := hid (below_next HF.out f'); clear HF; have HF := n0_; clear n0_; clear f' h')
        | (go_at_call 14; (with_reducible refine (Write_ok0 HD.out (H0.out.below HF.out (Nat.le_refl _)) hi0.out).mono ?_); rintro e w' ⟨rfl, h', f'⟩; have n0_ := hid (below_frm1 HF.out f' HB.out); have n1_ := hid (h'); clear HF HD; have HF := n0_; clear n0_; have HD := n1_; clear n1_; clear f' h')
        | (go_at_call 14; (with_reducible refine (Write_ok1 HD.out (H1.out.below HF.out (Nat.le_refl _)) hi1.out).mono ?_); rintro e w' ⟨rfl, h', f'⟩; have n0_ := hid (below_frm1 HF.out f' HB.out); have n1_ := hid (h'); clear HF HD; have HF := n0_; clear n0_; have HD := n1_; clear n1_; clear f' h')
        | (go_at_call 10; (with_reducible refine (RParse_some (H0.out.below HF.out (Nat.le_refl _)) hm0.out t bs hp.out).mono ?_); rintro e w' ⟨A, k, rfl, hX, f'⟩; have HX := hid hX; have n0_ := hid (below_frm0 HF.out f'); have n1_ := hid (HD.out.frm f'); clear HF HD; have HF := n0_; clear n0_; have HD := n1_; clear n1_; clear f' hX)
        | (go_at_call 10; (with_reducible refine (RParse_some (H1.out.below HF.out (Nat.le_refl _)) hm1.out u cs hq.out).mono ?_); rintro e w' ⟨A2, k2, rfl, hY, f'⟩; have HY := hid hY; have n0_ := hid (below_frm0 HF.out f'); have n1_ := hid (HD.out.frm f'); have n2_ := hid (HX.out.frm f' (fun _ _ h => h)); clear HF HD HX; have HF := n0_; clear n0_; have HD := n1_; clear n1_; have HX := n2_; clear n2_; clear f' hY)
        | (go_at_call 15; (with_reducible refine (Load_some HD.out _ _ _ hi.out).mono ?_); rintro e w' ⟨g, rfl, hg, hB, f'⟩; have n0_ := hid (below_frm0 HF.out f'); have n1_ := hid (HD.out.frm f'); have n2_ := hid (HX.out.frm f' (fun _ _ h => h)); have n3_ := hid (HY.out.frm f' (fun _ _ h => h)); clear HF HD HX HY; have HF := n0_; clear n0_; have HD := n1_; clear n1_; have HX := n2_; clear n2_; have HY := n3_; clear n3_; have hcv1 := conv_of hB rfl; have hcv2 := conv_of HY.out rfl; clear f' hg hB)
        | (go_at_call 16; (with_reducible refine (Turn_some HD.out _ _ _ hi.out).mono ?_); rintro e w' ⟨rfl, f'⟩; have n0_ := hid (below_frm0 HF.out f'); clear HF; have HF := n0_; clear n0_; clear f'))
      go_ret
      exact ⟨rfl, HF.out⟩
    · have hp := hid hpp; have hq := hid hqq; have hi := hid (img_of_ss0 hpp hqq (Int.not_lt.1 hut)); clear hpp hqq
      go_enter Try.func4, Try.ntmps4
      go_wp2_with (first
        | (go_at_call 8; (with_reducible refine (known_calls _).mono ?_); rintro e w' ⟨rfl, f1⟩; have HF := hid f1; clear f1)
        | (go_at_call 13; (with_reducible refine (DNew_calls _).mono ?_); rintro e w' ⟨rfl, h', f'⟩; have HB := hid HF.out.size; have HD := hid h'; have n0_ := hid (below_next HF.out f'); clear HF; have HF := n0_; clear n0_; clear f' h')
        | (go_at_call 14; (with_reducible refine (Write_ok0 HD.out (H0.out.below HF.out (Nat.le_refl _)) hi0.out).mono ?_); rintro e w' ⟨rfl, h', f'⟩; have n0_ := hid (below_frm1 HF.out f' HB.out); have n1_ := hid (h'); clear HF HD; have HF := n0_; clear n0_; have HD := n1_; clear n1_; clear f' h')
        | (go_at_call 14; (with_reducible refine (Write_ok1 HD.out (H1.out.below HF.out (Nat.le_refl _)) hi1.out).mono ?_); rintro e w' ⟨rfl, h', f'⟩; have n0_ := hid (below_frm1 HF.out f' HB.out); have n1_ := hid (h'); clear HF HD; have HF := n0_; clear n0_; have HD := n1_; clear n1_; clear f' h')
        | (go_at_call 10; (with_reducible refine (RParse_some (H0.out.below HF.out (Nat.le_refl _)) hm0.out t bs hp.out).mono ?_); rintro e w' ⟨A, k, rfl, hX, f'⟩; have HX := hid hX; have n0_ := hid (below_frm0 HF.out f'); have n1_ := hid (HD.out.frm f'); clear HF HD; have HF := n0_; clear n0_; have HD := n1_; clear n1_; clear f' hX)
        | (go_at_call 10; (with_reducible refine (RParse_some (H1.out.below HF.out (Nat.le_refl _)) hm1.out u cs hq.out).mono ?_); rintro e w' ⟨A2, k2, rfl, hY, f'⟩; have HY := hid hY; have n0_ := hid (below_frm0 HF.out f'); have n1_ := hid (HD.out.frm f'); have n2_ := hid (HX.out.frm f' (fun _ _ h => h)); clear HF HD HX; have HF := n0_; clear n0_; have HD := n1_; clear n1_; have HX := n2_; clear n2_; clear f' hY)
        | (go_at_call 15; (with_reducible refine (Load_some HD.out _ _ _ hi.out).mono ?_); rintro e w' ⟨g, rfl, hg, hB, f'⟩; have n0_ := hid (below_frm0 HF.out f'); have n1_ := hid (HD.out.frm f'); have n2_ := hid (HX.out.frm f' (fun _ _ h => h)); have n3_ := hid (HY.out.frm f' (fun _ _ h => h)); clear HF HD HX HY; have HF := n0_; clear n0_; have HD := n1_; clear n1_; have HX := n2_; clear n2_; have HY := n3_; clear n3_; have hcv1 := conv_of hB rfl; have hcv2 := conv_of HX.out rfl; clear f' hg hB)
        | (go_at_call 16; (with_reducible refine (Turn_some HD.out _ _ _ hi.out).mono ?_); rintro e w' ⟨rfl, f'⟩; have n0_ := hid (below_frm0 HF.out f'); clear HF; have HF := n0_; clear n0_; clear f'))
      go_ret
      exact ⟨rfl, HF.out⟩
end Go.Proofs.Ytnlmabdbpjbhoaa
