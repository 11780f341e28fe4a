/- DiskCuts, walked: a write that is cut off anywhere leaves just so many bytes. -/
import Derived.Test.YtlcdldddghhdjaaDiskKnown
import Derived.Deep.RegionHeld3
namespace Go.Proofs.Ytlcdldddghhdjaa
open Go.RowKit Go.ChangeShapes
theorem conv_of {w : World} {A : Option Addr} {c l : Nat} {x : List Int} (h : IsInts .u8 w A c x) (hl : x.length = l) : (convert 27 9 (.slice A l c)).run Try.prog w = .ok (.string (strOfNums x)) w := by
  subst hl; exact h.conv
theorem Read_conv {w : World} {b : Nat} {x0 x1 : List Int} {ar : Bool} {n : Int} (h : IsDk w b x0 x1 ar n) (i : Int) : Calls Try.prog 10 #[.pointer (some ⟨b, 0, none⟩), .int .i64 i] w fun e w' =>
    ∃ A l c, e = .returned (.slice A l c) ∧ (convert 27 9 (.slice A l c)).run Try.prog w' = .ok (.string (strOfNums (arOf x0 x1 i))) w' ∧ IsDk w' b x0 x1 ar n ∧ Frm (fun _ => False) w w' := by
  refine (Read_calls h i).mono ?_
  rintro e w' ⟨A, c, rfl, hA, f⟩
  have f' : Frm (fun _ => False) w w' := Frm.of_below f fun k hk hk' => absurd (Nat.lt_of_lt_of_le hk hk') (Nat.lt_irrefl _)
  exact ⟨A, _, c, rfl, hA.conv, h.frm f', f'⟩
theorem Read_conv0 {w : World} {b : Nat} {x0 x1 : List Int} {ar : Bool} {n : Int} (h : IsDk w b x0 x1 ar n) : Calls Try.prog 10 #[.pointer (some ⟨b, 0, none⟩), .int .i64 0] w fun e w' =>
    ∃ A l c, e = .returned (.slice A l c) ∧ (convert 27 9 (.slice A l c)).run Try.prog w' = .ok (.string (strOfNums x0)) w' ∧ IsDk w' b x0 x1 ar n ∧ Frm (fun _ => False) w w' := Read_conv h 0
theorem Read_conv1 {w : World} {b : Nat} {x0 x1 : List Int} {ar : Bool} {n : Int} (h : IsDk w b x0 x1 ar n) : Calls Try.prog 10 #[.pointer (some ⟨b, 0, none⟩), .int .i64 1] w fun e w' =>
    ∃ A l c, e = .returned (.slice A l c) ∧ (convert 27 9 (.slice A l c)).run Try.prog w' = .ok (.string (strOfNums x1)) w' ∧ IsDk w' b x0 x1 ar n ∧ Frm (fun _ => False) w w' := Read_conv h 1
set_option maxRecDepth 100000 in
set_option maxHeartbeats 8000000 in
theorem DiskCuts_walk (a0 : Option Addr) (c0 : Nat) (z0 : List Int) (a1 : Option Addr) (c1 : Nat) (z1 : List Int) (at_ : Int) (area : Bool) (w : World) (h0 : IsInts .u8 w a0 c0 z0) (h1 : IsInts .u8 w a1 c1 z1) (w2 : (Lit.int .u16 at_).wf = true) :
    Calls Try.prog 4 #[.slice a0 z0.length c0, .slice a1 z1.length c1, .int .u16 at_, .bool area] w fun e w' => e = .returned (.bool true) ∧ Below w.heap.size w w' := by
  have ba := bounds_u16 w2
  clear w2
  have le0 := h0.le
  have sm0 := h0.small
  have le1 := h1.le
  have sm1 := h1.small
  by_cases g0 : z0.length > 400
  · go_enter Try.func4, Try.ntmps4
    go_wp2_with (go_at_call 6; (with_reducible refine (known_calls _).mono ?_); rintro e w' ⟨rfl, f1⟩; have HF := hid f1; clear f1)
    go_ret
    exact ⟨rfl, HF.out⟩
  by_cases g1 : z1.length > 400
  · go_enter Try.func4, Try.ntmps4
    go_wp2_with (go_at_call 6; (with_reducible refine (known_calls _).mono ?_); rintro e w' ⟨rfl, f1⟩; have HF := hid f1; clear f1)
    go_ret
    exact ⟨rfl, HF.out⟩
  have hl0 : (z0.length : Int) ≤ 40040 := by omega
  have hl1 : (z1.length : Int) ≤ 40040 := by omega
  obtain ⟨m, hm⟩ : ∃ m, m = min z1.length (max at_ 0).toNat := ⟨_, rfl⟩
  have e1 : (if (z1.length : Int) < at_ then (z1.length : Int) else at_) = (m : Int) := by split <;> omega
  have m0 : (0 : Int) ≤ (m : Int) := by omega
  have m1 : (m : Int) ≤ (c1 : Int) := by omega
  have hxl : (z1.take m).length = m := by rw [List.length_take]; omega
  have hmh := hid hm; clear hm
  cases area
  · go_enter Try.func4, Try.ntmps4
    go_wp2_with (first
      | (go_at_call 6; (with_reducible refine (known_calls _).mono ?_); rintro e w' ⟨rfl, f1⟩; have HF := hid f1; clear f1)
      | (go_at_call 7; (with_reducible refine (DNew_calls _).mono ?_); rintro e w' ⟨rfl, h', f'⟩; have hb := hid HF.out.size; have nf := hid (below_next HF.out f'); clear HF f'; have HF := nf; clear nf; have HD := hid h'; clear h')
      | (go_at_call 9; (with_reducible refine (Write_ok0 HD.out (h0.below HF.out (Nat.le_refl _)) hl0).mono ?_); rintro e w' ⟨rfl, h', f'⟩; have n1 := hid h'; have nf := hid (below_frm1 HF.out f' hb.out); clear HD HF h' f'; have HD := n1; have HF := nf; clear n1 nf)
      | (go_at_call 9; (with_reducible refine (Write_ok1 HD.out (h0.below HF.out (Nat.le_refl _)) hl0).mono ?_); rintro e w' ⟨rfl, h', f'⟩; have n1 := hid h'; have nf := hid (below_frm1 HF.out f' hb.out); clear HD HF h' f'; have HD := n1; have HF := nf; clear n1 nf)
      | (go_at_call 8; (with_reducible refine (Arm_calls HD.out _).mono ?_); rintro e w' ⟨rfl, h', f'⟩; have n1 := hid h'; have nf := hid (below_frm1 HF.out f' hb.out); clear HD HF h' f'; have HD := n1; have HF := nf; clear n1 nf)
      | (go_at_call 9; (with_reducible refine (Write_cut0 HD.out (h1.below HF.out (Nat.le_refl _)) hl1 m hmh.out).mono ?_); rintro e w' ⟨rfl, h', f'⟩; have n1 := hid h'; have nf := hid (below_frm1 HF.out f' hb.out); clear HD HF h' f'; have HD := n1; have HF := nf; clear n1 nf))
    have G1 := hid (HD.out.frm (Frm.refl _ _).drew); have G2 := hid HF.out.drew; clear HD HF; have HD := G1; have HF := G2; clear G1 G2
    have k0' := conv_of (h0.below HF.out (Nat.le_refl _)) rfl; have k1' := conv_of (h1.below HF.out (Nat.le_refl _)) rfl; have k2' := conv_of ((h1.take m).below HF.out (Nat.le_refl _)) hxl
    go_region_held3 (fun wx => (convert 27 9 (.slice a1 m c1)).run Try.prog wx = .ok (.string (strOfNums (z1.take m))) wx ∧ (convert 27 9 (.slice a0 z0.length c0)).run Try.prog wx = .ok (.string (strOfNums z0)) wx) (first | exact ⟨k2', k0'⟩ | go_keep) (first
      | (go_at_call 10; (with_reducible refine (Read_conv0 HD.out).mono ?_); rintro e w' ⟨A, l, c, rfl, hcv0, h', f'⟩; have n1 := hid h'; have nf := hid (below_frm0 HF.out f'); clear HD HF h' f'; have HD := n1; have HF := nf; clear n1 nf; have k0' := conv_of (h0.below HF.out (Nat.le_refl _)) rfl; have k1' := conv_of (h1.below HF.out (Nat.le_refl _)) rfl; have k2' := conv_of ((h1.take m).below HF.out (Nat.le_refl _)) hxl)
      | (go_at_call 10; (with_reducible refine (Read_conv1 HD.out).mono ?_); rintro e w' ⟨A, l, c, rfl, hcv1, h', f'⟩; have n1 := hid h'; have nf := hid (below_frm0 HF.out f'); clear HD HF h' f'; have HD := n1; have HF := nf; clear n1 nf; have k0' := conv_of (h0.below HF.out (Nat.le_refl _)) rfl; have k1' := conv_of (h1.below HF.out (Nat.le_refl _)) rfl; have k2' := conv_of ((h1.take m).below HF.out (Nat.le_refl _)) hxl)
      | (go_at_call 11; (with_reducible refine (Armed_calls HD.out).mono ?_); rintro e w' ⟨rfl, rfl⟩))
    go_wp2_with (fail)
    clear k0' k1' k2' hcv0 hcv1
    have G1 := hid (HD.out.frm (Frm.refl _ _).drew); have G2 := hid HF.out.drew; clear HD HF; have HD := G1; have HF := G2; clear G1 G2
    have k0' := conv_of (h0.below HF.out (Nat.le_refl _)) rfl; have k1' := conv_of (h1.below HF.out (Nat.le_refl _)) rfl; have k2' := conv_of ((h1.take m).below HF.out (Nat.le_refl _)) hxl
    go_region_held3 (fun wx => (convert 27 9 (.slice a1 z1.length c1)).run Try.prog wx = .ok (.string (strOfNums z1)) wx) (first | exact k1' | go_keep) (first
      | (go_at_call 9; (with_reducible refine (Write_ok0 HD.out (h1.below HF.out (Nat.le_refl _)) hl1).mono ?_); rintro e w' ⟨rfl, h', f'⟩; have n1 := hid h'; have nf := hid (below_frm1 HF.out f' hb.out); clear HD HF h' f'; have HD := n1; have HF := nf; clear n1 nf; have k0' := conv_of (h0.below HF.out (Nat.le_refl _)) rfl; have k1' := conv_of (h1.below HF.out (Nat.le_refl _)) rfl; have k2' := conv_of ((h1.take m).below HF.out (Nat.le_refl _)) hxl)
      | (go_at_call 10; (with_reducible refine (Read_conv0 HD.out).mono ?_); rintro e w' ⟨A, l, c, rfl, hcv0, h', f'⟩; have n1 := hid h'; have nf := hid (below_frm0 HF.out f'); clear HD HF h' f'; have HD := n1; have HF := nf; clear n1 nf; have k0' := conv_of (h0.below HF.out (Nat.le_refl _)) rfl; have k1' := conv_of (h1.below HF.out (Nat.le_refl _)) rfl; have k2' := conv_of ((h1.take m).below HF.out (Nat.le_refl _)) hxl))
    go_wp2_with (fail)
    go_ret
    exact ⟨rfl, HF.out⟩
  · go_enter Try.func4, Try.ntmps4
    go_wp2_with (first
      | (go_at_call 6; (with_reducible refine (known_calls _).mono ?_); rintro e w' ⟨rfl, f1⟩; have HF := hid f1; clear f1)
      | (go_at_call 7; (with_reducible refine (DNew_calls _).mono ?_); rintro e w' ⟨rfl, h', f'⟩; have hb := hid HF.out.size; have nf := hid (below_next HF.out f'); clear HF f'; have HF := nf; clear nf; have HD := hid h'; clear h')
      | (go_at_call 9; (with_reducible refine (Write_ok0 HD.out (h0.below HF.out (Nat.le_refl _)) hl0).mono ?_); rintro e w' ⟨rfl, h', f'⟩; have n1 := hid h'; have nf := hid (below_frm1 HF.out f' hb.out); clear HD HF h' f'; have HD := n1; have HF := nf; clear n1 nf)
      | (go_at_call 9; (with_reducible refine (Write_ok1 HD.out (h0.below HF.out (Nat.le_refl _)) hl0).mono ?_); rintro e w' ⟨rfl, h', f'⟩; have n1 := hid h'; have nf := hid (below_frm1 HF.out f' hb.out); clear HD HF h' f'; have HD := n1; have HF := nf; clear n1 nf)
      | (go_at_call 8; (with_reducible refine (Arm_calls HD.out _).mono ?_); rintro e w' ⟨rfl, h', f'⟩; have n1 := hid h'; have nf := hid (below_frm1 HF.out f' hb.out); clear HD HF h' f'; have HD := n1; have HF := nf; clear n1 nf)
      | (go_at_call 9; (with_reducible refine (Write_cut1 HD.out (h1.below HF.out (Nat.le_refl _)) hl1 m hmh.out).mono ?_); rintro e w' ⟨rfl, h', f'⟩; have n1 := hid h'; have nf := hid (below_frm1 HF.out f' hb.out); clear HD HF h' f'; have HD := n1; have HF := nf; clear n1 nf))
    have G1 := hid (HD.out.frm (Frm.refl _ _).drew); have G2 := hid HF.out.drew; clear HD HF; have HD := G1; have HF := G2; clear G1 G2
    have k0' := conv_of (h0.below HF.out (Nat.le_refl _)) rfl; have k1' := conv_of (h1.below HF.out (Nat.le_refl _)) rfl; have k2' := conv_of ((h1.take m).below HF.out (Nat.le_refl _)) hxl
    go_region_held3 (fun wx => (convert 27 9 (.slice a1 m c1)).run Try.prog wx = .ok (.string (strOfNums (z1.take m))) wx ∧ (convert 27 9 (.slice a0 z0.length c0)).run Try.prog wx = .ok (.string (strOfNums z0)) wx) (first | exact ⟨k2', k0'⟩ | go_keep) (first
      | (go_at_call 10; (with_reducible refine (Read_conv1 HD.out).mono ?_); rintro e w' ⟨A, l, c, rfl, hcv1, h', f'⟩; have n1 := hid h'; have nf := hid (below_frm0 HF.out f'); clear HD HF h' f'; have HD := n1; have HF := nf; clear n1 nf; have k0' := conv_of (h0.below HF.out (Nat.le_refl _)) rfl; have k1' := conv_of (h1.below HF.out (Nat.le_refl _)) rfl; have k2' := conv_of ((h1.take m).below HF.out (Nat.le_refl _)) hxl)
      | (go_at_call 10; (with_reducible refine (Read_conv0 HD.out).mono ?_); rintro e w' ⟨A, l, c, rfl, hcv0, h', f'⟩; have n1 := hid h'; have nf := hid (below_frm0 HF.out f'); clear HD HF h' f'; have HD := n1; have HF := nf; clear n1 nf; have k0' := conv_of (h0.below HF.out (Nat.le_refl _)) rfl; have k1' := conv_of (h1.below HF.out (Nat.le_refl _)) rfl; have k2' := conv_of ((h1.take m).below HF.out (Nat.le_refl _)) hxl)
      | (go_at_call 11; (with_reducible refine (Armed_calls HD.out).mono ?_); rintro e w' ⟨rfl, rfl⟩))
    go_wp2_with (fail)
    clear k0' k1' k2' hcv0 hcv1
    have G1 := hid (HD.out.frm (Frm.refl _ _).drew); have G2 := hid HF.out.drew; clear HD HF; have HD := G1; have HF := G2; clear G1 G2
    have k0' := conv_of (h0.below HF.out (Nat.le_refl _)) rfl; have k1' := conv_of (h1.below HF.out (Nat.le_refl _)) rfl; have k2' := conv_of ((h1.take m).below HF.out (Nat.le_refl _)) hxl
    go_region_held3 (fun wx => (convert 27 9 (.slice a1 z1.length c1)).run Try.prog wx = .ok (.string (strOfNums z1)) wx) (first | exact k1' | go_keep) (first
      | (go_at_call 9; (with_reducible refine (Write_ok1 HD.out (h1.below HF.out (Nat.le_refl _)) hl1).mono ?_); rintro e w' ⟨rfl, h', f'⟩; have n1 := hid h'; have nf := hid (below_frm1 HF.out f' hb.out); clear HD HF h' f'; have HD := n1; have HF := nf; clear n1 nf; have k0' := conv_of (h0.below HF.out (Nat.le_refl _)) rfl; have k1' := conv_of (h1.below HF.out (Nat.le_refl _)) rfl; have k2' := conv_of ((h1.take m).below HF.out (Nat.le_refl _)) hxl)
      | (go_at_call 10; (with_reducible refine (Read_conv1 HD.out).mono ?_); rintro e w' ⟨A, l, c, rfl, hcv1, h', f'⟩; have n1 := hid h'; have nf := hid (below_frm0 HF.out f'); clear HD HF h' f'; have HD := n1; have HF := nf; clear n1 nf; have k0' := conv_of (h0.below HF.out (Nat.le_refl _)) rfl; have k1' := conv_of (h1.below HF.out (Nat.le_refl _)) rfl; have k2' := conv_of ((h1.take m).below HF.out (Nat.le_refl _)) hxl))
    go_wp2_with (fail)
    go_ret
    exact ⟨rfl, HF.out⟩
end Go.Proofs.Ytlcdldddghhdjaa
