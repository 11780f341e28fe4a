/- DiskCuts, walked: a write that is cut off anywhere leaves just so many bytes. -/
import Derived.Test.YtlcdldddghhdjaaDiskKnown
import Derived.Deep.RegionHeld3
namespace Go.Proofs.Ytlcdldddghhdjaa
open Go.RowKit Go.ChangeShapes
theorem conv_of {w : World} {A : Option Addr} {c l : Nat} {x : List Int} (h : IsInts .u8 w A c x) (hl : x.length = l) : (convert 27 9 (.slice A l c)).run Try.prog w = .ok (.string (strOfNums x)) w := by
  subst hl; exact h.conv
theorem Read_conv {w : World} {b : Nat} {x0 x1 : List Int} {ar : Bool} {n : Int} (h : IsDk w b x0 x1 ar n) (i : Int) : Calls Try.prog 10 #[.pointer (some ⟨b, 0, none⟩), .int .i64 i] w fun e w' =>
    ∃ A l c, e = .returned (.slice A l c) ∧ (convert 27 9 (.slice A l c)).run Try.prog w' = .ok (.string (strOfNums (arOf x0 x1 i))) w' ∧ IsDk w' b x0 x1 ar n ∧ Frm (fun _ => False) w w' := by
  refine (Read_calls h i).mono ?_
  rintro e w' ⟨A, c, rfl, hA, f⟩
  have f' : Frm (fun _ => False) w w' := Frm.of_below f fun k hk hk' => absurd (Nat.lt_of_lt_of_le hk hk') (Nat.lt_irrefl _)
  exact ⟨A, _, c, rfl, hA.conv, h.frm f', f'⟩
theorem Read_conv0 {w : World} {b : Nat} {x0 x1 : List Int} {ar : Bool} {n : Int} (h : IsDk w b x0 x1 ar n) : Calls Try.prog 10 #[.pointer (some ⟨b, 0, none⟩), .int .i64 0] w fun e w' =>
    ∃ A l c, e = .returned (.slice A l c) ∧ (convert 27 9 (.slice A l c)).run Try.prog w' = .ok (.string (strOfNums x0)) w' ∧ IsDk w' b x0 x1 ar n ∧ Frm (fun _ => False) w w' := Read_conv h 0
theorem Read_conv1 {w : World} {b : Nat} {x0 x1 : List Int} {ar : Bool} {n : Int} (h : IsDk w b x0 x1 ar n) : Calls Try.prog 10 #[.pointer (some ⟨b, 0, none⟩), .int .i64 1] w fun e w' =>
    ∃ A l c, e = .returned (.slice A l c) ∧ (convert 27 9 (.slice A l c)).run Try.prog w' = .ok (.string (strOfNums x1)) w' ∧ IsDk w' b x0 x1 ar n ∧ Frm (fun _ => False) w w' := Read_conv h 1
set_option maxRecDepth 100000 in
set_option maxHeartbeats 8000000 in
theorem DiskCuts_walk (a0 : Option Addr) (c0 : Nat) (z0 : List Int) (a1 : Option Addr) (c1 : Nat) (z1 : List Int) (at_ : Int) (area : Bool) (w : World) (h0 : IsInts .u8 w a0 c0 z0) (h1 : IsInts .u8 w a1 c1 z1) (w2 : (Lit.int .u16 at_).wf = true) :
    Calls Try.prog 4 #[.slice a0 z0.length c0, .slice a1 z1.length c1, .int .u16 at_, .bool area] w fun e w' => e = .returned (.bool true) ∧ Below w.heap.size w w' := by
  have ba := bounds_u16 w2
  clear w2
  have le0 := h0.le
  have sm0 := h0.small
  have le1 := h1.le
  have sm1 := h1.small
  by_cases g0 : z0.length > 400
  · go_enter Try.func4, Try.ntmps4
    go_wp2_with (go_at_call 6; (with_reducible refine (known_calls _).mono ?_); rintro e w' ⟨rfl, f1⟩; have HF := hid f1; clear f1)
    go_ret
    exact ⟨rfl, HF.out⟩
  by_cases g1 : z1.length > 400
  · go_enter Try.func4, Try.ntmps4
    go_wp2_with (go_at_call 6; (with_reducible refine (known_calls _).mono ?_); rintro e w' ⟨rfl, f1⟩; have HF := hid f1; clear f1)
    go_ret
    exact ⟨rfl, HF.out⟩
  have hl0 : (z0.length : Int) ≤ 40040 := by omega
  have hl1 : (z1.length : Int) ≤ 40040 := by omega
  obtain ⟨m, hm⟩ : ∃ m, m = min z1.length (max at_ 0).toNat := ⟨_, rfl⟩
  have e1 : (if (z1.length : Int) < at_ then (z1.length : Int) else at_) = (m : Int) := by split <;> omega
  have m0 : (0 : Int) ≤ (m : Int) := by omega
  have m1 : (m : Int) ≤ (c1 : Int) := by omega
  have hxl : (z1.take m).length = m := by rw [List.length_take]; omega
  have hmh := hid hm; clear hm
  cases area
  · go_enter Try.func4, Try.ntmps4
    go_wp2_with (first
      | (go_at_call 6; (with_reducible refine (known_calls _).mono ?_); rintro e w' ⟨rfl, f1⟩; have HF := hid f1; clear f1)
      | (go_at_call 7; (with_reducible refine (DNew_calls _).mono ?_); rintro e w' ⟨rfl, h', f'⟩; have hb := hid HF.out.size; have nf := hid (below_next HF.out f'); clear HF f'; have HF := nf; clear nf; have HD := hid h'; clear h')
      | (go_at_call 9; (with_reducible refine (Write_ok0 HD.out (h0.below HF.out (Nat.le_refl _)) hl0).mono ?_); rintro e w' ⟨rfl, h', f'⟩; have n1 := hid h'; have nf := hid (below_frm1 HF.out f' hb.out); clear HD HF h' f'; have HD := n1; have HF := nf; clear n1 nf)
      | (go_at_call 9; (with_reducible refine (Write_ok1 HD.out (h0.below HF.out (Nat.le_refl _)) hl0).mono ?_); rintro e w' ⟨rfl, h', f'⟩; have n1 := hid h'; have nf := hid (below_frm1 HF.out f' hb.out); clear HD HF h' f'; have HD := n1; have HF := nf; clear n1 nf)
      | (go_at_call 8; (with_reducible refine (Arm_calls HD.out _).mono ?_); rintro e w' ⟨rfl, h', f'⟩; have n1 := hid h'; have nf := hid (below_frm1 HF.out f' hb.out); clear HD HF h' f'; have HD := n1; have HF := nf; clear n1 nf)
      | (go_at_call 9; (with_reducible refine (Write_cut0 HD.out (h1.below HF.out (Nat.le_refl _)) hl1 m hmh.out).mono ?_); rintro e w' ⟨rfl, h', f'⟩; have n1 := hid h'; have nf := hid (below_frm1 HF.out f' hb.out); clear HD HF h' f'; have HD := n1; have HF := nf; clear n1 nf))
    have G1 := hid (HD.out.frm (Frm.refl _ _).drew); have G2 := hid HF.out.drew; clear HD HF; have HD := G1; have HF := G2; clear G1 G2
    have k0' := conv_of (h0.below HF.out (Nat.le_refl _)) rfl; have k1' := conv_of (h1.below HF.out (Nat.le_refl _)) rfl; have k2' := conv_of ((h1.take m).below HF.out (Nat.le_refl _)) hxl
    refine wp_region_held_drew (S := fun wx => (convert 27 9 (.slice a1 m c1)).run Try.prog wx = .ok (.string (strOfNums (z1.take m))) wx ∧ (convert 27 9 (.slice a0 z0.length c0)).run Try.prog wx = .ok (.string (strOfNums z0)) wx) (by kernel_rfl) (by (try dsimp only); exact ⟨k2', k0'⟩) (fun hHeld => ?_)
    refine wpAnyH_take (i := 0) (oi := ⟨some 51, _, _, _, _, _⟩) (v := ?v1) rfl (by kernel_rfl) (by kernel_rfl) (by kernel_rfl) (fun _ _ _ h => h) (Or.inl ⟨by rfl, ?y1⟩) (by assumption) ?r1
    case y1 => (intro wx hSx; (try dsimp only at hSx); go_simp; (try with_reducible rfl))
    try simp only [Act.put, List.setIfInBounds_toArray, List.set_cons_zero, List.set_cons_succ]
    refine wpAnyH_take (i := 1) (oi := ⟨some 52, _, _, _, _, _⟩) (v := ?v2) rfl (by kernel_rfl) (by kernel_rfl) (by kernel_rfl) (fun _ _ _ h => h) (Or.inl ⟨by rfl, ?y2⟩) (by assumption) ?r2
    case y2 => (intro wx hSx; (try dsimp only at hSx); go_simp; (try with_reducible rfl))
    try simp only [Act.put, List.setIfInBounds_toArray, List.set_cons_zero, List.set_cons_succ]
    refine wpAnyH_take (i := 2) (oi := ⟨some 53, _, _, _, _, _⟩) (v := ?v3) rfl (by kernel_rfl) (by kernel_rfl) (by kernel_rfl) (fun _ _ _ h => h) (Or.inl ⟨by rfl, ?y3⟩) (by assumption) ?r3
    case y3 => (intro wx hSx; (try dsimp only at hSx); go_simp; (try with_reducible rfl))
    try simp only [Act.put, List.setIfInBounds_toArray, List.set_cons_zero, List.set_cons_succ]
    refine wpAnyH_take (i := 3) (oi := ⟨some 54, _, _, _, _, _⟩) (v := ?v4) rfl (by kernel_rfl) (by kernel_rfl) (by kernel_rfl) (fun _ _ _ h => h) (Or.inl ⟨by rfl, ?y4⟩) (by assumption) ?r4
    case y4 => (intro wx hSx; (try dsimp only at hSx); go_simp; (try with_reducible rfl))
    try simp only [Act.put, List.setIfInBounds_toArray, List.set_cons_zero, List.set_cons_succ]
    refine wpAnyH_take (i := 4) (oi := ⟨some 55, _, _, _, _, _⟩) (v := ?v5) rfl (by kernel_rfl) (by kernel_rfl) (by kernel_rfl) (fun _ _ _ h => h) (Or.inl ⟨by rfl, ?y5⟩) (by assumption) ?r5
    case y5 => (intro wx hSx; (try dsimp only at hSx); go_simp; (try with_reducible rfl))
    try simp only [Act.put, List.setIfInBounds_toArray, List.set_cons_zero, List.set_cons_succ]
    refine wpAnyH_take (i := 7) (oi := ⟨some 58, _, _, _, _, _⟩) (v := ?v6) rfl (by kernel_rfl) (by kernel_rfl) (by kernel_rfl) (fun _ _ _ h => h) (Or.inl ⟨by rfl, ?y6⟩) (by assumption) ?r6
    case y6 => (intro wx hSx; (try dsimp only at hSx); go_simp; (try with_reducible rfl))
    try simp only [Act.put, List.setIfInBounds_toArray, List.set_cons_zero, List.set_cons_succ]
    refine wpAnyH_take (i := 8) (oi := ⟨some 59, _, _, _, _, _⟩) (v := ?v7) rfl (by kernel_rfl) (by kernel_rfl) (by kernel_rfl) (fun _ _ _ h => h) (Or.inl ⟨by rfl, ?y7⟩) (by assumption) ?r7
    case y7 => (intro wx hSx; (try dsimp only at hSx); go_simp; (try with_reducible rfl))
    try simp only [Act.put, List.setIfInBounds_toArray, List.set_cons_zero, List.set_cons_succ]
    refine wpAnyH_take (i := 9) (oi := ⟨some 60, _, _, _, _, _⟩) (v := ?v8) rfl (by kernel_rfl) (by kernel_rfl) (by kernel_rfl) (fun _ _ _ h => h) (Or.inl ⟨by rfl, ?y8⟩) (by assumption) ?r8
    case y8 => (intro wx hSx; (try dsimp only at hSx); go_simp; (try with_reducible rfl))
    try simp only [Act.put, List.setIfInBounds_toArray, List.set_cons_zero, List.set_cons_succ]
    refine wpAnyH_take (i := 10) (oi := ⟨some 61, _, _, _, _, _⟩) (v := ?v9) rfl (by kernel_rfl) (by kernel_rfl) (by kernel_rfl) (fun _ _ _ h => h) (Or.inl ⟨by rfl, ?y9⟩) (by assumption) ?r9
    case y9 => (intro wx hSx; (try dsimp only at hSx); go_simp; (try with_reducible rfl))
    try simp only [Act.put, List.setIfInBounds_toArray, List.set_cons_zero, List.set_cons_succ]
    refine wpAnyH_ready (rs := [5]) (by kernel_rfl) (by simp) ?_
    refine AllReadyH.cons (o := ⟨some 56, _, _, _, _, _⟩) rfl (fun K hK => ?_) AllReadyH.nil
    go_simp
    go_wp2_with ((first
      | (go_at_call 10; (with_reducible refine (Read_conv0 HD.out).mono ?_); rintro e w' ⟨A, l, c, rfl, hcv0, h', f'⟩; have n1 := hid h'; have nf := hid (below_frm0 HF.out f'); clear HD HF h' f'; have HD := n1; have HF := nf; clear n1 nf; have k0' := conv_of (h0.below HF.out (Nat.le_refl _)) rfl; have k1' := conv_of (h1.below HF.out (Nat.le_refl _)) rfl; have k2' := conv_of ((h1.take m).below HF.out (Nat.le_refl _)) hxl)
      | (go_at_call 10; (with_reducible refine (Read_conv1 HD.out).mono ?_); rintro e w' ⟨A, l, c, rfl, hcv1, h', f'⟩; have n1 := hid h'; have nf := hid (below_frm0 HF.out f'); clear HD HF h' f'; have HD := n1; have HF := nf; clear n1 nf; have k0' := conv_of (h0.below HF.out (Nat.le_refl _)) rfl; have k1' := conv_of (h1.below HF.out (Nat.le_refl _)) rfl; have k2' := conv_of ((h1.take m).below HF.out (Nat.le_refl _)) hxl)
      | (go_at_call 11; (with_reducible refine (Armed_calls HD.out).mono ?_); rintro e w' ⟨rfl, rfl⟩)))
    refine hK.out _ _ ?_ (fun hHeld2 => ?_)
    · ((try dsimp only); exact ⟨k2', k0'⟩)
    clear hK K hHeld; have hHeld := hHeld2; clear hHeld2
    try simp only [Act.put, List.setIfInBounds_toArray, List.set_cons_zero, List.set_cons_succ]
    refine wpAnyH_ready (rs := [6]) (by kernel_rfl) (by simp) ?_
    refine AllReadyH.cons (o := ⟨some 57, _, _, _, _, _⟩) rfl (fun K hK => ?_) AllReadyH.nil
    go_simp
    go_wp2_with ((first
      | (go_at_call 10; (with_reducible refine (Read_conv0 HD.out).mono ?_); rintro e w' ⟨A, l, c, rfl, hcv0, h', f'⟩; have n1 := hid h'; have nf := hid (below_frm0 HF.out f'); clear HD HF h' f'; have HD := n1; have HF := nf; clear n1 nf; have k0' := conv_of (h0.below HF.out (Nat.le_refl _)) rfl; have k1' := conv_of (h1.below HF.out (Nat.le_refl _)) rfl; have k2' := conv_of ((h1.take m).below HF.out (Nat.le_refl _)) hxl)
      | (go_at_call 10; (with_reducible refine (Read_conv1 HD.out).mono ?_); rintro e w' ⟨A, l, c, rfl, hcv1, h', f'⟩; have n1 := hid h'; have nf := hid (below_frm0 HF.out f'); clear HD HF h' f'; have HD := n1; have HF := nf; clear n1 nf; have k0' := conv_of (h0.below HF.out (Nat.le_refl _)) rfl; have k1' := conv_of (h1.below HF.out (Nat.le_refl _)) rfl; have k2' := conv_of ((h1.take m).below HF.out (Nat.le_refl _)) hxl)
      | (go_at_call 11; (with_reducible refine (Armed_calls HD.out).mono ?_); rintro e w' ⟨rfl, rfl⟩)))
    refine hK.out _ _ ?_ (fun hHeld2 => ?_)
    · ((try dsimp only); exact ⟨k2', k0'⟩)
    clear hK K hHeld; have hHeld := hHeld2; clear hHeld2
    try simp only [Act.put, List.setIfInBounds_toArray, List.set_cons_zero, List.set_cons_succ]
    refine wpAnyH_take (i := 11) (oi := ⟨some 62, _, _, _, _, _⟩) (v := ?v10) rfl (by kernel_rfl) (by kernel_rfl) (by kernel_rfl) (fun _ _ _ h => h) (Or.inl ⟨by rfl, ?y10⟩) (by assumption) ?r10
    case y10 => (intro wx hSx; (try dsimp only at hSx); go_simp; (try with_reducible rfl))
    try simp only [Act.put, List.setIfInBounds_toArray, List.set_cons_zero, List.set_cons_succ]
    refine wpAnyH_take (i := 12) (oi := ⟨some 63, _, _, _, _, _⟩) (v := ?v11) rfl (by kernel_rfl) (by kernel_rfl) (by kernel_rfl) (fun _ _ _ h => h) (Or.inl ⟨by rfl, ?y11⟩) (by assumption) ?r11
    case y11 => (intro wx hSx; (try dsimp only at hSx); go_simp; (try with_reducible rfl))
    try simp only [Act.put, List.setIfInBounds_toArray, List.set_cons_zero, List.set_cons_succ]
    refine wpAnyH_take (i := 13) (oi := ⟨some 64, _, _, _, _, _⟩) (v := ?v12) rfl (by kernel_rfl) (by kernel_rfl) (by kernel_rfl) (fun _ _ _ h => h) (Or.inl ⟨by rfl, ?y12⟩) (by assumption) ?r12
    case y12 => (intro wx hSx; (try dsimp only at hSx); go_simp; (try with_reducible rfl))
    try simp only [Act.put, List.setIfInBounds_toArray, List.set_cons_zero, List.set_cons_succ]
    refine wpAnyH_take (i := 14) (oi := ⟨some 65, _, _, _, _, _⟩) (v := ?v13) rfl (by kernel_rfl) (by kernel_rfl) (by kernel_rfl) (fun _ _ _ h => h) (Or.inl ⟨by rfl, ?y13⟩) (by assumption) ?r13
    case y13 => (intro wx hSx; (try dsimp only at hSx); go_simp; (try with_reducible rfl))
    try simp only [Act.put, List.setIfInBounds_toArray, List.set_cons_zero, List.set_cons_succ]
    refine wpAnyH_take (i := 15) (oi := ⟨some 66, _, _, _, _, _⟩) (v := ?v14) rfl (by kernel_rfl) (by kernel_rfl) (by kernel_rfl) (fun _ _ _ h => h) (Or.inl ⟨by rfl, ?y14⟩) (by assumption) ?r14
    case y14 => (intro wx hSx; (try dsimp only at hSx); go_simp; (try with_reducible rfl))
    try simp only [Act.put, List.setIfInBounds_toArray, List.set_cons_zero, List.set_cons_succ]
    refine wpAnyH_take (i := 18) (oi := ⟨some 69, _, _, _, _, _⟩) (v := ?v15) rfl (by kernel_rfl) (by kernel_rfl) (by kernel_rfl) (fun _ _ _ h => h) (Or.inl ⟨by rfl, ?y15⟩) (by assumption) ?r15
    case y15 => (intro wx hSx; (try dsimp only at hSx); go_simp; (try with_reducible rfl))
    try simp only [Act.put, List.setIfInBounds_toArray, List.set_cons_zero, List.set_cons_succ]
    refine wpAnyH_take (i := 19) (oi := ⟨some 70, _, _, _, _, _⟩) (v := ?v16) rfl (by kernel_rfl) (by kernel_rfl) (by kernel_rfl) (fun _ _ _ h => h) (Or.inl ⟨by rfl, ?y16⟩) (by assumption) ?r16
    case y16 => (intro wx hSx; (try dsimp only at hSx); go_simp; (try with_reducible rfl))
    try simp only [Act.put, List.setIfInBounds_toArray, List.set_cons_zero, List.set_cons_succ]
    refine wpAnyH_ready (rs := [16]) (by kernel_rfl) (by simp) ?_
    refine AllReadyH.cons (o := ⟨some 67, _, _, _, _, _⟩) rfl (fun K hK => ?_) AllReadyH.nil
    go_simp
    go_wp2_with ((first
      | (go_at_call 10; (with_reducible refine (Read_conv0 HD.out).mono ?_); rintro e w' ⟨A, l, c, rfl, hcv0, h', f'⟩; have n1 := hid h'; have nf := hid (below_frm0 HF.out f'); clear HD HF h' f'; have HD := n1; have HF := nf; clear n1 nf; have k0' := conv_of (h0.below HF.out (Nat.le_refl _)) rfl; have k1' := conv_of (h1.below HF.out (Nat.le_refl _)) rfl; have k2' := conv_of ((h1.take m).below HF.out (Nat.le_refl _)) hxl)
      | (go_at_call 10; (with_reducible refine (Read_conv1 HD.out).mono ?_); rintro e w' ⟨A, l, c, rfl, hcv1, h', f'⟩; have n1 := hid h'; have nf := hid (below_frm0 HF.out f'); clear HD HF h' f'; have HD := n1; have HF := nf; clear n1 nf; have k0' := conv_of (h0.below HF.out (Nat.le_refl _)) rfl; have k1' := conv_of (h1.below HF.out (Nat.le_refl _)) rfl; have k2' := conv_of ((h1.take m).below HF.out (Nat.le_refl _)) hxl)
      | (go_at_call 11; (with_reducible refine (Armed_calls HD.out).mono ?_); rintro e w' ⟨rfl, rfl⟩)))
    refine hK.out _ _ ?_ (fun hHeld2 => ?_)
    · ((try dsimp only); exact ⟨k2', k0'⟩)
    clear hK K hHeld; have hHeld := hHeld2; clear hHeld2
    try simp only [Act.put, List.setIfInBounds_toArray, List.set_cons_zero, List.set_cons_succ]
    refine wpAnyH_ready (rs := [17]) (by kernel_rfl) (by simp) ?_
    refine AllReadyH.cons (o := ⟨some 68, _, _, _, _, _⟩) rfl (fun K hK => ?_) AllReadyH.nil
    go_simp
    go_wp2_with ((first
      | (go_at_call 10; (with_reducible refine (Read_conv0 HD.out).mono ?_); rintro e w' ⟨A, l, c, rfl, hcv0, h', f'⟩; have n1 := hid h'; have nf := hid (below_frm0 HF.out f'); clear HD HF h' f'; have HD := n1; have HF := nf; clear n1 nf; have k0' := conv_of (h0.below HF.out (Nat.le_refl _)) rfl; have k1' := conv_of (h1.below HF.out (Nat.le_refl _)) rfl; have k2' := conv_of ((h1.take m).below HF.out (Nat.le_refl _)) hxl)
      | (go_at_call 10; (with_reducible refine (Read_conv1 HD.out).mono ?_); rintro e w' ⟨A, l, c, rfl, hcv1, h', f'⟩; have n1 := hid h'; have nf := hid (below_frm0 HF.out f'); clear HD HF h' f'; have HD := n1; have HF := nf; clear n1 nf; have k0' := conv_of (h0.below HF.out (Nat.le_refl _)) rfl; have k1' := conv_of (h1.below HF.out (Nat.le_refl _)) rfl; have k2' := conv_of ((h1.take m).below HF.out (Nat.le_refl _)) hxl)
      | (go_at_call 11; (with_reducible refine (Armed_calls HD.out).mono ?_); rintro e w' ⟨rfl, rfl⟩)))
    refine hK.out _ _ ?_ (fun hHeld2 => ?_)
    · ((try dsimp only); exact ⟨k2', k0'⟩)
    clear hK K hHeld; have hHeld := hHeld2; clear hHeld2
    try simp only [Act.put, List.setIfInBounds_toArray, List.set_cons_zero, List.set_cons_succ]
    refine wpAnyH_take (i := 20) (oi := ⟨some 71, _, _, _, _, _⟩) (v := ?v17) rfl (by kernel_rfl) (by kernel_rfl) (by kernel_rfl) (fun _ _ _ h => h) (Or.inl ⟨by rfl, ?y17⟩) (by assumption) ?r17
    case y17 => (intro wx hSx; (try dsimp only at hSx); go_simp; (try with_reducible rfl))
    try simp only [Act.put, List.setIfInBounds_toArray, List.set_cons_zero, List.set_cons_succ]
    refine wpAnyH_take (i := 21) (oi := ⟨some 72, _, _, _, _, _⟩) (v := ?v18) rfl (by kernel_rfl) (by kernel_rfl) (by kernel_rfl) (fun _ _ _ h => h) (Or.inl ⟨by rfl, ?y18⟩) (by assumption) ?r18
    case y18 => (intro wx hSx; (try dsimp only at hSx); go_simp; (try with_reducible rfl))
    try simp only [Act.put, List.setIfInBounds_toArray, List.set_cons_zero, List.set_cons_succ]
    refine wpAnyH_take (i := 22) (oi := ⟨some 73, _, _, _, _, _⟩) (v := ?v19) rfl (by kernel_rfl) (by kernel_rfl) (by kernel_rfl) (fun _ _ _ h => h) (Or.inl ⟨by rfl, ?y19⟩) (by assumption) ?r19
    case y19 => (intro wx hSx; (try dsimp only at hSx); go_simp; (try with_reducible rfl))
    try simp only [Act.put, List.setIfInBounds_toArray, List.set_cons_zero, List.set_cons_succ]
    refine wpAnyH_take (i := 23) (oi := ⟨some 74, _, _, _, _, _⟩) (v := ?v20) rfl (by kernel_rfl) (by kernel_rfl) (by kernel_rfl) (fun _ _ _ h => h) (Or.inl ⟨by rfl, ?y20⟩) (by assumption) ?r20
    case y20 => (intro wx hSx; (try dsimp only at hSx); go_simp; (try with_reducible rfl))
    try simp only [Act.put, List.setIfInBounds_toArray, List.set_cons_zero, List.set_cons_succ]
    refine wpAnyH_ready (rs := [24]) (by kernel_rfl) (by simp) ?_
    refine AllReadyH.cons (o := ⟨some 75, _, _, _, _, _⟩) rfl (fun K hK => ?_) AllReadyH.nil
    go_simp
    go_wp2_with ((first
      | (go_at_call 10; (with_reducible refine (Read_conv0 HD.out).mono ?_); rintro e w' ⟨A, l, c, rfl, hcv0, h', f'⟩; have n1 := hid h'; have nf := hid (below_frm0 HF.out f'); clear HD HF h' f'; have HD := n1; have HF := nf; clear n1 nf; have k0' := conv_of (h0.below HF.out (Nat.le_refl _)) rfl; have k1' := conv_of (h1.below HF.out (Nat.le_refl _)) rfl; have k2' := conv_of ((h1.take m).below HF.out (Nat.le_refl _)) hxl)
      | (go_at_call 10; (with_reducible refine (Read_conv1 HD.out).mono ?_); rintro e w' ⟨A, l, c, rfl, hcv1, h', f'⟩; have n1 := hid h'; have nf := hid (below_frm0 HF.out f'); clear HD HF h' f'; have HD := n1; have HF := nf; clear n1 nf; have k0' := conv_of (h0.below HF.out (Nat.le_refl _)) rfl; have k1' := conv_of (h1.below HF.out (Nat.le_refl _)) rfl; have k2' := conv_of ((h1.take m).below HF.out (Nat.le_refl _)) hxl)
      | (go_at_call 11; (with_reducible refine (Armed_calls HD.out).mono ?_); rintro e w' ⟨rfl, rfl⟩)))
    refine hK.out _ _ ?_ (fun hHeld2 => ?_)
    · ((try dsimp only); exact ⟨k2', k0'⟩)
    clear hK K hHeld; have hHeld := hHeld2; clear hHeld2
    try simp only [Act.put, List.setIfInBounds_toArray, List.set_cons_zero, List.set_cons_succ]
    refine wpAnyH_take (i := 25) (oi := ⟨some 76, _, _, _, _, _⟩) (v := ?v21) rfl (by kernel_rfl) (by kernel_rfl) (by kernel_rfl) (fun _ _ _ h => h) (Or.inl ⟨by rfl, ?y21⟩) (by assumption) ?r21
    case y21 => (intro wx hSx; (try dsimp only at hSx); go_simp; (try with_reducible rfl))
    try simp only [Act.put, List.setIfInBounds_toArray, List.set_cons_zero, List.set_cons_succ]
    refine wpAnyH_done (by kernel_rfl) ?_ _
    go_wp2_with (fail)
    clear k0' k1' k2' hcv0 hcv1
    have G1 := hid (HD.out.frm (Frm.refl _ _).drew); have G2 := hid HF.out.drew; clear HD HF; have HD := G1; have HF := G2; clear G1 G2
    have k0' := conv_of (h0.below HF.out (Nat.le_refl _)) rfl; have k1' := conv_of (h1.below HF.out (Nat.le_refl _)) rfl; have k2' := conv_of ((h1.take m).below HF.out (Nat.le_refl _)) hxl
    refine wp_region_held_drew (S := fun wx => (convert 27 9 (.slice a1 z1.length c1)).run Try.prog wx = .ok (.string (strOfNums z1)) wx) (by kernel_rfl) (by (try dsimp only); exact k1') (fun hHeld => ?_)
    refine wpAnyH_take (i := 0) (oi := ⟨some 77, _, _, _, _, _⟩) (v := ?v22) rfl (by kernel_rfl) (by kernel_rfl) (by kernel_rfl) (fun _ _ _ h => h) (Or.inl ⟨by rfl, ?y22⟩) (by assumption) ?r22
    case y22 => (intro wx hSx; (try dsimp only at hSx); go_simp; (try with_reducible rfl))
    try simp only [Act.put, List.setIfInBounds_toArray, List.set_cons_zero, List.set_cons_succ]
    refine wpAnyH_take (i := 1) (oi := ⟨some 78, _, _, _, _, _⟩) (v := ?v23) rfl (by kernel_rfl) (by kernel_rfl) (by kernel_rfl) (fun _ _ _ h => h) (Or.inl ⟨by rfl, ?y23⟩) (by assumption) ?r23
    case y23 => (intro wx hSx; (try dsimp only at hSx); go_simp; (try with_reducible rfl))
    try simp only [Act.put, List.setIfInBounds_toArray, List.set_cons_zero, List.set_cons_succ]
    refine wpAnyH_take (i := 2) (oi := ⟨some 79, _, _, _, _, _⟩) (v := ?v24) rfl (by kernel_rfl) (by kernel_rfl) (by kernel_rfl) (fun _ _ _ h => h) (Or.inl ⟨by rfl, ?y24⟩) (by assumption) ?r24
    case y24 => (intro wx hSx; (try dsimp only at hSx); go_simp; (try with_reducible rfl))
    try simp only [Act.put, List.setIfInBounds_toArray, List.set_cons_zero, List.set_cons_succ]
    refine wpAnyH_ready (rs := [3]) (by kernel_rfl) (by simp) ?_
    refine AllReadyH.cons (o := ⟨some 80, _, _, _, _, _⟩) rfl (fun K hK => ?_) AllReadyH.nil
    go_simp
    go_wp2_with ((first
      | (go_at_call 9; (with_reducible refine (Write_ok0 HD.out (h1.below HF.out (Nat.le_refl _)) hl1).mono ?_); rintro e w' ⟨rfl, h', f'⟩; have n1 := hid h'; have nf := hid (below_frm1 HF.out f' hb.out); clear HD HF h' f'; have HD := n1; have HF := nf; clear n1 nf; have k0' := conv_of (h0.below HF.out (Nat.le_refl _)) rfl; have k1' := conv_of (h1.below HF.out (Nat.le_refl _)) rfl; have k2' := conv_of ((h1.take m).below HF.out (Nat.le_refl _)) hxl)
      | (go_at_call 10; (with_reducible refine (Read_conv0 HD.out).mono ?_); rintro e w' ⟨A, l, c, rfl, hcv0, h', f'⟩; have n1 := hid h'; have nf := hid (below_frm0 HF.out f'); clear HD HF h' f'; have HD := n1; have HF := nf; clear n1 nf; have k0' := conv_of (h0.below HF.out (Nat.le_refl _)) rfl; have k1' := conv_of (h1.below HF.out (Nat.le_refl _)) rfl; have k2' := conv_of ((h1.take m).below HF.out (Nat.le_refl _)) hxl)))
    refine hK.out _ _ ?_ (fun hHeld2 => ?_)
    · ((try dsimp only); exact k1')
    clear hK K hHeld; have hHeld := hHeld2; clear hHeld2
    try simp only [Act.put, List.setIfInBounds_toArray, List.set_cons_zero, List.set_cons_succ]
    refine wpAnyH_take (i := 4) (oi := ⟨some 81, _, _, _, _, _⟩) (v := ?v25) rfl (by kernel_rfl) (by kernel_rfl) (by kernel_rfl) (fun _ _ _ h => h) (Or.inl ⟨by rfl, ?y25⟩) (by assumption) ?r25
    case y25 => (intro wx hSx; (try dsimp only at hSx); go_simp; (try with_reducible rfl))
    try simp only [Act.put, List.setIfInBounds_toArray, List.set_cons_zero, List.set_cons_succ]
    refine wpAnyH_take (i := 5) (oi := ⟨some 82, _, _, _, _, _⟩) (v := ?v26) rfl (by kernel_rfl) (by kernel_rfl) (by kernel_rfl) (fun _ _ _ h => h) (Or.inl ⟨by rfl, ?y26⟩) (by assumption) ?r26
    case y26 => (intro wx hSx; (try dsimp only at hSx); go_simp; (try with_reducible rfl))
    try simp only [Act.put, List.setIfInBounds_toArray, List.set_cons_zero, List.set_cons_succ]
    refine wpAnyH_take (i := 6) (oi := ⟨some 83, _, _, _, _, _⟩) (v := ?v27) rfl (by kernel_rfl) (by kernel_rfl) (by kernel_rfl) (fun _ _ _ h => h) (Or.inl ⟨by rfl, ?y27⟩) (by assumption) ?r27
    case y27 => (intro wx hSx; (try dsimp only at hSx); go_simp; (try with_reducible rfl))
    try simp only [Act.put, List.setIfInBounds_toArray, List.set_cons_zero, List.set_cons_succ]
    refine wpAnyH_take (i := 7) (oi := ⟨some 84, _, _, _, _, _⟩) (v := ?v28) rfl (by kernel_rfl) (by kernel_rfl) (by kernel_rfl) (fun _ _ _ h => h) (Or.inl ⟨by rfl, ?y28⟩) (by assumption) ?r28
    case y28 => (intro wx hSx; (try dsimp only at hSx); go_simp; (try with_reducible rfl))
    try simp only [Act.put, List.setIfInBounds_toArray, List.set_cons_zero, List.set_cons_succ]
    refine wpAnyH_take (i := 10) (oi := ⟨some 87, _, _, _, _, _⟩) (v := ?v29) rfl (by kernel_rfl) (by kernel_rfl) (by kernel_rfl) (fun _ _ _ h => h) (Or.inl ⟨by rfl, ?y29⟩) (by assumption) ?r29
    case y29 => (intro wx hSx; (try dsimp only at hSx); go_simp; (try with_reducible rfl))
    try simp only [Act.put, List.setIfInBounds_toArray, List.set_cons_zero, List.set_cons_succ]
    refine wpAnyH_take (i := 11) (oi := ⟨some 88, _, _, _, _, _⟩) (v := ?v30) rfl (by kernel_rfl) (by kernel_rfl) (by kernel_rfl) (fun _ _ _ h => h) (Or.inl ⟨by rfl, ?y30⟩) (by assumption) ?r30
    case y30 => (intro wx hSx; (try dsimp only at hSx); go_simp; (try with_reducible rfl))
    try simp only [Act.put, List.setIfInBounds_toArray, List.set_cons_zero, List.set_cons_succ]
    refine wpAnyH_ready (rs := [8]) (by kernel_rfl) (by simp) ?_
    refine AllReadyH.cons (o := ⟨some 85, _, _, _, _, _⟩) rfl (fun K hK => ?_) AllReadyH.nil
    go_simp
    go_wp2_with ((first
      | (go_at_call 9; (with_reducible refine (Write_ok0 HD.out (h1.below HF.out (Nat.le_refl _)) hl1).mono ?_); rintro e w' ⟨rfl, h', f'⟩; have n1 := hid h'; have nf := hid (below_frm1 HF.out f' hb.out); clear HD HF h' f'; have HD := n1; have HF := nf; clear n1 nf; have k0' := conv_of (h0.below HF.out (Nat.le_refl _)) rfl; have k1' := conv_of (h1.below HF.out (Nat.le_refl _)) rfl; have k2' := conv_of ((h1.take m).below HF.out (Nat.le_refl _)) hxl)
      | (go_at_call 10; (with_reducible refine (Read_conv0 HD.out).mono ?_); rintro e w' ⟨A, l, c, rfl, hcv0, h', f'⟩; have n1 := hid h'; have nf := hid (below_frm0 HF.out f'); clear HD HF h' f'; have HD := n1; have HF := nf; clear n1 nf; have k0' := conv_of (h0.below HF.out (Nat.le_refl _)) rfl; have k1' := conv_of (h1.below HF.out (Nat.le_refl _)) rfl; have k2' := conv_of ((h1.take m).below HF.out (Nat.le_refl _)) hxl)))
    refine hK.out _ _ ?_ (fun hHeld2 => ?_)
    · ((try dsimp only); exact k1')
    clear hK K hHeld; have hHeld := hHeld2; clear hHeld2
    try simp only [Act.put, List.setIfInBounds_toArray, List.set_cons_zero, List.set_cons_succ]
    refine wpAnyH_ready (rs := [9]) (by kernel_rfl) (by simp) ?_
    refine AllReadyH.cons (o := ⟨some 86, _, _, _, _, _⟩) rfl (fun K hK => ?_) AllReadyH.nil
    go_simp
    go_wp2_with ((first
      | (go_at_call 9; (with_reducible refine (Write_ok0 HD.out (h1.below HF.out (Nat.le_refl _)) hl1).mono ?_); rintro e w' ⟨rfl, h', f'⟩; have n1 := hid h'; have nf := hid (below_frm1 HF.out f' hb.out); clear HD HF h' f'; have HD := n1; have HF := nf; clear n1 nf; have k0' := conv_of (h0.below HF.out (Nat.le_refl _)) rfl; have k1' := conv_of (h1.below HF.out (Nat.le_refl _)) rfl; have k2' := conv_of ((h1.take m).below HF.out (Nat.le_refl _)) hxl)
      | (go_at_call 10; (with_reducible refine (Read_conv0 HD.out).mono ?_); rintro e w' ⟨A, l, c, rfl, hcv0, h', f'⟩; have n1 := hid h'; have nf := hid (below_frm0 HF.out f'); clear HD HF h' f'; have HD := n1; have HF := nf; clear n1 nf; have k0' := conv_of (h0.below HF.out (Nat.le_refl _)) rfl; have k1' := conv_of (h1.below HF.out (Nat.le_refl _)) rfl; have k2' := conv_of ((h1.take m).below HF.out (Nat.le_refl _)) hxl)))
    refine hK.out _ _ ?_ (fun hHeld2 => ?_)
    · ((try dsimp only); exact k1')
    clear hK K hHeld; have hHeld := hHeld2; clear hHeld2
    try simp only [Act.put, List.setIfInBounds_toArray, List.set_cons_zero, List.set_cons_succ]
    refine wpAnyH_take (i := 12) (oi := ⟨some 89, _, _, _, _, _⟩) (v := ?v31) rfl (by kernel_rfl) (by kernel_rfl) (by kernel_rfl) (fun _ _ _ h => h) (Or.inl ⟨by rfl, ?y31⟩) (by assumption) ?r31
    case y31 => (intro wx hSx; (try dsimp only at hSx); go_simp; (try with_reducible rfl))
    try simp only [Act.put, List.setIfInBounds_toArray, List.set_cons_zero, List.set_cons_succ]
    refine wpAnyH_take (i := 13) (oi := ⟨some 90, _, _, _, _, _⟩) (v := ?v32) rfl (by kernel_rfl) (by kernel_rfl) (by kernel_rfl) (fun _ _ _ h => h) (Or.inl ⟨by rfl, ?y32⟩) (by assumption) ?r32
    case y32 => (intro wx hSx; (try dsimp only at hSx); go_simp; (try with_reducible rfl))
    try simp only [Act.put, List.setIfInBounds_toArray, List.set_cons_zero, List.set_cons_succ]
    refine wpAnyH_take (i := 14) (oi := ⟨some 8, _, _, _, _, _⟩) (v := ?v33) rfl (by kernel_rfl) (by kernel_rfl) (by kernel_rfl) (fun _ _ _ h => h) (Or.inl ⟨by rfl, ?y33⟩) (by assumption) ?r33
    case y33 => (intro wx hSx; (try dsimp only at hSx); go_simp; (try with_reducible rfl))
    try simp only [Act.put, List.setIfInBounds_toArray, List.set_cons_zero, List.set_cons_succ]
    refine wpAnyH_done (by kernel_rfl) ?_ _
    go_wp2_with (fail)
    go_ret
    exact ⟨rfl, HF.out⟩
  · go_enter Try.func4, Try.ntmps4
    go_wp2_with (first
      | (go_at_call 6; (with_reducible refine (known_calls _).mono ?_); rintro e w' ⟨rfl, f1⟩; have HF := hid f1; clear f1)
      | (go_at_call 7; (with_reducible refine (DNew_calls _).mono ?_); rintro e w' ⟨rfl, h', f'⟩; have hb := hid HF.out.size; have nf := hid (below_next HF.out f'); clear HF f'; have HF := nf; clear nf; have HD := hid h'; clear h')
      | (go_at_call 9; (with_reducible refine (Write_ok0 HD.out (h0.below HF.out (Nat.le_refl _)) hl0).mono ?_); rintro e w' ⟨rfl, h', f'⟩; have n1 := hid h'; have nf := hid (below_frm1 HF.out f' hb.out); clear HD HF h' f'; have HD := n1; have HF := nf; clear n1 nf)
      | (go_at_call 9; (with_reducible refine (Write_ok1 HD.out (h0.below HF.out (Nat.le_refl _)) hl0).mono ?_); rintro e w' ⟨rfl, h', f'⟩; have n1 := hid h'; have nf := hid (below_frm1 HF.out f' hb.out); clear HD HF h' f'; have HD := n1; have HF := nf; clear n1 nf)
      | (go_at_call 8; (with_reducible refine (Arm_calls HD.out _).mono ?_); rintro e w' ⟨rfl, h', f'⟩; have n1 := hid h'; have nf := hid (below_frm1 HF.out f' hb.out); clear HD HF h' f'; have HD := n1; have HF := nf; clear n1 nf)
      | (go_at_call 9; (with_reducible refine (Write_cut1 HD.out (h1.below HF.out (Nat.le_refl _)) hl1 m hmh.out).mono ?_); rintro e w' ⟨rfl, h', f'⟩; have n1 := hid h'; have nf := hid (below_frm1 HF.out f' hb.out); clear HD HF h' f'; have HD := n1; have HF := nf; clear n1 nf))
    have G1 := hid (HD.out.frm (Frm.refl _ _).drew); have G2 := hid HF.out.drew; clear HD HF; have HD := G1; have HF := G2; clear G1 G2
    have k0' := conv_of (h0.below HF.out (Nat.le_refl _)) rfl; have k1' := conv_of (h1.below HF.out (Nat.le_refl _)) rfl; have k2' := conv_of ((h1.take m).below HF.out (Nat.le_refl _)) hxl
    refine wp_region_held_drew (S := fun wx => (convert 27 9 (.slice a1 m c1)).run Try.prog wx = .ok (.string (strOfNums (z1.take m))) wx ∧ (convert 27 9 (.slice a0 z0.length c0)).run Try.prog wx = .ok (.string (strOfNums z0)) wx) (by kernel_rfl) (by (try dsimp only); exact ⟨k2', k0'⟩) (fun hHeld => ?_)
    refine wpAnyH_take (i := 0) (oi := ⟨some 51, _, _, _, _, _⟩) (v := ?v34) rfl (by kernel_rfl) (by kernel_rfl) (by kernel_rfl) (fun _ _ _ h => h) (Or.inl ⟨by rfl, ?y34⟩) (by assumption) ?r34
    case y34 => (intro wx hSx; (try dsimp only at hSx); go_simp; (try with_reducible rfl))
    try simp only [Act.put, List.setIfInBounds_toArray, List.set_cons_zero, List.set_cons_succ]
    refine wpAnyH_take (i := 1) (oi := ⟨some 52, _, _, _, _, _⟩) (v := ?v35) rfl (by kernel_rfl) (by kernel_rfl) (by kernel_rfl) (fun _ _ _ h => h) (Or.inl ⟨by rfl, ?y35⟩) (by assumption) ?r35
    case y35 => (intro wx hSx; (try dsimp only at hSx); go_simp; (try with_reducible rfl))
    try simp only [Act.put, List.setIfInBounds_toArray, List.set_cons_zero, List.set_cons_succ]
    refine wpAnyH_take (i := 2) (oi := ⟨some 53, _, _, _, _, _⟩) (v := ?v36) rfl (by kernel_rfl) (by kernel_rfl) (by kernel_rfl) (fun _ _ _ h => h) (Or.inl ⟨by rfl, ?y36⟩) (by assumption) ?r36
    case y36 => (intro wx hSx; (try dsimp only at hSx); go_simp; (try with_reducible rfl))
    try simp only [Act.put, List.setIfInBounds_toArray, List.set_cons_zero, List.set_cons_succ]
    refine wpAnyH_take (i := 3) (oi := ⟨some 54, _, _, _, _, _⟩) (v := ?v37) rfl (by kernel_rfl) (by kernel_rfl) (by kernel_rfl) (fun _ _ _ h => h) (Or.inl ⟨by rfl, ?y37⟩) (by assumption) ?r37
    case y37 => (intro wx hSx; (try dsimp only at hSx); go_simp; (try with_reducible rfl))
    try simp only [Act.put, List.setIfInBounds_toArray, List.set_cons_zero, List.set_cons_succ]
    refine wpAnyH_take (i := 4) (oi := ⟨some 55, _, _, _, _, _⟩) (v := ?v38) rfl (by kernel_rfl) (by kernel_rfl) (by kernel_rfl) (fun _ _ _ h => h) (Or.inl ⟨by rfl, ?y38⟩) (by assumption) ?r38
    case y38 => (intro wx hSx; (try dsimp only at hSx); go_simp; (try with_reducible rfl))
    try simp only [Act.put, List.setIfInBounds_toArray, List.set_cons_zero, List.set_cons_succ]
    refine wpAnyH_take (i := 7) (oi := ⟨some 58, _, _, _, _, _⟩) (v := ?v39) rfl (by kernel_rfl) (by kernel_rfl) (by kernel_rfl) (fun _ _ _ h => h) (Or.inl ⟨by rfl, ?y39⟩) (by assumption) ?r39
    case y39 => (intro wx hSx; (try dsimp only at hSx); go_simp; (try with_reducible rfl))
    try simp only [Act.put, List.setIfInBounds_toArray, List.set_cons_zero, List.set_cons_succ]
    refine wpAnyH_take (i := 8) (oi := ⟨some 59, _, _, _, _, _⟩) (v := ?v40) rfl (by kernel_rfl) (by kernel_rfl) (by kernel_rfl) (fun _ _ _ h => h) (Or.inl ⟨by rfl, ?y40⟩) (by assumption) ?r40
    case y40 => (intro wx hSx; (try dsimp only at hSx); go_simp; (try with_reducible rfl))
    try simp only [Act.put, List.setIfInBounds_toArray, List.set_cons_zero, List.set_cons_succ]
    refine wpAnyH_take (i := 9) (oi := ⟨some 60, _, _, _, _, _⟩) (v := ?v41) rfl (by kernel_rfl) (by kernel_rfl) (by kernel_rfl) (fun _ _ _ h => h) (Or.inl ⟨by rfl, ?y41⟩) (by assumption) ?r41
    case y41 => (intro wx hSx; (try dsimp only at hSx); go_simp; (try with_reducible rfl))
    try simp only [Act.put, List.setIfInBounds_toArray, List.set_cons_zero, List.set_cons_succ]
    refine wpAnyH_take (i := 10) (oi := ⟨some 61, _, _, _, _, _⟩) (v := ?v42) rfl (by kernel_rfl) (by kernel_rfl) (by kernel_rfl) (fun _ _ _ h => h) (Or.inl ⟨by rfl, ?y42⟩) (by assumption) ?r42
    case y42 => (intro wx hSx; (try dsimp only at hSx); go_simp; (try with_reducible rfl))
    try simp only [Act.put, List.setIfInBounds_toArray, List.set_cons_zero, List.set_cons_succ]
    refine wpAnyH_ready (rs := [5]) (by kernel_rfl) (by simp) ?_
    refine AllReadyH.cons (o := ⟨some 56, _, _, _, _, _⟩) rfl (fun K hK => ?_) AllReadyH.nil
    go_simp
    go_wp2_with ((first
      | (go_at_call 10; (with_reducible refine (Read_conv1 HD.out).mono ?_); rintro e w' ⟨A, l, c, rfl, hcv1, h', f'⟩; have n1 := hid h'; have nf := hid (below_frm0 HF.out f'); clear HD HF h' f'; have HD := n1; have HF := nf; clear n1 nf; have k0' := conv_of (h0.below HF.out (Nat.le_refl _)) rfl; have k1' := conv_of (h1.below HF.out (Nat.le_refl _)) rfl; have k2' := conv_of ((h1.take m).below HF.out (Nat.le_refl _)) hxl)
      | (go_at_call 10; (with_reducible refine (Read_conv0 HD.out).mono ?_); rintro e w' ⟨A, l, c, rfl, hcv0, h', f'⟩; have n1 := hid h'; have nf := hid (below_frm0 HF.out f'); clear HD HF h' f'; have HD := n1; have HF := nf; clear n1 nf; have k0' := conv_of (h0.below HF.out (Nat.le_refl _)) rfl; have k1' := conv_of (h1.below HF.out (Nat.le_refl _)) rfl; have k2' := conv_of ((h1.take m).below HF.out (Nat.le_refl _)) hxl)
      | (go_at_call 11; (with_reducible refine (Armed_calls HD.out).mono ?_); rintro e w' ⟨rfl, rfl⟩)))
    refine hK.out _ _ ?_ (fun hHeld2 => ?_)
    · ((try dsimp only); exact ⟨k2', k0'⟩)
    clear hK K hHeld; have hHeld := hHeld2; clear hHeld2
    try simp only [Act.put, List.setIfInBounds_toArray, List.set_cons_zero, List.set_cons_succ]
    refine wpAnyH_ready (rs := [6]) (by kernel_rfl) (by simp) ?_
    refine AllReadyH.cons (o := ⟨some 57, _, _, _, _, _⟩) rfl (fun K hK => ?_) AllReadyH.nil
    go_simp
    go_wp2_with ((first
      | (go_at_call 10; (with_reducible refine (Read_conv1 HD.out).mono ?_); rintro e w' ⟨A, l, c, rfl, hcv1, h', f'⟩; have n1 := hid h'; have nf := hid (below_frm0 HF.out f'); clear HD HF h' f'; have HD := n1; have HF := nf; clear n1 nf; have k0' := conv_of (h0.below HF.out (Nat.le_refl _)) rfl; have k1' := conv_of (h1.below HF.out (Nat.le_refl _)) rfl; have k2' := conv_of ((h1.take m).below HF.out (Nat.le_refl _)) hxl)
      | (go_at_call 10; (with_reducible refine (Read_conv0 HD.out).mono ?_); rintro e w' ⟨A, l, c, rfl, hcv0, h', f'⟩; have n1 := hid h'; have nf := hid (below_frm0 HF.out f'); clear HD HF h' f'; have HD := n1; have HF := nf; clear n1 nf; have k0' := conv_of (h0.below HF.out (Nat.le_refl _)) rfl; have k1' := conv_of (h1.below HF.out (Nat.le_refl _)) rfl; have k2' := conv_of ((h1.take m).below HF.out (Nat.le_refl _)) hxl)
      | (go_at_call 11; (with_reducible refine (Armed_calls HD.out).mono ?_); rintro e w' ⟨rfl, rfl⟩)))
    refine hK.out _ _ ?_ (fun hHeld2 => ?_)
    · ((try dsimp only); exact ⟨k2', k0'⟩)
    clear hK K hHeld; have hHeld := hHeld2; clear hHeld2
    try simp only [Act.put, List.setIfInBounds_toArray, List.set_cons_zero, List.set_cons_succ]
    refine wpAnyH_take (i := 11) (oi := ⟨some 62, _, _, _, _, _⟩) (v := ?v43) rfl (by kernel_rfl) (by kernel_rfl) (by kernel_rfl) (fun _ _ _ h => h) (Or.inl ⟨by rfl, ?y43⟩) (by assumption) ?r43
    case y43 => (intro wx hSx; (try dsimp only at hSx); go_simp; (try with_reducible rfl))
    try simp only [Act.put, List.setIfInBounds_toArray, List.set_cons_zero, List.set_cons_succ]
    refine wpAnyH_take (i := 12) (oi := ⟨some 63, _, _, _, _, _⟩) (v := ?v44) rfl (by kernel_rfl) (by kernel_rfl) (by kernel_rfl) (fun _ _ _ h => h) (Or.inl ⟨by rfl, ?y44⟩) (by assumption) ?r44
    case y44 => (intro wx hSx; (try dsimp only at hSx); go_simp; (try with_reducible rfl))
    try simp only [Act.put, List.setIfInBounds_toArray, List.set_cons_zero, List.set_cons_succ]
    refine wpAnyH_take (i := 13) (oi := ⟨some 64, _, _, _, _, _⟩) (v := ?v45) rfl (by kernel_rfl) (by kernel_rfl) (by kernel_rfl) (fun _ _ _ h => h) (Or.inl ⟨by rfl, ?y45⟩) (by assumption) ?r45
    case y45 => (intro wx hSx; (try dsimp only at hSx); go_simp; (try with_reducible rfl))
    try simp only [Act.put, List.setIfInBounds_toArray, List.set_cons_zero, List.set_cons_succ]
    refine wpAnyH_take (i := 14) (oi := ⟨some 65, _, _, _, _, _⟩) (v := ?v46) rfl (by kernel_rfl) (by kernel_rfl) (by kernel_rfl) (fun _ _ _ h => h) (Or.inl ⟨by rfl, ?y46⟩) (by assumption) ?r46
    case y46 => (intro wx hSx; (try dsimp only at hSx); go_simp; (try with_reducible rfl))
    try simp only [Act.put, List.setIfInBounds_toArray, List.set_cons_zero, List.set_cons_succ]
    refine wpAnyH_take (i := 15) (oi := ⟨some 66, _, _, _, _, _⟩) (v := ?v47) rfl (by kernel_rfl) (by kernel_rfl) (by kernel_rfl) (fun _ _ _ h => h) (Or.inl ⟨by rfl, ?y47⟩) (by assumption) ?r47
    case y47 => (intro wx hSx; (try dsimp only at hSx); go_simp; (try with_reducible rfl))
    try simp only [Act.put, List.setIfInBounds_toArray, List.set_cons_zero, List.set_cons_succ]
    refine wpAnyH_take (i := 18) (oi := ⟨some 69, _, _, _, _, _⟩) (v := ?v48) rfl (by kernel_rfl) (by kernel_rfl) (by kernel_rfl) (fun _ _ _ h => h) (Or.inl ⟨by rfl, ?y48⟩) (by assumption) ?r48
    case y48 => (intro wx hSx; (try dsimp only at hSx); go_simp; (try with_reducible rfl))
    try simp only [Act.put, List.setIfInBounds_toArray, List.set_cons_zero, List.set_cons_succ]
    refine wpAnyH_take (i := 19) (oi := ⟨some 70, _, _, _, _, _⟩) (v := ?v49) rfl (by kernel_rfl) (by kernel_rfl) (by kernel_rfl) (fun _ _ _ h => h) (Or.inl ⟨by rfl, ?y49⟩) (by assumption) ?r49
    case y49 => (intro wx hSx; (try dsimp only at hSx); go_simp; (try with_reducible rfl))
    try simp only [Act.put, List.setIfInBounds_toArray, List.set_cons_zero, List.set_cons_succ]
    refine wpAnyH_ready (rs := [16]) (by kernel_rfl) (by simp) ?_
    refine AllReadyH.cons (o := ⟨some 67, _, _, _, _, _⟩) rfl (fun K hK => ?_) AllReadyH.nil
    go_simp
    go_wp2_with ((first
      | (go_at_call 10; (with_reducible refine (Read_conv1 HD.out).mono ?_); rintro e w' ⟨A, l, c, rfl, hcv1, h', f'⟩; have n1 := hid h'; have nf := hid (below_frm0 HF.out f'); clear HD HF h' f'; have HD := n1; have HF := nf; clear n1 nf; have k0' := conv_of (h0.below HF.out (Nat.le_refl _)) rfl; have k1' := conv_of (h1.below HF.out (Nat.le_refl _)) rfl; have k2' := conv_of ((h1.take m).below HF.out (Nat.le_refl _)) hxl)
      | (go_at_call 10; (with_reducible refine (Read_conv0 HD.out).mono ?_); rintro e w' ⟨A, l, c, rfl, hcv0, h', f'⟩; have n1 := hid h'; have nf := hid (below_frm0 HF.out f'); clear HD HF h' f'; have HD := n1; have HF := nf; clear n1 nf; have k0' := conv_of (h0.below HF.out (Nat.le_refl _)) rfl; have k1' := conv_of (h1.below HF.out (Nat.le_refl _)) rfl; have k2' := conv_of ((h1.take m).below HF.out (Nat.le_refl _)) hxl)
      | (go_at_call 11; (with_reducible refine (Armed_calls HD.out).mono ?_); rintro e w' ⟨rfl, rfl⟩)))
    refine hK.out _ _ ?_ (fun hHeld2 => ?_)
    · ((try dsimp only); exact ⟨k2', k0'⟩)
    clear hK K hHeld; have hHeld := hHeld2; clear hHeld2
    try simp only [Act.put, List.setIfInBounds_toArray, List.set_cons_zero, List.set_cons_succ]
    refine wpAnyH_ready (rs := [17]) (by kernel_rfl) (by simp) ?_
    refine AllReadyH.cons (o := ⟨some 68, _, _, _, _, _⟩) rfl (fun K hK => ?_) AllReadyH.nil
    go_simp
    go_wp2_with ((first
      | (go_at_call 10; (with_reducible refine (Read_conv1 HD.out).mono ?_); rintro e w' ⟨A, l, c, rfl, hcv1, h', f'⟩; have n1 := hid h'; have nf := hid (below_frm0 HF.out f'); clear HD HF h' f'; have HD := n1; have HF := nf; clear n1 nf; have k0' := conv_of (h0.below HF.out (Nat.le_refl _)) rfl; have k1' := conv_of (h1.below HF.out (Nat.le_refl _)) rfl; have k2' := conv_of ((h1.take m).below HF.out (Nat.le_refl _)) hxl)
      | (go_at_call 10; (with_reducible refine (Read_conv0 HD.out).mono ?_); rintro e w' ⟨A, l, c, rfl, hcv0, h', f'⟩; have n1 := hid h'; have nf := hid (below_frm0 HF.out f'); clear HD HF h' f'; have HD := n1; have HF := nf; clear n1 nf; have k0' := conv_of (h0.below HF.out (Nat.le_refl _)) rfl; have k1' := conv_of (h1.below HF.out (Nat.le_refl _)) rfl; have k2' := conv_of ((h1.take m).below HF.out (Nat.le_refl _)) hxl)
      | (go_at_call 11; (with_reducible refine (Armed_calls HD.out).mono ?_); rintro e w' ⟨rfl, rfl⟩)))
    refine hK.out _ _ ?_ (fun hHeld2 => ?_)
    · ((try dsimp only); exact ⟨k2', k0'⟩)
    clear hK K hHeld; have hHeld := hHeld2; clear hHeld2
    try simp only [Act.put, List.setIfInBounds_toArray, List.set_cons_zero, List.set_cons_succ]
    refine wpAnyH_take (i := 20) (oi := ⟨some 71, _, _, _, _, _⟩) (v := ?v50) rfl (by kernel_rfl) (by kernel_rfl) (by kernel_rfl) (fun _ _ _ h => h) (Or.inl ⟨by rfl, ?y50⟩) (by assumption) ?r50
    case y50 => (intro wx hSx; (try dsimp only at hSx); go_simp; (try with_reducible rfl))
    try simp only [Act.put, List.setIfInBounds_toArray, List.set_cons_zero, List.set_cons_succ]
    refine wpAnyH_take (i := 21) (oi := ⟨some 72, _, _, _, _, _⟩) (v := ?v51) rfl (by kernel_rfl) (by kernel_rfl) (by kernel_rfl) (fun _ _ _ h => h) (Or.inl ⟨by rfl, ?y51⟩) (by assumption) ?r51
    case y51 => (intro wx hSx; (try dsimp only at hSx); go_simp; (try with_reducible rfl))
    try simp only [Act.put, List.setIfInBounds_toArray, List.set_cons_zero, List.set_cons_succ]
    refine wpAnyH_take (i := 22) (oi := ⟨some 73, _, _, _, _, _⟩) (v := ?v52) rfl (by kernel_rfl) (by kernel_rfl) (by kernel_rfl) (fun _ _ _ h => h) (Or.inl ⟨by rfl, ?y52⟩) (by assumption) ?r52
    case y52 => (intro wx hSx; (try dsimp only at hSx); go_simp; (try with_reducible rfl))
    try simp only [Act.put, List.setIfInBounds_toArray, List.set_cons_zero, List.set_cons_succ]
    refine wpAnyH_take (i := 23) (oi := ⟨some 74, _, _, _, _, _⟩) (v := ?v53) rfl (by kernel_rfl) (by kernel_rfl) (by kernel_rfl) (fun _ _ _ h => h) (Or.inl ⟨by rfl, ?y53⟩) (by assumption) ?r53
    case y53 => (intro wx hSx; (try dsimp only at hSx); go_simp; (try with_reducible rfl))
    try simp only [Act.put, List.setIfInBounds_toArray, List.set_cons_zero, List.set_cons_succ]
    refine wpAnyH_ready (rs := [24]) (by kernel_rfl) (by simp) ?_
    refine AllReadyH.cons (o := ⟨some 75, _, _, _, _, _⟩) rfl (fun K hK => ?_) AllReadyH.nil
    go_simp
    go_wp2_with ((first
      | (go_at_call 10; (with_reducible refine (Read_conv1 HD.out).mono ?_); rintro e w' ⟨A, l, c, rfl, hcv1, h', f'⟩; have n1 := hid h'; have nf := hid (below_frm0 HF.out f'); clear HD HF h' f'; have HD := n1; have HF := nf; clear n1 nf; have k0' := conv_of (h0.below HF.out (Nat.le_refl _)) rfl; have k1' := conv_of (h1.below HF.out (Nat.le_refl _)) rfl; have k2' := conv_of ((h1.take m).below HF.out (Nat.le_refl _)) hxl)
      | (go_at_call 10; (with_reducible refine (Read_conv0 HD.out).mono ?_); rintro e w' ⟨A, l, c, rfl, hcv0, h', f'⟩; have n1 := hid h'; have nf := hid (below_frm0 HF.out f'); clear HD HF h' f'; have HD := n1; have HF := nf; clear n1 nf; have k0' := conv_of (h0.below HF.out (Nat.le_refl _)) rfl; have k1' := conv_of (h1.below HF.out (Nat.le_refl _)) rfl; have k2' := conv_of ((h1.take m).below HF.out (Nat.le_refl _)) hxl)
      | (go_at_call 11; (with_reducible refine (Armed_calls HD.out).mono ?_); rintro e w' ⟨rfl, rfl⟩)))
    refine hK.out _ _ ?_ (fun hHeld2 => ?_)
    · ((try dsimp only); exact ⟨k2', k0'⟩)
    clear hK K hHeld; have hHeld := hHeld2; clear hHeld2
    try simp only [Act.put, List.setIfInBounds_toArray, List.set_cons_zero, List.set_cons_succ]
    refine wpAnyH_take (i := 25) (oi := ⟨some 76, _, _, _, _, _⟩) (v := ?v54) rfl (by kernel_rfl) (by kernel_rfl) (by kernel_rfl) (fun _ _ _ h => h) (Or.inl ⟨by rfl, ?y54⟩) (by assumption) ?r54
    case y54 => (intro wx hSx; (try dsimp only at hSx); go_simp; (try with_reducible rfl))
    try simp only [Act.put, List.setIfInBounds_toArray, List.set_cons_zero, List.set_cons_succ]
    refine wpAnyH_done (by kernel_rfl) ?_ _
    go_wp2_with (fail)
    clear k0' k1' k2' hcv0 hcv1
    have G1 := hid (HD.out.frm (Frm.refl _ _).drew); have G2 := hid HF.out.drew; clear HD HF; have HD := G1; have HF := G2; clear G1 G2
    have k0' := conv_of (h0.below HF.out (Nat.le_refl _)) rfl; have k1' := conv_of (h1.below HF.out (Nat.le_refl _)) rfl; have k2' := conv_of ((h1.take m).below HF.out (Nat.le_refl _)) hxl
    refine wp_region_held_drew (S := fun wx => (convert 27 9 (.slice a1 z1.length c1)).run Try.prog wx = .ok (.string (strOfNums z1)) wx) (by kernel_rfl) (by (try dsimp only); exact k1') (fun hHeld => ?_)
    refine wpAnyH_take (i := 0) (oi := ⟨some 77, _, _, _, _, _⟩) (v := ?v55) rfl (by kernel_rfl) (by kernel_rfl) (by kernel_rfl) (fun _ _ _ h => h) (Or.inl ⟨by rfl, ?y55⟩) (by assumption) ?r55
    case y55 => (intro wx hSx; (try dsimp only at hSx); go_simp; (try with_reducible rfl))
    try simp only [Act.put, List.setIfInBounds_toArray, List.set_cons_zero, List.set_cons_succ]
    refine wpAnyH_take (i := 1) (oi := ⟨some 78, _, _, _, _, _⟩) (v := ?v56) rfl (by kernel_rfl) (by kernel_rfl) (by kernel_rfl) (fun _ _ _ h => h) (Or.inl ⟨by rfl, ?y56⟩) (by assumption) ?r56
    case y56 => (intro wx hSx; (try dsimp only at hSx); go_simp; (try with_reducible rfl))
    try simp only [Act.put, List.setIfInBounds_toArray, List.set_cons_zero, List.set_cons_succ]
    refine wpAnyH_take (i := 2) (oi := ⟨some 79, _, _, _, _, _⟩) (v := ?v57) rfl (by kernel_rfl) (by kernel_rfl) (by kernel_rfl) (fun _ _ _ h => h) (Or.inl ⟨by rfl, ?y57⟩) (by assumption) ?r57
    case y57 => (intro wx hSx; (try dsimp only at hSx); go_simp; (try with_reducible rfl))
    try simp only [Act.put, List.setIfInBounds_toArray, List.set_cons_zero, List.set_cons_succ]
    refine wpAnyH_ready (rs := [3]) (by kernel_rfl) (by simp) ?_
    refine AllReadyH.cons (o := ⟨some 80, _, _, _, _, _⟩) rfl (fun K hK => ?_) AllReadyH.nil
    go_simp
    go_wp2_with ((first
      | (go_at_call 9; (with_reducible refine (Write_ok1 HD.out (h1.below HF.out (Nat.le_refl _)) hl1).mono ?_); rintro e w' ⟨rfl, h', f'⟩; have n1 := hid h'; have nf := hid (below_frm1 HF.out f' hb.out); clear HD HF h' f'; have HD := n1; have HF := nf; clear n1 nf; have k0' := conv_of (h0.below HF.out (Nat.le_refl _)) rfl; have k1' := conv_of (h1.below HF.out (Nat.le_refl _)) rfl; have k2' := conv_of ((h1.take m).below HF.out (Nat.le_refl _)) hxl)
      | (go_at_call 10; (with_reducible refine (Read_conv1 HD.out).mono ?_); rintro e w' ⟨A, l, c, rfl, hcv1, h', f'⟩; have n1 := hid h'; have nf := hid (below_frm0 HF.out f'); clear HD HF h' f'; have HD := n1; have HF := nf; clear n1 nf; have k0' := conv_of (h0.below HF.out (Nat.le_refl _)) rfl; have k1' := conv_of (h1.below HF.out (Nat.le_refl _)) rfl; have k2' := conv_of ((h1.take m).below HF.out (Nat.le_refl _)) hxl)))
    refine hK.out _ _ ?_ (fun hHeld2 => ?_)
    · ((try dsimp only); exact k1')
    clear hK K hHeld; have hHeld := hHeld2; clear hHeld2
    try simp only [Act.put, List.setIfInBounds_toArray, List.set_cons_zero, List.set_cons_succ]
    refine wpAnyH_take (i := 4) (oi := ⟨some 81, _, _, _, _, _⟩) (v := ?v58) rfl (by kernel_rfl) (by kernel_rfl) (by kernel_rfl) (fun _ _ _ h => h) (Or.inl ⟨by rfl, ?y58⟩) (by assumption) ?r58
    case y58 => (intro wx hSx; (try dsimp only at hSx); go_simp; (try with_reducible rfl))
    try simp only [Act.put, List.setIfInBounds_toArray, List.set_cons_zero, List.set_cons_succ]
    refine wpAnyH_take (i := 5) (oi := ⟨some 82, _, _, _, _, _⟩) (v := ?v59) rfl (by kernel_rfl) (by kernel_rfl) (by kernel_rfl) (fun _ _ _ h => h) (Or.inl ⟨by rfl, ?y59⟩) (by assumption) ?r59
    case y59 => (intro wx hSx; (try dsimp only at hSx); go_simp; (try with_reducible rfl))
    try simp only [Act.put, List.setIfInBounds_toArray, List.set_cons_zero, List.set_cons_succ]
    refine wpAnyH_take (i := 6) (oi := ⟨some 83, _, _, _, _, _⟩) (v := ?v60) rfl (by kernel_rfl) (by kernel_rfl) (by kernel_rfl) (fun _ _ _ h => h) (Or.inl ⟨by rfl, ?y60⟩) (by assumption) ?r60
    case y60 => (intro wx hSx; (try dsimp only at hSx); go_simp; (try with_reducible rfl))
    try simp only [Act.put, List.setIfInBounds_toArray, List.set_cons_zero, List.set_cons_succ]
    refine wpAnyH_take (i := 7) (oi := ⟨some 84, _, _, _, _, _⟩) (v := ?v61) rfl (by kernel_rfl) (by kernel_rfl) (by kernel_rfl) (fun _ _ _ h => h) (Or.inl ⟨by rfl, ?y61⟩) (by assumption) ?r61
    case y61 => (intro wx hSx; (try dsimp only at hSx); go_simp; (try with_reducible rfl))
    try simp only [Act.put, List.setIfInBounds_toArray, List.set_cons_zero, List.set_cons_succ]
    refine wpAnyH_take (i := 10) (oi := ⟨some 87, _, _, _, _, _⟩) (v := ?v62) rfl (by kernel_rfl) (by kernel_rfl) (by kernel_rfl) (fun _ _ _ h => h) (Or.inl ⟨by rfl, ?y62⟩) (by assumption) ?r62
    case y62 => (intro wx hSx; (try dsimp only at hSx); go_simp; (try with_reducible rfl))
    try simp only [Act.put, List.setIfInBounds_toArray, List.set_cons_zero, List.set_cons_succ]
    refine wpAnyH_take (i := 11) (oi := ⟨some 88, _, _, _, _, _⟩) (v := ?v63) rfl (by kernel_rfl) (by kernel_rfl) (by kernel_rfl) (fun _ _ _ h => h) (Or.inl ⟨by rfl, ?y63⟩) (by assumption) ?r63
    case y63 => (intro wx hSx; (try dsimp only at hSx); go_simp; (try with_reducible rfl))
    try simp only [Act.put, List.setIfInBounds_toArray, List.set_cons_zero, List.set_cons_succ]
    refine wpAnyH_ready (rs := [8]) (by kernel_rfl) (by simp) ?_
    refine AllReadyH.cons (o := ⟨some 85, _, _, _, _, _⟩) rfl (fun K hK => ?_) AllReadyH.nil
    go_simp
    go_wp2_with ((first
      | (go_at_call 9; (with_reducible refine (Write_ok1 HD.out (h1.below HF.out (Nat.le_refl _)) hl1).mono ?_); rintro e w' ⟨rfl, h', f'⟩; have n1 := hid h'; have nf := hid (below_frm1 HF.out f' hb.out); clear HD HF h' f'; have HD := n1; have HF := nf; clear n1 nf; have k0' := conv_of (h0.below HF.out (Nat.le_refl _)) rfl; have k1' := conv_of (h1.below HF.out (Nat.le_refl _)) rfl; have k2' := conv_of ((h1.take m).below HF.out (Nat.le_refl _)) hxl)
      | (go_at_call 10; (with_reducible refine (Read_conv1 HD.out).mono ?_); rintro e w' ⟨A, l, c, rfl, hcv1, h', f'⟩; have n1 := hid h'; have nf := hid (below_frm0 HF.out f'); clear HD HF h' f'; have HD := n1; have HF := nf; clear n1 nf; have k0' := conv_of (h0.below HF.out (Nat.le_refl _)) rfl; have k1' := conv_of (h1.below HF.out (Nat.le_refl _)) rfl; have k2' := conv_of ((h1.take m).below HF.out (Nat.le_refl _)) hxl)))
    refine hK.out _ _ ?_ (fun hHeld2 => ?_)
    · ((try dsimp only); exact k1')
    clear hK K hHeld; have hHeld := hHeld2; clear hHeld2
    try simp only [Act.put, List.setIfInBounds_toArray, List.set_cons_zero, List.set_cons_succ]
    refine wpAnyH_ready (rs := [9]) (by kernel_rfl) (by simp) ?_
    refine AllReadyH.cons (o := ⟨some 86, _, _, _, _, _⟩) rfl (fun K hK => ?_) AllReadyH.nil
    go_simp
    go_wp2_with ((first
      | (go_at_call 9; (with_reducible refine (Write_ok1 HD.out (h1.below HF.out (Nat.le_refl _)) hl1).mono ?_); rintro e w' ⟨rfl, h', f'⟩; have n1 := hid h'; have nf := hid (below_frm1 HF.out f' hb.out); clear HD HF h' f'; have HD := n1; have HF := nf; clear n1 nf; have k0' := conv_of (h0.below HF.out (Nat.le_refl _)) rfl; have k1' := conv_of (h1.below HF.out (Nat.le_refl _)) rfl; have k2' := conv_of ((h1.take m).below HF.out (Nat.le_refl _)) hxl)
      | (go_at_call 10; (with_reducible refine (Read_conv1 HD.out).mono ?_); rintro e w' ⟨A, l, c, rfl, hcv1, h', f'⟩; have n1 := hid h'; have nf := hid (below_frm0 HF.out f'); clear HD HF h' f'; have HD := n1; have HF := nf; clear n1 nf; have k0' := conv_of (h0.below HF.out (Nat.le_refl _)) rfl; have k1' := conv_of (h1.below HF.out (Nat.le_refl _)) rfl; have k2' := conv_of ((h1.take m).below HF.out (Nat.le_refl _)) hxl)))
    refine hK.out _ _ ?_ (fun hHeld2 => ?_)
    · ((try dsimp only); exact k1')
    clear hK K hHeld; have hHeld := hHeld2; clear hHeld2
    try simp only [Act.put, List.setIfInBounds_toArray, List.set_cons_zero, List.set_cons_succ]
    refine wpAnyH_take (i := 12) (oi := ⟨some 89, _, _, _, _, _⟩) (v := ?v64) rfl (by kernel_rfl) (by kernel_rfl) (by kernel_rfl) (fun _ _ _ h => h) (Or.inl ⟨by rfl, ?y64⟩) (by assumption) ?r64
    case y64 => (intro wx hSx; (try dsimp only at hSx); go_simp; (try with_reducible rfl))
    try simp only [Act.put, List.setIfInBounds_toArray, List.set_cons_zero, List.set_cons_succ]
    refine wpAnyH_take (i := 13) (oi := ⟨some 90, _, _, _, _, _⟩) (v := ?v65) rfl (by kernel_rfl) (by kernel_rfl) (by kernel_rfl) (fun _ _ _ h => h) (Or.inl ⟨by rfl, ?y65⟩) (by assumption) ?r65
    case y65 => (intro wx hSx; (try dsimp only at hSx); go_simp; (try with_reducible rfl))
    try simp only [Act.put, List.setIfInBounds_toArray, List.set_cons_zero, List.set_cons_succ]
    refine wpAnyH_take (i := 14) (oi := ⟨some 8, _, _, _, _, _⟩) (v := ?v66) rfl (by kernel_rfl) (by kernel_rfl) (by kernel_rfl) (fun _ _ _ h => h) (Or.inl ⟨by rfl, ?y66⟩) (by assumption) ?r66
    case y66 => (intro wx hSx; (try dsimp only at hSx); go_simp; (try with_reducible rfl))
    try simp only [Act.put, List.setIfInBounds_toArray, List.set_cons_zero, List.set_cons_succ]
    refine wpAnyH_done (by kernel_rfl) ?_ _
    go_wp2_with (fail)
    go_ret
    exact ⟨rfl, HF.out⟩
end Go.Proofs.Ytlcdldddghhdjaa
