/- DiskPlays, walked: every row of writes, some of which the power cuts off. -/
import Derived.Test.YtlcdldddghhdjaaDiskRound
namespace Go.Proofs.Ytlcdldddghhdjaa
open Go.RowKit Go.ChangeShapes
set_option linter.unusedSimpArgs false
set_option maxRecDepth 100000 in
set_option maxHeartbeats 16000000 in
theorem DiskPlays_walk (a0 : Option Addr) (c0 : Nat) (z0 : List (Int × Int × Int × (List Int) × Unit)) (w : World) (h1 : SlK c29 w a0 c0 z0) :
    Calls Try.prog 3 #[.slice a0 z0.length c0] w fun e w' => e = .returned (.bool true) ∧ Below w.heap.size w w' := by
  have hle := h1.le
  have hsm := h1.small
  by_cases hlen : z0.length > 40
  · go_enter Try.func3, Try.ntmps3
    go_wp2_with (go_at_call 6; (with_reducible refine (known_calls _).mono ?_); rintro e w1 ⟨rfl, f1⟩)
    go_ret
    exact ⟨rfl, f1⟩
  go_enter Try.func3, Try.ntmps3
  go_wp2_with (first
      | (go_at_call 6; (with_reducible refine (known_calls _).mono ?_); rintro e w1 ⟨rfl, f1⟩)
      | (go_at_call 7; (with_reducible refine (DNew_calls _).mono ?_); rintro e w2 ⟨rfl, h2, f2⟩))
  generalize hwz : w2.alloc (Obj.cells _ 26) = wz
  have st0 : St w wz w1.heap.size w2.heap.size [] [] false 0 [] [] := hwz ▸ St.begin f1 h2 f2
  clear h2 f2 f1 hwz
  generalize w2.heap.size = g at *
  generalize w1.heap.size = b at *
  go_loopw [5, 6] (fun am i wr => ∃ (k : Nat) (x0 x1 : List Int) (ar : Bool) (n : Int), k ≤ z0.length ∧ (ar = true ∧ am = .int .i64 n ∨ ar = false ∧ am = .int .i64 (-1)) ∧ i = .int .i64 k ∧ St w wr b g x0 x1 ar n x0 x1) (fun _ i _ => z0.length - (intOf i).toNat)
  case atStart => exact ⟨0, [], [], false, 0, by omega, .inr ⟨rfl, rfl⟩, rfl, st0⟩
  case round =>
    clear st0
    obtain ⟨k, x0, x1, ar, n, hk, ham, rfl, hst⟩ := hrel
    by_cases hlt : k < z0.length
    · obtain ⟨ba, off, rfl, hba, hc⟩ := h1.at_ (by omega)
      obtain ⟨x, hx⟩ : ∃ x, z0[k]? = some x := ⟨z0[k], List.getElem?_eq_getElem hlt⟩
      obtain ⟨cs, hkx, hcx⟩ := hc k x hx
      rw [cells29] at hcx
      obtain ⟨_, g0, y0, g1, y1, g2, y2, ⟨sa, sn, g3, s3⟩⟩ := k29 hkx
      have hf := hst.bel
      have q0 : wr.cell? ⟨ba, off + k * 4, none⟩ = _ := (hf.cell (p := ⟨ba, _, none⟩) hba).trans (hcx 0 _ g0)
      have q1 : wr.cell? ⟨ba, off + k * 4 + 1, none⟩ = _ := (hf.cell (p := ⟨ba, _, none⟩) hba).trans (hcx 1 _ g1)
      have q2 : wr.cell? ⟨ba, off + k * 4 + 2, none⟩ = _ := (hf.cell (p := ⟨ba, _, none⟩) hba).trans (hcx 2 _ g2)
      have q3 : wr.cell? ⟨ba, off + k * 4 + 3, none⟩ = _ := (hf.cell (p := ⟨ba, _, none⟩) hba).trans (hcx 3 _ g3)
      have hB := s3.ints
      clear hc hcx hkx g0 g1 g2 g3 y0 y1 y2 h1 hx s3
      obtain ⟨wh, ae, nn, bs, _⟩ := x
      dsimp only at *
      have hbl := hB.le
      have hbs := hB.small
      have HB := hid hB; clear hB
      have n0 := hst.dk.n0
      have HS := hid (hst.round [Value.int .i64 wh, Value.int .i64 ae, Value.int .i64 nn, Value.slice sa bs.length sn])
      clear hf
      have HF := hid hst; clear hst
      by_cases hbig : bs.length > 300
      · go_wp2_with (fail)
        go_ret
        exact ⟨rfl, HS.out.bel⟩
      by_cases hwh : wh > 2
      · clear HF
        rcases ham with ⟨rfl, rfl⟩ | ⟨rfl, rfl⟩
        · have e1 : (if nn < 0 then 0 else nn) = max nn 0 := by omega
          have e2 : 0 ≤ max nn 0 := by omega
          have u0 := HS.out.cells 0; have u2 := HS.out.cells 2; have u3 := HS.out.cells 3
          simp only [List.getElem?_cons_succ, List.getElem?_cons_zero] at u0 u2 u3
          go_wp2_with ((go_at_call 8; (with_reducible refine (Arm_calls HS.out.dk _).mono ?_); rintro e w' ⟨rfl, h', f'⟩; have nS := hid (HS.out.disk h' f'); clear HS; have HS := nS; clear nS; clear h' f'; have u2' := HS.out.cells 2; (simp only [List.getElem?_cons_succ, List.getElem?_cons_zero] at u2')))
          clear u0 u2 u2' u3
          generalize wr.heap.size = sb at *
          refine wp_region_held_drew (S := fun wx => wx.cell? ⟨g, 0, none⟩ = some (.string (strOfNums x0)) ∧ wx.cell? ⟨g, 1, none⟩ = some (.string (strOfNums x1))) (by kernel_rfl) (by (try dsimp only); exact HS.out.drew.keepg) (fun hHeld => ?_)
          have nS := hid (HS.out.drew); clear HS; have HS := nS; clear nS
          refine wpAnyH_take (i := 0) (oi := ⟨some 76, _, _, _, _, _⟩) (v := ?v1) rfl (by kernel_rfl) (by kernel_rfl) (by kernel_rfl) (fun _ _ _ h => h) (Or.inl ⟨by rfl, ?y1⟩) (by assumption) ?r1
          case y1 => (intro wx hSx; (try dsimp only at hSx); go_simp; (try with_reducible rfl))
          try simp only [Act.put, List.setIfInBounds_toArray, List.set_cons_zero, List.set_cons_succ]
          refine wpAnyH_take (i := 3) (oi := ⟨some 79, _, _, _, _, _⟩) (v := ?v2) rfl (by kernel_rfl) (by kernel_rfl) (by kernel_rfl) (fun _ _ _ h => h) (Or.inl ⟨by rfl, ?y2⟩) (by assumption) ?r2
          case y2 => (intro wx hSx; (try dsimp only at hSx); go_simp; (try with_reducible rfl))
          try simp only [Act.put, List.setIfInBounds_toArray, List.set_cons_zero, List.set_cons_succ]
          refine wpAnyH_take (i := 4) (oi := ⟨some 80, _, _, _, _, _⟩) (v := ?v3) rfl (by kernel_rfl) (by kernel_rfl) (by kernel_rfl) (fun _ _ _ h => h) (Or.inl ⟨by rfl, ?y3⟩) (by assumption) ?r3
          case y3 => (intro wx hSx; (try dsimp only at hSx); go_simp; (try with_reducible rfl))
          try simp only [Act.put, List.setIfInBounds_toArray, List.set_cons_zero, List.set_cons_succ]
          refine wpAnyH_ready (rs := [1]) (by kernel_rfl) (by simp) ?_
          refine AllReadyH.cons (o := ⟨some 77, _, _, _, _, _⟩) rfl (fun K hK => ?_) AllReadyH.nil
          go_simp
          go_wp2_with ((go_at_call 10; (with_reducible refine (Read_conv0 HS.out.dk).mono ?_); rintro e w' ⟨A, l, c, rfl, hcv0, h', f'⟩; have nS := hid (HS.out.quiet f'); clear HS; have HS := nS; clear nS; clear h' f'))
          refine hK.out _ _ ?_ (fun hHeld2 => ?_)
          · ((try dsimp only); exact HS.out.keepg)
          clear hK K hHeld; have hHeld := hHeld2; clear hHeld2
          try simp only [Act.put, List.setIfInBounds_toArray, List.set_cons_zero, List.set_cons_succ]
          refine wpAnyH_ready (rs := [2]) (by kernel_rfl) (by simp) ?_
          refine AllReadyH.cons (o := ⟨some 78, _, _, _, _, _⟩) rfl (fun K hK => ?_) AllReadyH.nil
          go_simp
          go_wp2_with (fail)
          refine hK.out _ _ ?_ (fun hHeld2 => ?_)
          · ((try dsimp only); exact HS.out.keepg)
          clear hK K hHeld; have hHeld := hHeld2; clear hHeld2
          try simp only [Act.put, List.setIfInBounds_toArray, List.set_cons_zero, List.set_cons_succ]
          refine wpAnyH_take (i := 5) (oi := ⟨some 81, _, _, _, _, _⟩) (v := ?v4) rfl (by kernel_rfl) (by kernel_rfl) (by kernel_rfl) (fun _ _ _ h => h) (Or.inl ⟨by rfl, ?y4⟩) (by assumption) ?r4
          case y4 => (intro wx hSx; (try dsimp only at hSx); go_simp; (try with_reducible rfl))
          try simp only [Act.put, List.setIfInBounds_toArray, List.set_cons_zero, List.set_cons_succ]
          refine wpAnyH_take (i := 6) (oi := ⟨some 82, _, _, _, _, _⟩) (v := ?v5) rfl (by kernel_rfl) (by kernel_rfl) (by kernel_rfl) (fun _ _ _ h => h) (Or.inl ⟨by rfl, ?y5⟩) (by assumption) ?r5
          case y5 => (intro wx hSx; (try dsimp only at hSx); go_simp; (try with_reducible rfl))
          try simp only [Act.put, List.setIfInBounds_toArray, List.set_cons_zero, List.set_cons_succ]
          refine wpAnyH_take (i := 7) (oi := ⟨some 83, _, _, _, _, _⟩) (v := ?v6) rfl (by kernel_rfl) (by kernel_rfl) (by kernel_rfl) (fun _ _ _ h => h) (Or.inl ⟨by rfl, ?y6⟩) (by assumption) ?r6
          case y6 => (intro wx hSx; (try dsimp only at hSx); go_simp; (try with_reducible rfl))
          try simp only [Act.put, List.setIfInBounds_toArray, List.set_cons_zero, List.set_cons_succ]
          refine wpAnyH_take (i := 10) (oi := ⟨some 86, _, _, _, _, _⟩) (v := ?v7) rfl (by kernel_rfl) (by kernel_rfl) (by kernel_rfl) (fun _ _ _ h => h) (Or.inl ⟨by rfl, ?y7⟩) (by assumption) ?r7
          case y7 => (intro wx hSx; (try dsimp only at hSx); go_simp; (try with_reducible rfl))
          try simp only [Act.put, List.setIfInBounds_toArray, List.set_cons_zero, List.set_cons_succ]
          refine wpAnyH_take (i := 11) (oi := ⟨some 87, _, _, _, _, _⟩) (v := ?v8) rfl (by kernel_rfl) (by kernel_rfl) (by kernel_rfl) (fun _ _ _ h => h) (Or.inl ⟨by rfl, ?y8⟩) (by assumption) ?r8
          case y8 => (intro wx hSx; (try dsimp only at hSx); go_simp; (try with_reducible rfl))
          try simp only [Act.put, List.setIfInBounds_toArray, List.set_cons_zero, List.set_cons_succ]
          refine wpAnyH_ready (rs := [8]) (by kernel_rfl) (by simp) ?_
          refine AllReadyH.cons (o := ⟨some 84, _, _, _, _, _⟩) rfl (fun K hK => ?_) AllReadyH.nil
          go_simp
          go_wp2_with ((go_at_call 10; (with_reducible refine (Read_conv1 HS.out.dk).mono ?_); rintro e w' ⟨A, l, c, rfl, hcv1, h', f'⟩; have nS := hid (HS.out.quiet f'); clear HS; have HS := nS; clear nS; clear h' f'))
          refine hK.out _ _ ?_ (fun hHeld2 => ?_)
          · ((try dsimp only); exact HS.out.keepg)
          clear hK K hHeld; have hHeld := hHeld2; clear hHeld2
          try simp only [Act.put, List.setIfInBounds_toArray, List.set_cons_zero, List.set_cons_succ]
          refine wpAnyH_ready (rs := [9]) (by kernel_rfl) (by simp) ?_
          refine AllReadyH.cons (o := ⟨some 85, _, _, _, _, _⟩) rfl (fun K hK => ?_) AllReadyH.nil
          go_simp
          go_wp2_with (fail)
          refine hK.out _ _ ?_ (fun hHeld2 => ?_)
          · ((try dsimp only); exact HS.out.keepg)
          clear hK K hHeld; have hHeld := hHeld2; clear hHeld2
          try simp only [Act.put, List.setIfInBounds_toArray, List.set_cons_zero, List.set_cons_succ]
          refine wpAnyH_take (i := 12) (oi := ⟨some 88, _, _, _, _, _⟩) (v := ?v9) rfl (by kernel_rfl) (by kernel_rfl) (by kernel_rfl) (fun _ _ _ h => h) (Or.inl ⟨by rfl, ?y9⟩) (by assumption) ?r9
          case y9 => (intro wx hSx; (try dsimp only at hSx); go_simp; (try with_reducible rfl))
          try simp only [Act.put, List.setIfInBounds_toArray, List.set_cons_zero, List.set_cons_succ]
          refine wpAnyH_take (i := 13) (oi := ⟨some 89, _, _, _, _, _⟩) (v := ?v10) rfl (by kernel_rfl) (by kernel_rfl) (by kernel_rfl) (fun _ _ _ h => h) (Or.inl ⟨by rfl, ?y10⟩) (by assumption) ?r10
          case y10 => (intro wx hSx; (try dsimp only at hSx); go_simp; (try with_reducible rfl))
          try simp only [Act.put, List.setIfInBounds_toArray, List.set_cons_zero, List.set_cons_succ]
          refine wpAnyH_take (i := 14) (oi := ⟨some 90, _, _, _, _, _⟩) (v := ?v11) rfl (by kernel_rfl) (by kernel_rfl) (by kernel_rfl) (fun _ _ _ h => h) (Or.inl ⟨by rfl, ?y11⟩) (by assumption) ?r11
          case y11 => (intro wx hSx; (try dsimp only at hSx); go_simp; (try with_reducible rfl))
          try simp only [Act.put, List.setIfInBounds_toArray, List.set_cons_zero, List.set_cons_succ]
          refine wpAnyH_take (i := 15) (oi := ⟨some 91, _, _, _, _, _⟩) (v := ?v12) rfl (by kernel_rfl) (by kernel_rfl) (by kernel_rfl) (fun _ _ _ h => h) (Or.inl ⟨by rfl, ?y12⟩) (by assumption) ?r12
          case y12 => (intro wx hSx; (try dsimp only at hSx); go_simp; (try with_reducible rfl))
          try simp only [Act.put, List.setIfInBounds_toArray, List.set_cons_zero, List.set_cons_succ]
          refine wpAnyH_ready (rs := [16]) (by kernel_rfl) (by simp) ?_
          refine AllReadyH.cons (o := ⟨some 92, _, _, _, _, _⟩) rfl (fun K hK => ?_) AllReadyH.nil
          go_simp
          go_wp2_with ((go_at_call 10; (with_reducible refine (Read_two HS.out.dk).mono ?_); rintro e w' ⟨A, c, rfl, f'⟩; have nS := hid (HS.out.quiet f'); clear HS; have HS := nS; clear nS; clear f'))
          refine hK.out _ _ ?_ (fun hHeld2 => ?_)
          · ((try dsimp only); exact HS.out.keepg)
          clear hK K hHeld; have hHeld := hHeld2; clear hHeld2
          try simp only [Act.put, List.setIfInBounds_toArray, List.set_cons_zero, List.set_cons_succ]
          refine wpAnyH_take (i := 17) (oi := ⟨some 93, _, _, _, _, _⟩) (v := ?v13) rfl (by kernel_rfl) (by kernel_rfl) (by kernel_rfl) (fun _ _ _ h => h) (Or.inl ⟨by rfl, ?y13⟩) (by assumption) ?r13
          case y13 => (intro wx hSx; (try dsimp only at hSx); go_simp; (try with_reducible rfl))
          try simp only [Act.put, List.setIfInBounds_toArray, List.set_cons_zero, List.set_cons_succ]
          refine wpAnyH_take (i := 18) (oi := ⟨some 94, _, _, _, _, _⟩) (v := ?v14) rfl (by kernel_rfl) (by kernel_rfl) (by kernel_rfl) (fun _ _ _ h => h) (Or.inl ⟨by rfl, ?y14⟩) (by assumption) ?r14
          case y14 => (intro wx hSx; (try dsimp only at hSx); go_simp; (try with_reducible rfl))
          try simp only [Act.put, List.setIfInBounds_toArray, List.set_cons_zero, List.set_cons_succ]
          refine wpAnyH_take (i := 19) (oi := ⟨some 95, _, _, _, _, _⟩) (v := ?v15) rfl (by kernel_rfl) (by kernel_rfl) (by kernel_rfl) (fun _ _ _ h => h) (Or.inl ⟨by rfl, ?y15⟩) (by assumption) ?r15
          case y15 => (intro wx hSx; (try dsimp only at hSx); go_simp; (try with_reducible rfl))
          try simp only [Act.put, List.setIfInBounds_toArray, List.set_cons_zero, List.set_cons_succ]
          refine wpAnyH_take (i := 20) (oi := ⟨some 96, _, _, _, _, _⟩) (v := ?v16) rfl (by kernel_rfl) (by kernel_rfl) (by kernel_rfl) (fun _ _ _ h => h) (Or.inl ⟨by rfl, ?y16⟩) (by assumption) ?r16
          case y16 => (intro wx hSx; (try dsimp only at hSx); go_simp; (try with_reducible rfl))
          try simp only [Act.put, List.setIfInBounds_toArray, List.set_cons_zero, List.set_cons_succ]
          refine wpAnyH_take (i := 21) (oi := ⟨some 97, _, _, _, _, _⟩) (v := ?v17) rfl (by kernel_rfl) (by kernel_rfl) (by kernel_rfl) (fun _ _ _ h => h) (Or.inl ⟨by rfl, ?y17⟩) (by assumption) ?r17
          case y17 => (intro wx hSx; (try dsimp only at hSx); go_simp; (try with_reducible rfl))
          try simp only [Act.put, List.setIfInBounds_toArray, List.set_cons_zero, List.set_cons_succ]
          refine wpAnyH_take (i := 23) (oi := ⟨some 99, _, _, _, _, _⟩) (v := ?v18) rfl (by kernel_rfl) (by kernel_rfl) (by kernel_rfl) (fun _ _ _ h => h) (Or.inl ⟨by rfl, ?y18⟩) (by assumption) ?r18
          case y18 => (intro wx hSx; (try dsimp only at hSx); go_simp; (try with_reducible rfl))
          try simp only [Act.put, List.setIfInBounds_toArray, List.set_cons_zero, List.set_cons_succ]
          refine wpAnyH_take (i := 24) (oi := ⟨some 100, _, _, _, _, _⟩) (v := ?v19) rfl (by kernel_rfl) (by kernel_rfl) (by kernel_rfl) (fun _ _ _ h => h) (Or.inl ⟨by rfl, ?y19⟩) (by assumption) ?r19
          case y19 => (intro wx hSx; (try dsimp only at hSx); go_simp; (try with_reducible rfl))
          try simp only [Act.put, List.setIfInBounds_toArray, List.set_cons_zero, List.set_cons_succ]
          refine wpAnyH_ready (rs := [22]) (by kernel_rfl) (by simp) ?_
          refine AllReadyH.cons (o := ⟨some 98, _, _, _, _, _⟩) rfl (fun K hK => ?_) AllReadyH.nil
          go_simp
          go_wp2_with ((go_at_call 11; (with_reducible refine (Armed_calls HS.out.dk).mono ?_); rintro e w' ⟨rfl, rfl⟩))
          refine hK.out _ _ ?_ (fun hHeld2 => ?_)
          · ((try dsimp only); exact HS.out.keepg)
          clear hK K hHeld; have hHeld := hHeld2; clear hHeld2
          try simp only [Act.put, List.setIfInBounds_toArray, List.set_cons_zero, List.set_cons_succ]
          refine wpAnyH_take (i := 25) (oi := ⟨some 101, _, _, _, _, _⟩) (v := ?v20) rfl (by kernel_rfl) (by kernel_rfl) (by kernel_rfl) (fun _ _ _ h => h) (Or.inl ⟨by rfl, ?y20⟩) (by assumption) ?r20
          case y20 => (intro wx hSx; (try dsimp only at hSx); go_simp; (try with_reducible rfl))
          try simp only [Act.put, List.setIfInBounds_toArray, List.set_cons_zero, List.set_cons_succ]
          refine wpAnyH_take (i := 26) (oi := ⟨some 102, _, _, _, _, _⟩) (v := ?v21) rfl (by kernel_rfl) (by kernel_rfl) (by kernel_rfl) (fun _ _ _ h => h) (Or.inl ⟨by rfl, ?y21⟩) (by assumption) ?r21
          case y21 => (intro wx hSx; (try dsimp only at hSx); go_simp; (try with_reducible rfl))
          try simp only [Act.put, List.setIfInBounds_toArray, List.set_cons_zero, List.set_cons_succ]
          refine wpAnyH_done (by kernel_rfl) ?_ _
          go_wp2_with (fail)
          go_roundw
          case rel => exact ⟨k + 1, x0, x1, true, (max nn 0), by omega, .inl ⟨rfl, rfl⟩, by go_num, HS.out.back⟩
          case measure => simp [intOf]; omega
        · have e1 : (if nn < 0 then 0 else nn) = max nn 0 := by omega
          have e2 : 0 ≤ max nn 0 := by omega
          have u0 := HS.out.cells 0; have u2 := HS.out.cells 2; have u3 := HS.out.cells 3
          simp only [List.getElem?_cons_succ, List.getElem?_cons_zero] at u0 u2 u3
          go_wp2_with ((go_at_call 8; (with_reducible refine (Arm_calls HS.out.dk _).mono ?_); rintro e w' ⟨rfl, h', f'⟩; have nS := hid (HS.out.disk h' f'); clear HS; have HS := nS; clear nS; clear h' f'; have u2' := HS.out.cells 2; (simp only [List.getElem?_cons_succ, List.getElem?_cons_zero] at u2')))
          clear u0 u2 u2' u3
          generalize wr.heap.size = sb at *
          refine wp_region_held_drew (S := fun wx => wx.cell? ⟨g, 0, none⟩ = some (.string (strOfNums x0)) ∧ wx.cell? ⟨g, 1, none⟩ = some (.string (strOfNums x1))) (by kernel_rfl) (by (try dsimp only); exact HS.out.drew.keepg) (fun hHeld => ?_)
          have nS := hid (HS.out.drew); clear HS; have HS := nS; clear nS
          refine wpAnyH_take (i := 0) (oi := ⟨some 76, _, _, _, _, _⟩) (v := ?v78) rfl (by kernel_rfl) (by kernel_rfl) (by kernel_rfl) (fun _ _ _ h => h) (Or.inl ⟨by rfl, ?y78⟩) (by assumption) ?r78
          case y78 => (intro wx hSx; (try dsimp only at hSx); go_simp; (try with_reducible rfl))
          try simp only [Act.put, List.setIfInBounds_toArray, List.set_cons_zero, List.set_cons_succ]
          refine wpAnyH_take (i := 3) (oi := ⟨some 79, _, _, _, _, _⟩) (v := ?v79) rfl (by kernel_rfl) (by kernel_rfl) (by kernel_rfl) (fun _ _ _ h => h) (Or.inl ⟨by rfl, ?y79⟩) (by assumption) ?r79
          case y79 => (intro wx hSx; (try dsimp only at hSx); go_simp; (try with_reducible rfl))
          try simp only [Act.put, List.setIfInBounds_toArray, List.set_cons_zero, List.set_cons_succ]
          refine wpAnyH_take (i := 4) (oi := ⟨some 80, _, _, _, _, _⟩) (v := ?v80) rfl (by kernel_rfl) (by kernel_rfl) (by kernel_rfl) (fun _ _ _ h => h) (Or.inl ⟨by rfl, ?y80⟩) (by assumption) ?r80
          case y80 => (intro wx hSx; (try dsimp only at hSx); go_simp; (try with_reducible rfl))
          try simp only [Act.put, List.setIfInBounds_toArray, List.set_cons_zero, List.set_cons_succ]
          refine wpAnyH_ready (rs := [1]) (by kernel_rfl) (by simp) ?_
          refine AllReadyH.cons (o := ⟨some 77, _, _, _, _, _⟩) rfl (fun K hK => ?_) AllReadyH.nil
          go_simp
          go_wp2_with ((go_at_call 10; (with_reducible refine (Read_conv0 HS.out.dk).mono ?_); rintro e w' ⟨A, l, c, rfl, hcv0, h', f'⟩; have nS := hid (HS.out.quiet f'); clear HS; have HS := nS; clear nS; clear h' f'))
          refine hK.out _ _ ?_ (fun hHeld2 => ?_)
          · ((try dsimp only); exact HS.out.keepg)
          clear hK K hHeld; have hHeld := hHeld2; clear hHeld2
          try simp only [Act.put, List.setIfInBounds_toArray, List.set_cons_zero, List.set_cons_succ]
          refine wpAnyH_ready (rs := [2]) (by kernel_rfl) (by simp) ?_
          refine AllReadyH.cons (o := ⟨some 78, _, _, _, _, _⟩) rfl (fun K hK => ?_) AllReadyH.nil
          go_simp
          go_wp2_with (fail)
          refine hK.out _ _ ?_ (fun hHeld2 => ?_)
          · ((try dsimp only); exact HS.out.keepg)
          clear hK K hHeld; have hHeld := hHeld2; clear hHeld2
          try simp only [Act.put, List.setIfInBounds_toArray, List.set_cons_zero, List.set_cons_succ]
          refine wpAnyH_take (i := 5) (oi := ⟨some 81, _, _, _, _, _⟩) (v := ?v81) rfl (by kernel_rfl) (by kernel_rfl) (by kernel_rfl) (fun _ _ _ h => h) (Or.inl ⟨by rfl, ?y81⟩) (by assumption) ?r81
          case y81 => (intro wx hSx; (try dsimp only at hSx); go_simp; (try with_reducible rfl))
          try simp only [Act.put, List.setIfInBounds_toArray, List.set_cons_zero, List.set_cons_succ]
          refine wpAnyH_take (i := 6) (oi := ⟨some 82, _, _, _, _, _⟩) (v := ?v82) rfl (by kernel_rfl) (by kernel_rfl) (by kernel_rfl) (fun _ _ _ h => h) (Or.inl ⟨by rfl, ?y82⟩) (by assumption) ?r82
          case y82 => (intro wx hSx; (try dsimp only at hSx); go_simp; (try with_reducible rfl))
          try simp only [Act.put, List.setIfInBounds_toArray, List.set_cons_zero, List.set_cons_succ]
          refine wpAnyH_take (i := 7) (oi := ⟨some 83, _, _, _, _, _⟩) (v := ?v83) rfl (by kernel_rfl) (by kernel_rfl) (by kernel_rfl) (fun _ _ _ h => h) (Or.inl ⟨by rfl, ?y83⟩) (by assumption) ?r83
          case y83 => (intro wx hSx; (try dsimp only at hSx); go_simp; (try with_reducible rfl))
          try simp only [Act.put, List.setIfInBounds_toArray, List.set_cons_zero, List.set_cons_succ]
          refine wpAnyH_take (i := 10) (oi := ⟨some 86, _, _, _, _, _⟩) (v := ?v84) rfl (by kernel_rfl) (by kernel_rfl) (by kernel_rfl) (fun _ _ _ h => h) (Or.inl ⟨by rfl, ?y84⟩) (by assumption) ?r84
          case y84 => (intro wx hSx; (try dsimp only at hSx); go_simp; (try with_reducible rfl))
          try simp only [Act.put, List.setIfInBounds_toArray, List.set_cons_zero, List.set_cons_succ]
          refine wpAnyH_take (i := 11) (oi := ⟨some 87, _, _, _, _, _⟩) (v := ?v85) rfl (by kernel_rfl) (by kernel_rfl) (by kernel_rfl) (fun _ _ _ h => h) (Or.inl ⟨by rfl, ?y85⟩) (by assumption) ?r85
          case y85 => (intro wx hSx; (try dsimp only at hSx); go_simp; (try with_reducible rfl))
          try simp only [Act.put, List.setIfInBounds_toArray, List.set_cons_zero, List.set_cons_succ]
          refine wpAnyH_ready (rs := [8]) (by kernel_rfl) (by simp) ?_
          refine AllReadyH.cons (o := ⟨some 84, _, _, _, _, _⟩) rfl (fun K hK => ?_) AllReadyH.nil
          go_simp
          go_wp2_with ((go_at_call 10; (with_reducible refine (Read_conv1 HS.out.dk).mono ?_); rintro e w' ⟨A, l, c, rfl, hcv1, h', f'⟩; have nS := hid (HS.out.quiet f'); clear HS; have HS := nS; clear nS; clear h' f'))
          refine hK.out _ _ ?_ (fun hHeld2 => ?_)
          · ((try dsimp only); exact HS.out.keepg)
          clear hK K hHeld; have hHeld := hHeld2; clear hHeld2
          try simp only [Act.put, List.setIfInBounds_toArray, List.set_cons_zero, List.set_cons_succ]
          refine wpAnyH_ready (rs := [9]) (by kernel_rfl) (by simp) ?_
          refine AllReadyH.cons (o := ⟨some 85, _, _, _, _, _⟩) rfl (fun K hK => ?_) AllReadyH.nil
          go_simp
          go_wp2_with (fail)
          refine hK.out _ _ ?_ (fun hHeld2 => ?_)
          · ((try dsimp only); exact HS.out.keepg)
          clear hK K hHeld; have hHeld := hHeld2; clear hHeld2
          try simp only [Act.put, List.setIfInBounds_toArray, List.set_cons_zero, List.set_cons_succ]
          refine wpAnyH_take (i := 12) (oi := ⟨some 88, _, _, _, _, _⟩) (v := ?v86) rfl (by kernel_rfl) (by kernel_rfl) (by kernel_rfl) (fun _ _ _ h => h) (Or.inl ⟨by rfl, ?y86⟩) (by assumption) ?r86
          case y86 => (intro wx hSx; (try dsimp only at hSx); go_simp; (try with_reducible rfl))
          try simp only [Act.put, List.setIfInBounds_toArray, List.set_cons_zero, List.set_cons_succ]
          refine wpAnyH_take (i := 13) (oi := ⟨some 89, _, _, _, _, _⟩) (v := ?v87) rfl (by kernel_rfl) (by kernel_rfl) (by kernel_rfl) (fun _ _ _ h => h) (Or.inl ⟨by rfl, ?y87⟩) (by assumption) ?r87
          case y87 => (intro wx hSx; (try dsimp only at hSx); go_simp; (try with_reducible rfl))
          try simp only [Act.put, List.setIfInBounds_toArray, List.set_cons_zero, List.set_cons_succ]
          refine wpAnyH_take (i := 14) (oi := ⟨some 90, _, _, _, _, _⟩) (v := ?v88) rfl (by kernel_rfl) (by kernel_rfl) (by kernel_rfl) (fun _ _ _ h => h) (Or.inl ⟨by rfl, ?y88⟩) (by assumption) ?r88
          case y88 => (intro wx hSx; (try dsimp only at hSx); go_simp; (try with_reducible rfl))
          try simp only [Act.put, List.setIfInBounds_toArray, List.set_cons_zero, List.set_cons_succ]
          refine wpAnyH_take (i := 15) (oi := ⟨some 91, _, _, _, _, _⟩) (v := ?v89) rfl (by kernel_rfl) (by kernel_rfl) (by kernel_rfl) (fun _ _ _ h => h) (Or.inl ⟨by rfl, ?y89⟩) (by assumption) ?r89
          case y89 => (intro wx hSx; (try dsimp only at hSx); go_simp; (try with_reducible rfl))
          try simp only [Act.put, List.setIfInBounds_toArray, List.set_cons_zero, List.set_cons_succ]
          refine wpAnyH_ready (rs := [16]) (by kernel_rfl) (by simp) ?_
          refine AllReadyH.cons (o := ⟨some 92, _, _, _, _, _⟩) rfl (fun K hK => ?_) AllReadyH.nil
          go_simp
          go_wp2_with ((go_at_call 10; (with_reducible refine (Read_two HS.out.dk).mono ?_); rintro e w' ⟨A, c, rfl, f'⟩; have nS := hid (HS.out.quiet f'); clear HS; have HS := nS; clear nS; clear f'))
          refine hK.out _ _ ?_ (fun hHeld2 => ?_)
          · ((try dsimp only); exact HS.out.keepg)
          clear hK K hHeld; have hHeld := hHeld2; clear hHeld2
          try simp only [Act.put, List.setIfInBounds_toArray, List.set_cons_zero, List.set_cons_succ]
          refine wpAnyH_take (i := 17) (oi := ⟨some 93, _, _, _, _, _⟩) (v := ?v90) rfl (by kernel_rfl) (by kernel_rfl) (by kernel_rfl) (fun _ _ _ h => h) (Or.inl ⟨by rfl, ?y90⟩) (by assumption) ?r90
          case y90 => (intro wx hSx; (try dsimp only at hSx); go_simp; (try with_reducible rfl))
          try simp only [Act.put, List.setIfInBounds_toArray, List.set_cons_zero, List.set_cons_succ]
          refine wpAnyH_take (i := 18) (oi := ⟨some 94, _, _, _, _, _⟩) (v := ?v91) rfl (by kernel_rfl) (by kernel_rfl) (by kernel_rfl) (fun _ _ _ h => h) (Or.inl ⟨by rfl, ?y91⟩) (by assumption) ?r91
          case y91 => (intro wx hSx; (try dsimp only at hSx); go_simp; (try with_reducible rfl))
          try simp only [Act.put, List.setIfInBounds_toArray, List.set_cons_zero, List.set_cons_succ]
          refine wpAnyH_take (i := 19) (oi := ⟨some 95, _, _, _, _, _⟩) (v := ?v92) rfl (by kernel_rfl) (by kernel_rfl) (by kernel_rfl) (fun _ _ _ h => h) (Or.inl ⟨by rfl, ?y92⟩) (by assumption) ?r92
          case y92 => (intro wx hSx; (try dsimp only at hSx); go_simp; (try with_reducible rfl))
          try simp only [Act.put, List.setIfInBounds_toArray, List.set_cons_zero, List.set_cons_succ]
          refine wpAnyH_take (i := 20) (oi := ⟨some 96, _, _, _, _, _⟩) (v := ?v93) rfl (by kernel_rfl) (by kernel_rfl) (by kernel_rfl) (fun _ _ _ h => h) (Or.inl ⟨by rfl, ?y93⟩) (by assumption) ?r93
          case y93 => (intro wx hSx; (try dsimp only at hSx); go_simp; (try with_reducible rfl))
          try simp only [Act.put, List.setIfInBounds_toArray, List.set_cons_zero, List.set_cons_succ]
          refine wpAnyH_take (i := 21) (oi := ⟨some 97, _, _, _, _, _⟩) (v := ?v94) rfl (by kernel_rfl) (by kernel_rfl) (by kernel_rfl) (fun _ _ _ h => h) (Or.inl ⟨by rfl, ?y94⟩) (by assumption) ?r94
          case y94 => (intro wx hSx; (try dsimp only at hSx); go_simp; (try with_reducible rfl))
          try simp only [Act.put, List.setIfInBounds_toArray, List.set_cons_zero, List.set_cons_succ]
          refine wpAnyH_take (i := 23) (oi := ⟨some 99, _, _, _, _, _⟩) (v := ?v95) rfl (by kernel_rfl) (by kernel_rfl) (by kernel_rfl) (fun _ _ _ h => h) (Or.inl ⟨by rfl, ?y95⟩) (by assumption) ?r95
          case y95 => (intro wx hSx; (try dsimp only at hSx); go_simp; (try with_reducible rfl))
          try simp only [Act.put, List.setIfInBounds_toArray, List.set_cons_zero, List.set_cons_succ]
          refine wpAnyH_take (i := 24) (oi := ⟨some 100, _, _, _, _, _⟩) (v := ?v96) rfl (by kernel_rfl) (by kernel_rfl) (by kernel_rfl) (fun _ _ _ h => h) (Or.inl ⟨by rfl, ?y96⟩) (by assumption) ?r96
          case y96 => (intro wx hSx; (try dsimp only at hSx); go_simp; (try with_reducible rfl))
          try simp only [Act.put, List.setIfInBounds_toArray, List.set_cons_zero, List.set_cons_succ]
          refine wpAnyH_ready (rs := [22]) (by kernel_rfl) (by simp) ?_
          refine AllReadyH.cons (o := ⟨some 98, _, _, _, _, _⟩) rfl (fun K hK => ?_) AllReadyH.nil
          go_simp
          go_wp2_with ((go_at_call 11; (with_reducible refine (Armed_calls HS.out.dk).mono ?_); rintro e w' ⟨rfl, rfl⟩))
          refine hK.out _ _ ?_ (fun hHeld2 => ?_)
          · ((try dsimp only); exact HS.out.keepg)
          clear hK K hHeld; have hHeld := hHeld2; clear hHeld2
          try simp only [Act.put, List.setIfInBounds_toArray, List.set_cons_zero, List.set_cons_succ]
          refine wpAnyH_take (i := 25) (oi := ⟨some 101, _, _, _, _, _⟩) (v := ?v97) rfl (by kernel_rfl) (by kernel_rfl) (by kernel_rfl) (fun _ _ _ h => h) (Or.inl ⟨by rfl, ?y97⟩) (by assumption) ?r97
          case y97 => (intro wx hSx; (try dsimp only at hSx); go_simp; (try with_reducible rfl))
          try simp only [Act.put, List.setIfInBounds_toArray, List.set_cons_zero, List.set_cons_succ]
          refine wpAnyH_take (i := 26) (oi := ⟨some 102, _, _, _, _, _⟩) (v := ?v98) rfl (by kernel_rfl) (by kernel_rfl) (by kernel_rfl) (fun _ _ _ h => h) (Or.inl ⟨by rfl, ?y98⟩) (by assumption) ?r98
          case y98 => (intro wx hSx; (try dsimp only at hSx); go_simp; (try with_reducible rfl))
          try simp only [Act.put, List.setIfInBounds_toArray, List.set_cons_zero, List.set_cons_succ]
          refine wpAnyH_done (by kernel_rfl) ?_ _
          go_wp2_with (fail)
          go_roundw
          case rel => exact ⟨k + 1, x0, x1, true, (max nn 0), by omega, .inl ⟨rfl, rfl⟩, by go_num, HS.out.back⟩
          case measure => simp [intOf]; omega
      clear HF
      have hae : ae < 0 ∨ 2 ≤ ae ∨ ae = 0 ∨ ae = 1 := by omega
      rcases ham with ⟨rfl, rfl⟩ | ⟨rfl, rfl⟩
      · rcases hae with hae | hae | hae | hae
        · have u0 := HS.out.cells 0; have u1 := HS.out.cells 1; have u3 := HS.out.cells 3
          simp only [List.getElem?_cons_succ, List.getElem?_cons_zero] at u0 u1 u3
          go_wp2_with (fail)
          generalize hwz : World.alloc _ _ = wz
          have nS := hid (show Stp w wz b g wr.heap.size [Value.int .i64 wh, Value.int .i64 ae, Value.int .i64 nn, Value.slice sa bs.length sn] x0 x1 true n x0 x1 from hwz ▸ HS.out)
          clear HS hwz u0 u1 u3; have HS := nS; clear nS
          generalize wr.heap.size = sb at *
          refine wp_region_held_drew (S := fun wx => wx.cell? ⟨sb, 1, none⟩ = some (.int .i64 ae) ∧ wx.cell? ⟨sb, 3, none⟩ = some (.slice sa bs.length sn)) (by kernel_rfl) (by (try dsimp only); exact HS.out.drew.keeps) (fun hHeld => ?_)
          have nS := hid (HS.out.drew); clear HS; have HS := nS; clear nS
          refine wpAnyH_take (i := 0) (oi := ⟨some 67, _, _, _, _, _⟩) (v := ?v22) rfl (by kernel_rfl) (by kernel_rfl) (by kernel_rfl) (fun _ _ _ h => h) (Or.inl ⟨by rfl, ?y22⟩) (by assumption) ?r22
          case y22 => (intro wx hSx; (try dsimp only at hSx); go_simp; (try with_reducible rfl))
          try simp only [Act.put, List.setIfInBounds_toArray, List.set_cons_zero, List.set_cons_succ]
          refine wpAnyH_take (i := 1) (oi := ⟨some 68, _, _, _, _, _⟩) (v := ?v23) rfl (by kernel_rfl) (by kernel_rfl) (by kernel_rfl) (fun _ _ _ h => h) (Or.inl ⟨by rfl, ?y23⟩) (by assumption) ?r23
          case y23 => (intro wx hSx; (try dsimp only at hSx); go_simp; (try with_reducible rfl))
          try simp only [Act.put, List.setIfInBounds_toArray, List.set_cons_zero, List.set_cons_succ]
          refine wpAnyH_take (i := 2) (oi := ⟨some 69, _, _, _, _, _⟩) (v := ?v24) rfl (by kernel_rfl) (by kernel_rfl) (by kernel_rfl) (fun _ _ _ h => h) (Or.inl ⟨by rfl, ?y24⟩) (by assumption) ?r24
          case y24 => (intro wx hSx; (try dsimp only at hSx); go_simp; (try with_reducible rfl))
          try simp only [Act.put, List.setIfInBounds_toArray, List.set_cons_zero, List.set_cons_succ]
          refine wpAnyH_take (i := 3) (oi := ⟨some 70, _, _, _, _, _⟩) (v := ?v25) rfl (by kernel_rfl) (by kernel_rfl) (by kernel_rfl) (fun _ _ _ h => h) (Or.inl ⟨by rfl, ?y25⟩) (by assumption) ?r25
          case y25 => (intro wx hSx; (try dsimp only at hSx); go_simp; (try with_reducible rfl))
          try simp only [Act.put, List.setIfInBounds_toArray, List.set_cons_zero, List.set_cons_succ]
          refine wpAnyH_take (i := 4) (oi := ⟨some 71, _, _, _, _, _⟩) (v := ?v26) rfl (by kernel_rfl) (by kernel_rfl) (by kernel_rfl) (fun _ _ _ h => h) (Or.inl ⟨by rfl, ?y26⟩) (by assumption) ?r26
          case y26 => (intro wx hSx; (try dsimp only at hSx); go_simp; (try with_reducible rfl))
          try simp only [Act.put, List.setIfInBounds_toArray, List.set_cons_zero, List.set_cons_succ]
          refine wpAnyH_take (i := 7) (oi := ⟨some 74, _, _, _, _, _⟩) (v := ?v27) rfl (by kernel_rfl) (by kernel_rfl) (by kernel_rfl) (fun _ _ _ h => h) (Or.inl ⟨by rfl, ?y27⟩) (by assumption) ?r27
          case y27 => (intro wx hSx; (try dsimp only at hSx); go_simp; (try with_reducible rfl))
          try simp only [Act.put, List.setIfInBounds_toArray, List.set_cons_zero, List.set_cons_succ]
          refine wpAnyH_ready (rs := [5]) (by kernel_rfl) (by simp) ?_
          refine AllReadyH.cons (o := ⟨some 72, _, _, _, _, _⟩) rfl (fun K hK => ?_) AllReadyH.nil
          obtain ⟨A', cp', wq, hrun, hIn, hfq, _⟩ := app_nil (HS.out.bytes HB.out) (by omega)
          refine step_run rfl _ _ _ _ rfl rfl rfl hrun ?_
          clear hrun
          have nS := hid (HS.out.quiet hfq); clear HS; have HS := nS; clear nS
          have hIn' := hid hIn; clear hIn hfq
          refine hK.out _ _ ?_ (fun hHeld2 => ?_)
          · ((try dsimp only); exact HS.out.keeps)
          clear hK K hHeld; have hHeld := hHeld2; clear hHeld2
          try simp only [Act.put, List.setIfInBounds_toArray, List.set_cons_zero, List.set_cons_succ]
          refine wpAnyH_ready (rs := [6]) (by kernel_rfl) (by simp) ?_
          refine AllReadyH.cons (o := ⟨some 73, _, _, _, _, _⟩) rfl (fun K hK => ?_) AllReadyH.nil
          go_simp
          go_wp2_with ((go_at_call 9; (with_reducible refine (Write_none ae (by first | exact .inl (by omega) | exact .inr (by omega))).mono ?_); rintro e w' ⟨rfl, rfl⟩))
          refine hK.out _ _ ?_ (fun hHeld2 => ?_)
          · ((try dsimp only); exact HS.out.keeps)
          clear hK K hHeld; have hHeld := hHeld2; clear hHeld2
          try simp only [Act.put, List.setIfInBounds_toArray, List.set_cons_zero, List.set_cons_succ]
          refine wpAnyH_take (i := 8) (oi := ⟨some 75, _, _, _, _, _⟩) (v := ?v28) rfl (by kernel_rfl) (by kernel_rfl) (by kernel_rfl) (fun _ _ _ h => h) (Or.inl ⟨by rfl, ?y28⟩) (by assumption) ?r28
          case y28 => (intro wx hSx; (try dsimp only at hSx); go_simp; (try with_reducible rfl))
          try simp only [Act.put, List.setIfInBounds_toArray, List.set_cons_zero, List.set_cons_succ]
          refine wpAnyH_done (by kernel_rfl) ?_ _
          go_wp2_with (fail)
          refine wp_region_held_drew (S := fun wx => wx.cell? ⟨g, 0, none⟩ = some (.string (strOfNums x0)) ∧ wx.cell? ⟨g, 1, none⟩ = some (.string (strOfNums x1))) (by kernel_rfl) (by (try dsimp only); exact HS.out.drew.keepg) (fun hHeld => ?_)
          have nS := hid (HS.out.drew); clear HS; have HS := nS; clear nS
          refine wpAnyH_take (i := 0) (oi := ⟨some 76, _, _, _, _, _⟩) (v := ?v29) rfl (by kernel_rfl) (by kernel_rfl) (by kernel_rfl) (fun _ _ _ h => h) (Or.inl ⟨by rfl, ?y29⟩) (by assumption) ?r29
          case y29 => (intro wx hSx; (try dsimp only at hSx); go_simp; (try with_reducible rfl))
          try simp only [Act.put, List.setIfInBounds_toArray, List.set_cons_zero, List.set_cons_succ]
          refine wpAnyH_take (i := 3) (oi := ⟨some 79, _, _, _, _, _⟩) (v := ?v30) rfl (by kernel_rfl) (by kernel_rfl) (by kernel_rfl) (fun _ _ _ h => h) (Or.inl ⟨by rfl, ?y30⟩) (by assumption) ?r30
          case y30 => (intro wx hSx; (try dsimp only at hSx); go_simp; (try with_reducible rfl))
          try simp only [Act.put, List.setIfInBounds_toArray, List.set_cons_zero, List.set_cons_succ]
          refine wpAnyH_take (i := 4) (oi := ⟨some 80, _, _, _, _, _⟩) (v := ?v31) rfl (by kernel_rfl) (by kernel_rfl) (by kernel_rfl) (fun _ _ _ h => h) (Or.inl ⟨by rfl, ?y31⟩) (by assumption) ?r31
          case y31 => (intro wx hSx; (try dsimp only at hSx); go_simp; (try with_reducible rfl))
          try simp only [Act.put, List.setIfInBounds_toArray, List.set_cons_zero, List.set_cons_succ]
          refine wpAnyH_ready (rs := [1]) (by kernel_rfl) (by simp) ?_
          refine AllReadyH.cons (o := ⟨some 77, _, _, _, _, _⟩) rfl (fun K hK => ?_) AllReadyH.nil
          go_simp
          go_wp2_with ((go_at_call 10; (with_reducible refine (Read_conv0 HS.out.dk).mono ?_); rintro e w' ⟨A, l, c, rfl, hcv0, h', f'⟩; have nS := hid (HS.out.quiet f'); clear HS; have HS := nS; clear nS; clear h' f'))
          refine hK.out _ _ ?_ (fun hHeld2 => ?_)
          · ((try dsimp only); exact HS.out.keepg)
          clear hK K hHeld; have hHeld := hHeld2; clear hHeld2
          try simp only [Act.put, List.setIfInBounds_toArray, List.set_cons_zero, List.set_cons_succ]
          refine wpAnyH_ready (rs := [2]) (by kernel_rfl) (by simp) ?_
          refine AllReadyH.cons (o := ⟨some 78, _, _, _, _, _⟩) rfl (fun K hK => ?_) AllReadyH.nil
          go_simp
          go_wp2_with (fail)
          refine hK.out _ _ ?_ (fun hHeld2 => ?_)
          · ((try dsimp only); exact HS.out.keepg)
          clear hK K hHeld; have hHeld := hHeld2; clear hHeld2
          try simp only [Act.put, List.setIfInBounds_toArray, List.set_cons_zero, List.set_cons_succ]
          refine wpAnyH_take (i := 5) (oi := ⟨some 81, _, _, _, _, _⟩) (v := ?v32) rfl (by kernel_rfl) (by kernel_rfl) (by kernel_rfl) (fun _ _ _ h => h) (Or.inl ⟨by rfl, ?y32⟩) (by assumption) ?r32
          case y32 => (intro wx hSx; (try dsimp only at hSx); go_simp; (try with_reducible rfl))
          try simp only [Act.put, List.setIfInBounds_toArray, List.set_cons_zero, List.set_cons_succ]
          refine wpAnyH_take (i := 6) (oi := ⟨some 82, _, _, _, _, _⟩) (v := ?v33) rfl (by kernel_rfl) (by kernel_rfl) (by kernel_rfl) (fun _ _ _ h => h) (Or.inl ⟨by rfl, ?y33⟩) (by assumption) ?r33
          case y33 => (intro wx hSx; (try dsimp only at hSx); go_simp; (try with_reducible rfl))
          try simp only [Act.put, List.setIfInBounds_toArray, List.set_cons_zero, List.set_cons_succ]
          refine wpAnyH_take (i := 7) (oi := ⟨some 83, _, _, _, _, _⟩) (v := ?v34) rfl (by kernel_rfl) (by kernel_rfl) (by kernel_rfl) (fun _ _ _ h => h) (Or.inl ⟨by rfl, ?y34⟩) (by assumption) ?r34
          case y34 => (intro wx hSx; (try dsimp only at hSx); go_simp; (try with_reducible rfl))
          try simp only [Act.put, List.setIfInBounds_toArray, List.set_cons_zero, List.set_cons_succ]
          refine wpAnyH_take (i := 10) (oi := ⟨some 86, _, _, _, _, _⟩) (v := ?v35) rfl (by kernel_rfl) (by kernel_rfl) (by kernel_rfl) (fun _ _ _ h => h) (Or.inl ⟨by rfl, ?y35⟩) (by assumption) ?r35
          case y35 => (intro wx hSx; (try dsimp only at hSx); go_simp; (try with_reducible rfl))
          try simp only [Act.put, List.setIfInBounds_toArray, List.set_cons_zero, List.set_cons_succ]
          refine wpAnyH_take (i := 11) (oi := ⟨some 87, _, _, _, _, _⟩) (v := ?v36) rfl (by kernel_rfl) (by kernel_rfl) (by kernel_rfl) (fun _ _ _ h => h) (Or.inl ⟨by rfl, ?y36⟩) (by assumption) ?r36
          case y36 => (intro wx hSx; (try dsimp only at hSx); go_simp; (try with_reducible rfl))
          try simp only [Act.put, List.setIfInBounds_toArray, List.set_cons_zero, List.set_cons_succ]
          refine wpAnyH_ready (rs := [8]) (by kernel_rfl) (by simp) ?_
          refine AllReadyH.cons (o := ⟨some 84, _, _, _, _, _⟩) rfl (fun K hK => ?_) AllReadyH.nil
          go_simp
          go_wp2_with ((go_at_call 10; (with_reducible refine (Read_conv1 HS.out.dk).mono ?_); rintro e w' ⟨A, l, c, rfl, hcv1, h', f'⟩; have nS := hid (HS.out.quiet f'); clear HS; have HS := nS; clear nS; clear h' f'))
          refine hK.out _ _ ?_ (fun hHeld2 => ?_)
          · ((try dsimp only); exact HS.out.keepg)
          clear hK K hHeld; have hHeld := hHeld2; clear hHeld2
          try simp only [Act.put, List.setIfInBounds_toArray, List.set_cons_zero, List.set_cons_succ]
          refine wpAnyH_ready (rs := [9]) (by kernel_rfl) (by simp) ?_
          refine AllReadyH.cons (o := ⟨some 85, _, _, _, _, _⟩) rfl (fun K hK => ?_) AllReadyH.nil
          go_simp
          go_wp2_with (fail)
          refine hK.out _ _ ?_ (fun hHeld2 => ?_)
          · ((try dsimp only); exact HS.out.keepg)
          clear hK K hHeld; have hHeld := hHeld2; clear hHeld2
          try simp only [Act.put, List.setIfInBounds_toArray, List.set_cons_zero, List.set_cons_succ]
          refine wpAnyH_take (i := 12) (oi := ⟨some 88, _, _, _, _, _⟩) (v := ?v37) rfl (by kernel_rfl) (by kernel_rfl) (by kernel_rfl) (fun _ _ _ h => h) (Or.inl ⟨by rfl, ?y37⟩) (by assumption) ?r37
          case y37 => (intro wx hSx; (try dsimp only at hSx); go_simp; (try with_reducible rfl))
          try simp only [Act.put, List.setIfInBounds_toArray, List.set_cons_zero, List.set_cons_succ]
          refine wpAnyH_take (i := 13) (oi := ⟨some 89, _, _, _, _, _⟩) (v := ?v38) rfl (by kernel_rfl) (by kernel_rfl) (by kernel_rfl) (fun _ _ _ h => h) (Or.inl ⟨by rfl, ?y38⟩) (by assumption) ?r38
          case y38 => (intro wx hSx; (try dsimp only at hSx); go_simp; (try with_reducible rfl))
          try simp only [Act.put, List.setIfInBounds_toArray, List.set_cons_zero, List.set_cons_succ]
          refine wpAnyH_take (i := 14) (oi := ⟨some 90, _, _, _, _, _⟩) (v := ?v39) rfl (by kernel_rfl) (by kernel_rfl) (by kernel_rfl) (fun _ _ _ h => h) (Or.inl ⟨by rfl, ?y39⟩) (by assumption) ?r39
          case y39 => (intro wx hSx; (try dsimp only at hSx); go_simp; (try with_reducible rfl))
          try simp only [Act.put, List.setIfInBounds_toArray, List.set_cons_zero, List.set_cons_succ]
          refine wpAnyH_take (i := 15) (oi := ⟨some 91, _, _, _, _, _⟩) (v := ?v40) rfl (by kernel_rfl) (by kernel_rfl) (by kernel_rfl) (fun _ _ _ h => h) (Or.inl ⟨by rfl, ?y40⟩) (by assumption) ?r40
          case y40 => (intro wx hSx; (try dsimp only at hSx); go_simp; (try with_reducible rfl))
          try simp only [Act.put, List.setIfInBounds_toArray, List.set_cons_zero, List.set_cons_succ]
          refine wpAnyH_ready (rs := [16]) (by kernel_rfl) (by simp) ?_
          refine AllReadyH.cons (o := ⟨some 92, _, _, _, _, _⟩) rfl (fun K hK => ?_) AllReadyH.nil
          go_simp
          go_wp2_with ((go_at_call 10; (with_reducible refine (Read_two HS.out.dk).mono ?_); rintro e w' ⟨A, c, rfl, f'⟩; have nS := hid (HS.out.quiet f'); clear HS; have HS := nS; clear nS; clear f'))
          refine hK.out _ _ ?_ (fun hHeld2 => ?_)
          · ((try dsimp only); exact HS.out.keepg)
          clear hK K hHeld; have hHeld := hHeld2; clear hHeld2
          try simp only [Act.put, List.setIfInBounds_toArray, List.set_cons_zero, List.set_cons_succ]
          refine wpAnyH_take (i := 17) (oi := ⟨some 93, _, _, _, _, _⟩) (v := ?v41) rfl (by kernel_rfl) (by kernel_rfl) (by kernel_rfl) (fun _ _ _ h => h) (Or.inl ⟨by rfl, ?y41⟩) (by assumption) ?r41
          case y41 => (intro wx hSx; (try dsimp only at hSx); go_simp; (try with_reducible rfl))
          try simp only [Act.put, List.setIfInBounds_toArray, List.set_cons_zero, List.set_cons_succ]
          refine wpAnyH_take (i := 18) (oi := ⟨some 94, _, _, _, _, _⟩) (v := ?v42) rfl (by kernel_rfl) (by kernel_rfl) (by kernel_rfl) (fun _ _ _ h => h) (Or.inl ⟨by rfl, ?y42⟩) (by assumption) ?r42
          case y42 => (intro wx hSx; (try dsimp only at hSx); go_simp; (try with_reducible rfl))
          try simp only [Act.put, List.setIfInBounds_toArray, List.set_cons_zero, List.set_cons_succ]
          refine wpAnyH_take (i := 19) (oi := ⟨some 95, _, _, _, _, _⟩) (v := ?v43) rfl (by kernel_rfl) (by kernel_rfl) (by kernel_rfl) (fun _ _ _ h => h) (Or.inl ⟨by rfl, ?y43⟩) (by assumption) ?r43
          case y43 => (intro wx hSx; (try dsimp only at hSx); go_simp; (try with_reducible rfl))
          try simp only [Act.put, List.setIfInBounds_toArray, List.set_cons_zero, List.set_cons_succ]
          refine wpAnyH_take (i := 20) (oi := ⟨some 96, _, _, _, _, _⟩) (v := ?v44) rfl (by kernel_rfl) (by kernel_rfl) (by kernel_rfl) (fun _ _ _ h => h) (Or.inl ⟨by rfl, ?y44⟩) (by assumption) ?r44
          case y44 => (intro wx hSx; (try dsimp only at hSx); go_simp; (try with_reducible rfl))
          try simp only [Act.put, List.setIfInBounds_toArray, List.set_cons_zero, List.set_cons_succ]
          refine wpAnyH_take (i := 21) (oi := ⟨some 97, _, _, _, _, _⟩) (v := ?v45) rfl (by kernel_rfl) (by kernel_rfl) (by kernel_rfl) (fun _ _ _ h => h) (Or.inl ⟨by rfl, ?y45⟩) (by assumption) ?r45
          case y45 => (intro wx hSx; (try dsimp only at hSx); go_simp; (try with_reducible rfl))
          try simp only [Act.put, List.setIfInBounds_toArray, List.set_cons_zero, List.set_cons_succ]
          refine wpAnyH_take (i := 23) (oi := ⟨some 99, _, _, _, _, _⟩) (v := ?v46) rfl (by kernel_rfl) (by kernel_rfl) (by kernel_rfl) (fun _ _ _ h => h) (Or.inl ⟨by rfl, ?y46⟩) (by assumption) ?r46
          case y46 => (intro wx hSx; (try dsimp only at hSx); go_simp; (try with_reducible rfl))
          try simp only [Act.put, List.setIfInBounds_toArray, List.set_cons_zero, List.set_cons_succ]
          refine wpAnyH_take (i := 24) (oi := ⟨some 100, _, _, _, _, _⟩) (v := ?v47) rfl (by kernel_rfl) (by kernel_rfl) (by kernel_rfl) (fun _ _ _ h => h) (Or.inl ⟨by rfl, ?y47⟩) (by assumption) ?r47
          case y47 => (intro wx hSx; (try dsimp only at hSx); go_simp; (try with_reducible rfl))
          try simp only [Act.put, List.setIfInBounds_toArray, List.set_cons_zero, List.set_cons_succ]
          refine wpAnyH_ready (rs := [22]) (by kernel_rfl) (by simp) ?_
          refine AllReadyH.cons (o := ⟨some 98, _, _, _, _, _⟩) rfl (fun K hK => ?_) AllReadyH.nil
          go_simp
          go_wp2_with ((go_at_call 11; (with_reducible refine (Armed_calls HS.out.dk).mono ?_); rintro e w' ⟨rfl, rfl⟩))
          refine hK.out _ _ ?_ (fun hHeld2 => ?_)
          · ((try dsimp only); exact HS.out.keepg)
          clear hK K hHeld; have hHeld := hHeld2; clear hHeld2
          try simp only [Act.put, List.setIfInBounds_toArray, List.set_cons_zero, List.set_cons_succ]
          refine wpAnyH_take (i := 25) (oi := ⟨some 101, _, _, _, _, _⟩) (v := ?v48) rfl (by kernel_rfl) (by kernel_rfl) (by kernel_rfl) (fun _ _ _ h => h) (Or.inl ⟨by rfl, ?y48⟩) (by assumption) ?r48
          case y48 => (intro wx hSx; (try dsimp only at hSx); go_simp; (try with_reducible rfl))
          try simp only [Act.put, List.setIfInBounds_toArray, List.set_cons_zero, List.set_cons_succ]
          refine wpAnyH_take (i := 26) (oi := ⟨some 102, _, _, _, _, _⟩) (v := ?v49) rfl (by kernel_rfl) (by kernel_rfl) (by kernel_rfl) (fun _ _ _ h => h) (Or.inl ⟨by rfl, ?y49⟩) (by assumption) ?r49
          case y49 => (intro wx hSx; (try dsimp only at hSx); go_simp; (try with_reducible rfl))
          try simp only [Act.put, List.setIfInBounds_toArray, List.set_cons_zero, List.set_cons_succ]
          refine wpAnyH_done (by kernel_rfl) ?_ _
          go_wp2_with (fail)
          go_roundw
          case rel => exact ⟨k + 1, x0, x1, true, n, by omega, .inl ⟨rfl, rfl⟩, by go_num, HS.out.back⟩
          case measure => simp [intOf]; omega
        · have u0 := HS.out.cells 0; have u1 := HS.out.cells 1; have u3 := HS.out.cells 3
          simp only [List.getElem?_cons_succ, List.getElem?_cons_zero] at u0 u1 u3
          go_wp2_with (fail)
          generalize hwz : World.alloc _ _ = wz
          have nS := hid (show Stp w wz b g wr.heap.size [Value.int .i64 wh, Value.int .i64 ae, Value.int .i64 nn, Value.slice sa bs.length sn] x0 x1 true n x0 x1 from hwz ▸ HS.out)
          clear HS hwz u0 u1 u3; have HS := nS; clear nS
          generalize wr.heap.size = sb at *
          refine wp_region_held_drew (S := fun wx => wx.cell? ⟨sb, 1, none⟩ = some (.int .i64 ae) ∧ wx.cell? ⟨sb, 3, none⟩ = some (.slice sa bs.length sn)) (by kernel_rfl) (by (try dsimp only); exact HS.out.drew.keeps) (fun hHeld => ?_)
          have nS := hid (HS.out.drew); clear HS; have HS := nS; clear nS
          refine wpAnyH_take (i := 0) (oi := ⟨some 67, _, _, _, _, _⟩) (v := ?v99) rfl (by kernel_rfl) (by kernel_rfl) (by kernel_rfl) (fun _ _ _ h => h) (Or.inl ⟨by rfl, ?y99⟩) (by assumption) ?r99
          case y99 => (intro wx hSx; (try dsimp only at hSx); go_simp; (try with_reducible rfl))
          try simp only [Act.put, List.setIfInBounds_toArray, List.set_cons_zero, List.set_cons_succ]
          refine wpAnyH_take (i := 1) (oi := ⟨some 68, _, _, _, _, _⟩) (v := ?v100) rfl (by kernel_rfl) (by kernel_rfl) (by kernel_rfl) (fun _ _ _ h => h) (Or.inl ⟨by rfl, ?y100⟩) (by assumption) ?r100
          case y100 => (intro wx hSx; (try dsimp only at hSx); go_simp; (try with_reducible rfl))
          try simp only [Act.put, List.setIfInBounds_toArray, List.set_cons_zero, List.set_cons_succ]
          refine wpAnyH_take (i := 2) (oi := ⟨some 69, _, _, _, _, _⟩) (v := ?v101) rfl (by kernel_rfl) (by kernel_rfl) (by kernel_rfl) (fun _ _ _ h => h) (Or.inl ⟨by rfl, ?y101⟩) (by assumption) ?r101
          case y101 => (intro wx hSx; (try dsimp only at hSx); go_simp; (try with_reducible rfl))
          try simp only [Act.put, List.setIfInBounds_toArray, List.set_cons_zero, List.set_cons_succ]
          refine wpAnyH_take (i := 3) (oi := ⟨some 70, _, _, _, _, _⟩) (v := ?v102) rfl (by kernel_rfl) (by kernel_rfl) (by kernel_rfl) (fun _ _ _ h => h) (Or.inl ⟨by rfl, ?y102⟩) (by assumption) ?r102
          case y102 => (intro wx hSx; (try dsimp only at hSx); go_simp; (try with_reducible rfl))
          try simp only [Act.put, List.setIfInBounds_toArray, List.set_cons_zero, List.set_cons_succ]
          refine wpAnyH_take (i := 4) (oi := ⟨some 71, _, _, _, _, _⟩) (v := ?v103) rfl (by kernel_rfl) (by kernel_rfl) (by kernel_rfl) (fun _ _ _ h => h) (Or.inl ⟨by rfl, ?y103⟩) (by assumption) ?r103
          case y103 => (intro wx hSx; (try dsimp only at hSx); go_simp; (try with_reducible rfl))
          try simp only [Act.put, List.setIfInBounds_toArray, List.set_cons_zero, List.set_cons_succ]
          refine wpAnyH_take (i := 7) (oi := ⟨some 74, _, _, _, _, _⟩) (v := ?v104) rfl (by kernel_rfl) (by kernel_rfl) (by kernel_rfl) (fun _ _ _ h => h) (Or.inl ⟨by rfl, ?y104⟩) (by assumption) ?r104
          case y104 => (intro wx hSx; (try dsimp only at hSx); go_simp; (try with_reducible rfl))
          try simp only [Act.put, List.setIfInBounds_toArray, List.set_cons_zero, List.set_cons_succ]
          refine wpAnyH_ready (rs := [5]) (by kernel_rfl) (by simp) ?_
          refine AllReadyH.cons (o := ⟨some 72, _, _, _, _, _⟩) rfl (fun K hK => ?_) AllReadyH.nil
          obtain ⟨A', cp', wq, hrun, hIn, hfq, _⟩ := app_nil (HS.out.bytes HB.out) (by omega)
          refine step_run rfl _ _ _ _ rfl rfl rfl hrun ?_
          clear hrun
          have nS := hid (HS.out.quiet hfq); clear HS; have HS := nS; clear nS
          have hIn' := hid hIn; clear hIn hfq
          refine hK.out _ _ ?_ (fun hHeld2 => ?_)
          · ((try dsimp only); exact HS.out.keeps)
          clear hK K hHeld; have hHeld := hHeld2; clear hHeld2
          try simp only [Act.put, List.setIfInBounds_toArray, List.set_cons_zero, List.set_cons_succ]
          refine wpAnyH_ready (rs := [6]) (by kernel_rfl) (by simp) ?_
          refine AllReadyH.cons (o := ⟨some 73, _, _, _, _, _⟩) rfl (fun K hK => ?_) AllReadyH.nil
          go_simp
          go_wp2_with ((go_at_call 9; (with_reducible refine (Write_none ae (by first | exact .inl (by omega) | exact .inr (by omega))).mono ?_); rintro e w' ⟨rfl, rfl⟩))
          refine hK.out _ _ ?_ (fun hHeld2 => ?_)
          · ((try dsimp only); exact HS.out.keeps)
          clear hK K hHeld; have hHeld := hHeld2; clear hHeld2
          try simp only [Act.put, List.setIfInBounds_toArray, List.set_cons_zero, List.set_cons_succ]
          refine wpAnyH_take (i := 8) (oi := ⟨some 75, _, _, _, _, _⟩) (v := ?v105) rfl (by kernel_rfl) (by kernel_rfl) (by kernel_rfl) (fun _ _ _ h => h) (Or.inl ⟨by rfl, ?y105⟩) (by assumption) ?r105
          case y105 => (intro wx hSx; (try dsimp only at hSx); go_simp; (try with_reducible rfl))
          try simp only [Act.put, List.setIfInBounds_toArray, List.set_cons_zero, List.set_cons_succ]
          refine wpAnyH_done (by kernel_rfl) ?_ _
          go_wp2_with (fail)
          refine wp_region_held_drew (S := fun wx => wx.cell? ⟨g, 0, none⟩ = some (.string (strOfNums x0)) ∧ wx.cell? ⟨g, 1, none⟩ = some (.string (strOfNums x1))) (by kernel_rfl) (by (try dsimp only); exact HS.out.drew.keepg) (fun hHeld => ?_)
          have nS := hid (HS.out.drew); clear HS; have HS := nS; clear nS
          refine wpAnyH_take (i := 0) (oi := ⟨some 76, _, _, _, _, _⟩) (v := ?v106) rfl (by kernel_rfl) (by kernel_rfl) (by kernel_rfl) (fun _ _ _ h => h) (Or.inl ⟨by rfl, ?y106⟩) (by assumption) ?r106
          case y106 => (intro wx hSx; (try dsimp only at hSx); go_simp; (try with_reducible rfl))
          try simp only [Act.put, List.setIfInBounds_toArray, List.set_cons_zero, List.set_cons_succ]
          refine wpAnyH_take (i := 3) (oi := ⟨some 79, _, _, _, _, _⟩) (v := ?v107) rfl (by kernel_rfl) (by kernel_rfl) (by kernel_rfl) (fun _ _ _ h => h) (Or.inl ⟨by rfl, ?y107⟩) (by assumption) ?r107
          case y107 => (intro wx hSx; (try dsimp only at hSx); go_simp; (try with_reducible rfl))
          try simp only [Act.put, List.setIfInBounds_toArray, List.set_cons_zero, List.set_cons_succ]
          refine wpAnyH_take (i := 4) (oi := ⟨some 80, _, _, _, _, _⟩) (v := ?v108) rfl (by kernel_rfl) (by kernel_rfl) (by kernel_rfl) (fun _ _ _ h => h) (Or.inl ⟨by rfl, ?y108⟩) (by assumption) ?r108
          case y108 => (intro wx hSx; (try dsimp only at hSx); go_simp; (try with_reducible rfl))
          try simp only [Act.put, List.setIfInBounds_toArray, List.set_cons_zero, List.set_cons_succ]
          refine wpAnyH_ready (rs := [1]) (by kernel_rfl) (by simp) ?_
          refine AllReadyH.cons (o := ⟨some 77, _, _, _, _, _⟩) rfl (fun K hK => ?_) AllReadyH.nil
          go_simp
          go_wp2_with ((go_at_call 10; (with_reducible refine (Read_conv0 HS.out.dk).mono ?_); rintro e w' ⟨A, l, c, rfl, hcv0, h', f'⟩; have nS := hid (HS.out.quiet f'); clear HS; have HS := nS; clear nS; clear h' f'))
          refine hK.out _ _ ?_ (fun hHeld2 => ?_)
          · ((try dsimp only); exact HS.out.keepg)
          clear hK K hHeld; have hHeld := hHeld2; clear hHeld2
          try simp only [Act.put, List.setIfInBounds_toArray, List.set_cons_zero, List.set_cons_succ]
          refine wpAnyH_ready (rs := [2]) (by kernel_rfl) (by simp) ?_
          refine AllReadyH.cons (o := ⟨some 78, _, _, _, _, _⟩) rfl (fun K hK => ?_) AllReadyH.nil
          go_simp
          go_wp2_with (fail)
          refine hK.out _ _ ?_ (fun hHeld2 => ?_)
          · ((try dsimp only); exact HS.out.keepg)
          clear hK K hHeld; have hHeld := hHeld2; clear hHeld2
          try simp only [Act.put, List.setIfInBounds_toArray, List.set_cons_zero, List.set_cons_succ]
          refine wpAnyH_take (i := 5) (oi := ⟨some 81, _, _, _, _, _⟩) (v := ?v109) rfl (by kernel_rfl) (by kernel_rfl) (by kernel_rfl) (fun _ _ _ h => h) (Or.inl ⟨by rfl, ?y109⟩) (by assumption) ?r109
          case y109 => (intro wx hSx; (try dsimp only at hSx); go_simp; (try with_reducible rfl))
          try simp only [Act.put, List.setIfInBounds_toArray, List.set_cons_zero, List.set_cons_succ]
          refine wpAnyH_take (i := 6) (oi := ⟨some 82, _, _, _, _, _⟩) (v := ?v110) rfl (by kernel_rfl) (by kernel_rfl) (by kernel_rfl) (fun _ _ _ h => h) (Or.inl ⟨by rfl, ?y110⟩) (by assumption) ?r110
          case y110 => (intro wx hSx; (try dsimp only at hSx); go_simp; (try with_reducible rfl))
          try simp only [Act.put, List.setIfInBounds_toArray, List.set_cons_zero, List.set_cons_succ]
          refine wpAnyH_take (i := 7) (oi := ⟨some 83, _, _, _, _, _⟩) (v := ?v111) rfl (by kernel_rfl) (by kernel_rfl) (by kernel_rfl) (fun _ _ _ h => h) (Or.inl ⟨by rfl, ?y111⟩) (by assumption) ?r111
          case y111 => (intro wx hSx; (try dsimp only at hSx); go_simp; (try with_reducible rfl))
          try simp only [Act.put, List.setIfInBounds_toArray, List.set_cons_zero, List.set_cons_succ]
          refine wpAnyH_take (i := 10) (oi := ⟨some 86, _, _, _, _, _⟩) (v := ?v112) rfl (by kernel_rfl) (by kernel_rfl) (by kernel_rfl) (fun _ _ _ h => h) (Or.inl ⟨by rfl, ?y112⟩) (by assumption) ?r112
          case y112 => (intro wx hSx; (try dsimp only at hSx); go_simp; (try with_reducible rfl))
          try simp only [Act.put, List.setIfInBounds_toArray, List.set_cons_zero, List.set_cons_succ]
          refine wpAnyH_take (i := 11) (oi := ⟨some 87, _, _, _, _, _⟩) (v := ?v113) rfl (by kernel_rfl) (by kernel_rfl) (by kernel_rfl) (fun _ _ _ h => h) (Or.inl ⟨by rfl, ?y113⟩) (by assumption) ?r113
          case y113 => (intro wx hSx; (try dsimp only at hSx); go_simp; (try with_reducible rfl))
          try simp only [Act.put, List.setIfInBounds_toArray, List.set_cons_zero, List.set_cons_succ]
          refine wpAnyH_ready (rs := [8]) (by kernel_rfl) (by simp) ?_
          refine AllReadyH.cons (o := ⟨some 84, _, _, _, _, _⟩) rfl (fun K hK => ?_) AllReadyH.nil
          go_simp
          go_wp2_with ((go_at_call 10; (with_reducible refine (Read_conv1 HS.out.dk).mono ?_); rintro e w' ⟨A, l, c, rfl, hcv1, h', f'⟩; have nS := hid (HS.out.quiet f'); clear HS; have HS := nS; clear nS; clear h' f'))
          refine hK.out _ _ ?_ (fun hHeld2 => ?_)
          · ((try dsimp only); exact HS.out.keepg)
          clear hK K hHeld; have hHeld := hHeld2; clear hHeld2
          try simp only [Act.put, List.setIfInBounds_toArray, List.set_cons_zero, List.set_cons_succ]
          refine wpAnyH_ready (rs := [9]) (by kernel_rfl) (by simp) ?_
          refine AllReadyH.cons (o := ⟨some 85, _, _, _, _, _⟩) rfl (fun K hK => ?_) AllReadyH.nil
          go_simp
          go_wp2_with (fail)
          refine hK.out _ _ ?_ (fun hHeld2 => ?_)
          · ((try dsimp only); exact HS.out.keepg)
          clear hK K hHeld; have hHeld := hHeld2; clear hHeld2
          try simp only [Act.put, List.setIfInBounds_toArray, List.set_cons_zero, List.set_cons_succ]
          refine wpAnyH_take (i := 12) (oi := ⟨some 88, _, _, _, _, _⟩) (v := ?v114) rfl (by kernel_rfl) (by kernel_rfl) (by kernel_rfl) (fun _ _ _ h => h) (Or.inl ⟨by rfl, ?y114⟩) (by assumption) ?r114
          case y114 => (intro wx hSx; (try dsimp only at hSx); go_simp; (try with_reducible rfl))
          try simp only [Act.put, List.setIfInBounds_toArray, List.set_cons_zero, List.set_cons_succ]
          refine wpAnyH_take (i := 13) (oi := ⟨some 89, _, _, _, _, _⟩) (v := ?v115) rfl (by kernel_rfl) (by kernel_rfl) (by kernel_rfl) (fun _ _ _ h => h) (Or.inl ⟨by rfl, ?y115⟩) (by assumption) ?r115
          case y115 => (intro wx hSx; (try dsimp only at hSx); go_simp; (try with_reducible rfl))
          try simp only [Act.put, List.setIfInBounds_toArray, List.set_cons_zero, List.set_cons_succ]
          refine wpAnyH_take (i := 14) (oi := ⟨some 90, _, _, _, _, _⟩) (v := ?v116) rfl (by kernel_rfl) (by kernel_rfl) (by kernel_rfl) (fun _ _ _ h => h) (Or.inl ⟨by rfl, ?y116⟩) (by assumption) ?r116
          case y116 => (intro wx hSx; (try dsimp only at hSx); go_simp; (try with_reducible rfl))
          try simp only [Act.put, List.setIfInBounds_toArray, List.set_cons_zero, List.set_cons_succ]
          refine wpAnyH_take (i := 15) (oi := ⟨some 91, _, _, _, _, _⟩) (v := ?v117) rfl (by kernel_rfl) (by kernel_rfl) (by kernel_rfl) (fun _ _ _ h => h) (Or.inl ⟨by rfl, ?y117⟩) (by assumption) ?r117
          case y117 => (intro wx hSx; (try dsimp only at hSx); go_simp; (try with_reducible rfl))
          try simp only [Act.put, List.setIfInBounds_toArray, List.set_cons_zero, List.set_cons_succ]
          refine wpAnyH_ready (rs := [16]) (by kernel_rfl) (by simp) ?_
          refine AllReadyH.cons (o := ⟨some 92, _, _, _, _, _⟩) rfl (fun K hK => ?_) AllReadyH.nil
          go_simp
          go_wp2_with ((go_at_call 10; (with_reducible refine (Read_two HS.out.dk).mono ?_); rintro e w' ⟨A, c, rfl, f'⟩; have nS := hid (HS.out.quiet f'); clear HS; have HS := nS; clear nS; clear f'))
          refine hK.out _ _ ?_ (fun hHeld2 => ?_)
          · ((try dsimp only); exact HS.out.keepg)
          clear hK K hHeld; have hHeld := hHeld2; clear hHeld2
          try simp only [Act.put, List.setIfInBounds_toArray, List.set_cons_zero, List.set_cons_succ]
          refine wpAnyH_take (i := 17) (oi := ⟨some 93, _, _, _, _, _⟩) (v := ?v118) rfl (by kernel_rfl) (by kernel_rfl) (by kernel_rfl) (fun _ _ _ h => h) (Or.inl ⟨by rfl, ?y118⟩) (by assumption) ?r118
          case y118 => (intro wx hSx; (try dsimp only at hSx); go_simp; (try with_reducible rfl))
          try simp only [Act.put, List.setIfInBounds_toArray, List.set_cons_zero, List.set_cons_succ]
          refine wpAnyH_take (i := 18) (oi := ⟨some 94, _, _, _, _, _⟩) (v := ?v119) rfl (by kernel_rfl) (by kernel_rfl) (by kernel_rfl) (fun _ _ _ h => h) (Or.inl ⟨by rfl, ?y119⟩) (by assumption) ?r119
          case y119 => (intro wx hSx; (try dsimp only at hSx); go_simp; (try with_reducible rfl))
          try simp only [Act.put, List.setIfInBounds_toArray, List.set_cons_zero, List.set_cons_succ]
          refine wpAnyH_take (i := 19) (oi := ⟨some 95, _, _, _, _, _⟩) (v := ?v120) rfl (by kernel_rfl) (by kernel_rfl) (by kernel_rfl) (fun _ _ _ h => h) (Or.inl ⟨by rfl, ?y120⟩) (by assumption) ?r120
          case y120 => (intro wx hSx; (try dsimp only at hSx); go_simp; (try with_reducible rfl))
          try simp only [Act.put, List.setIfInBounds_toArray, List.set_cons_zero, List.set_cons_succ]
          refine wpAnyH_take (i := 20) (oi := ⟨some 96, _, _, _, _, _⟩) (v := ?v121) rfl (by kernel_rfl) (by kernel_rfl) (by kernel_rfl) (fun _ _ _ h => h) (Or.inl ⟨by rfl, ?y121⟩) (by assumption) ?r121
          case y121 => (intro wx hSx; (try dsimp only at hSx); go_simp; (try with_reducible rfl))
          try simp only [Act.put, List.setIfInBounds_toArray, List.set_cons_zero, List.set_cons_succ]
          refine wpAnyH_take (i := 21) (oi := ⟨some 97, _, _, _, _, _⟩) (v := ?v122) rfl (by kernel_rfl) (by kernel_rfl) (by kernel_rfl) (fun _ _ _ h => h) (Or.inl ⟨by rfl, ?y122⟩) (by assumption) ?r122
          case y122 => (intro wx hSx; (try dsimp only at hSx); go_simp; (try with_reducible rfl))
          try simp only [Act.put, List.setIfInBounds_toArray, List.set_cons_zero, List.set_cons_succ]
          refine wpAnyH_take (i := 23) (oi := ⟨some 99, _, _, _, _, _⟩) (v := ?v123) rfl (by kernel_rfl) (by kernel_rfl) (by kernel_rfl) (fun _ _ _ h => h) (Or.inl ⟨by rfl, ?y123⟩) (by assumption) ?r123
          case y123 => (intro wx hSx; (try dsimp only at hSx); go_simp; (try with_reducible rfl))
          try simp only [Act.put, List.setIfInBounds_toArray, List.set_cons_zero, List.set_cons_succ]
          refine wpAnyH_take (i := 24) (oi := ⟨some 100, _, _, _, _, _⟩) (v := ?v124) rfl (by kernel_rfl) (by kernel_rfl) (by kernel_rfl) (fun _ _ _ h => h) (Or.inl ⟨by rfl, ?y124⟩) (by assumption) ?r124
          case y124 => (intro wx hSx; (try dsimp only at hSx); go_simp; (try with_reducible rfl))
          try simp only [Act.put, List.setIfInBounds_toArray, List.set_cons_zero, List.set_cons_succ]
          refine wpAnyH_ready (rs := [22]) (by kernel_rfl) (by simp) ?_
          refine AllReadyH.cons (o := ⟨some 98, _, _, _, _, _⟩) rfl (fun K hK => ?_) AllReadyH.nil
          go_simp
          go_wp2_with ((go_at_call 11; (with_reducible refine (Armed_calls HS.out.dk).mono ?_); rintro e w' ⟨rfl, rfl⟩))
          refine hK.out _ _ ?_ (fun hHeld2 => ?_)
          · ((try dsimp only); exact HS.out.keepg)
          clear hK K hHeld; have hHeld := hHeld2; clear hHeld2
          try simp only [Act.put, List.setIfInBounds_toArray, List.set_cons_zero, List.set_cons_succ]
          refine wpAnyH_take (i := 25) (oi := ⟨some 101, _, _, _, _, _⟩) (v := ?v125) rfl (by kernel_rfl) (by kernel_rfl) (by kernel_rfl) (fun _ _ _ h => h) (Or.inl ⟨by rfl, ?y125⟩) (by assumption) ?r125
          case y125 => (intro wx hSx; (try dsimp only at hSx); go_simp; (try with_reducible rfl))
          try simp only [Act.put, List.setIfInBounds_toArray, List.set_cons_zero, List.set_cons_succ]
          refine wpAnyH_take (i := 26) (oi := ⟨some 102, _, _, _, _, _⟩) (v := ?v126) rfl (by kernel_rfl) (by kernel_rfl) (by kernel_rfl) (fun _ _ _ h => h) (Or.inl ⟨by rfl, ?y126⟩) (by assumption) ?r126
          case y126 => (intro wx hSx; (try dsimp only at hSx); go_simp; (try with_reducible rfl))
          try simp only [Act.put, List.setIfInBounds_toArray, List.set_cons_zero, List.set_cons_succ]
          refine wpAnyH_done (by kernel_rfl) ?_ _
          go_wp2_with (fail)
          go_roundw
          case rel => exact ⟨k + 1, x0, x1, true, n, by omega, .inl ⟨rfl, rfl⟩, by go_num, HS.out.back⟩
          case measure => simp [intOf]; omega
        · obtain rfl : ae = 0 := hae
          have gq0 := HS.out.cellg 0; have gz := HS.out.freeg 0
          simp only [List.getElem?_cons_succ, List.getElem?_cons_zero] at gq0
          have hcB := HS.out.conv HB.out
          have u0 := HS.out.cells 0; have u1 := HS.out.cells 1; have u3 := HS.out.cells 3
          simp only [List.getElem?_cons_succ, List.getElem?_cons_zero] at u0 u1 u3
          go_wp2_with (fail)
          generalize hwz : World.setCell _ _ _ = wz
          have nS := hid (show Stp w wz b g wr.heap.size [Value.int .i64 wh, Value.int .i64 0, Value.int .i64 nn, Value.slice sa bs.length sn] x0 x1 true n bs x1 from hwz ▸ HS.out.setg0 bs)
          clear HS hwz u0 u1 u3 hcB gq0 gz; have HS := nS; clear nS
          generalize wr.heap.size = sb at *
          obtain ⟨m, hm⟩ : ∃ m, m = min bs.length n.toNat := ⟨_, rfl⟩
          have e1 : (if (bs.length : Int) < n then (bs.length : Int) else n) = (m : Int) := by split <;> omega
          have m0 : (0 : Int) ≤ (m : Int) := by omega
          have m1 : (m : Int) ≤ (sn : Int) := by omega
          have hxl : (bs.take m).length = m := by rw [List.length_take]; omega
          have hmh := hid hm; clear hm
          refine wp_region_held_drew (S := fun wx => wx.cell? ⟨sb, 1, none⟩ = some (.int .i64 0) ∧ wx.cell? ⟨sb, 3, none⟩ = some (.slice sa bs.length sn) ∧ (convert 27 9 (.slice sa m sn)).run Try.prog wx = .ok (.string (strOfNums (bs.take m))) wx) (by kernel_rfl) (by (try dsimp only); exact (HS.out.drew.keepc HB.out hxl)) (fun hHeld => ?_)
          have nS := hid (HS.out.drew); clear HS; have HS := nS; clear nS
          have qg := HS.out.cellg 0; have qz := HS.out.freeg 0
          (simp only [List.getElem?_cons_succ, List.getElem?_cons_zero] at qg)
          refine wpAnyH_take (i := 0) (oi := ⟨some 55, _, _, _, _, _⟩) (v := ?v155) rfl (by kernel_rfl) (by kernel_rfl) (by kernel_rfl) (fun _ _ _ h => h) (Or.inl ⟨by rfl, ?y155⟩) (by assumption) ?r155
          case y155 => (intro wx hSx; (try dsimp only at hSx); go_simp; (try with_reducible rfl))
          try simp only [Act.put, List.setIfInBounds_toArray, List.set_cons_zero, List.set_cons_succ]
          refine wpAnyH_take (i := 1) (oi := ⟨some 56, _, _, _, _, _⟩) (v := ?v156) rfl (by kernel_rfl) (by kernel_rfl) (by kernel_rfl) (fun _ _ _ h => h) (Or.inl ⟨by rfl, ?y156⟩) (by assumption) ?r156
          case y156 => (intro wx hSx; (try dsimp only at hSx); go_simp; (try with_reducible rfl))
          try simp only [Act.put, List.setIfInBounds_toArray, List.set_cons_zero, List.set_cons_succ]
          refine wpAnyH_take (i := 2) (oi := ⟨some 57, _, _, _, _, _⟩) (v := ?v157) rfl (by kernel_rfl) (by kernel_rfl) (by kernel_rfl) (fun _ _ _ h => h) (Or.inl ⟨by rfl, ?y157⟩) (by assumption) ?r157
          case y157 => (intro wx hSx; (try dsimp only at hSx); go_simp; (try with_reducible rfl))
          try simp only [Act.put, List.setIfInBounds_toArray, List.set_cons_zero, List.set_cons_succ]
          refine wpAnyH_take (i := 3) (oi := ⟨some 58, _, _, _, _, _⟩) (v := ?v158) rfl (by kernel_rfl) (by kernel_rfl) (by kernel_rfl) (fun _ _ _ h => h) (Or.inl ⟨by rfl, ?y158⟩) (by assumption) ?r158
          case y158 => (intro wx hSx; (try dsimp only at hSx); go_simp; (try with_reducible rfl))
          try simp only [Act.put, List.setIfInBounds_toArray, List.set_cons_zero, List.set_cons_succ]
          refine wpAnyH_take (i := 4) (oi := ⟨some 59, _, _, _, _, _⟩) (v := ?v159) rfl (by kernel_rfl) (by kernel_rfl) (by kernel_rfl) (fun _ _ _ h => h) (Or.inl ⟨by rfl, ?y159⟩) (by assumption) ?r159
          case y159 => (intro wx hSx; (try dsimp only at hSx); go_simp; (try with_reducible rfl))
          try simp only [Act.put, List.setIfInBounds_toArray, List.set_cons_zero, List.set_cons_succ]
          refine wpAnyH_take (i := 5) (oi := ⟨some 60, _, _, _, _, _⟩) (v := ?v160) rfl (by kernel_rfl) (by kernel_rfl) (by kernel_rfl) (fun _ _ _ h => h) (Or.inl ⟨by rfl, ?y160⟩) (by assumption) ?r160
          case y160 => (intro wx hSx; (try dsimp only at hSx); go_simp; (try with_reducible rfl))
          try simp only [Act.put, List.setIfInBounds_toArray, List.set_cons_zero, List.set_cons_succ]
          refine wpAnyH_take (i := 6) (oi := ⟨some 61, _, _, _, _, _⟩) (v := ?v161) rfl (by kernel_rfl) (by kernel_rfl) (by kernel_rfl) (fun _ _ _ h => h) (Or.inl ⟨by rfl, ?y161⟩) (by assumption) ?r161
          case y161 => (intro wx hSx; (try dsimp only at hSx); go_simp; (try with_reducible rfl))
          try simp only [Act.put, List.setIfInBounds_toArray, List.set_cons_zero, List.set_cons_succ]
          refine wpAnyH_take (i := 7) (oi := ⟨some 62, _, _, _, _, _⟩) (v := ?v162) rfl (by kernel_rfl) (by kernel_rfl) (by kernel_rfl) (fun _ _ _ h => h) (Or.inl ⟨by rfl, ?y162⟩) (by assumption) ?r162
          case y162 => (intro wx hSx; (try dsimp only at hSx); go_simp; (try with_reducible rfl))
          try simp only [Act.put, List.setIfInBounds_toArray, List.set_cons_zero, List.set_cons_succ]
          refine wpAnyH_take (i := 8) (oi := ⟨some 63, _, _, _, _, _⟩) (v := ?v163) rfl (by kernel_rfl) (by kernel_rfl) (by kernel_rfl) (fun _ _ _ h => h) (Or.inl ⟨by rfl, ?y163⟩) (by assumption) ?r163
          case y163 => (intro wx hSx; (try dsimp only at hSx); go_simp; (try with_reducible rfl))
          try simp only [Act.put, List.setIfInBounds_toArray, List.set_cons_zero, List.set_cons_succ]
          refine wpAnyH_take (i := 9) (oi := ⟨some 64, _, _, _, _, _⟩) (v := ?v164) rfl (by kernel_rfl) (by kernel_rfl) (by kernel_rfl) (fun _ _ _ h => h) (Or.inl ⟨by rfl, ?y164⟩) (by assumption) ?r164
          case y164 => (intro wx hSx; (try dsimp only at hSx); go_simp; (try with_reducible rfl))
          try simp only [Act.put, List.setIfInBounds_toArray, List.set_cons_zero, List.set_cons_succ]
          refine wpAnyH_take (i := 10) (oi := ⟨some 65, _, _, _, _, _⟩) (v := ?v165) rfl (by kernel_rfl) (by kernel_rfl) (by kernel_rfl) (fun _ _ _ h => h) (Or.inl ⟨by rfl, ?y165⟩) (by assumption) ?r165
          case y165 => (intro wx hSx; (try dsimp only at hSx); go_simp; (try with_reducible rfl))
          try simp only [Act.put, List.setIfInBounds_toArray, List.set_cons_zero, List.set_cons_succ]
          refine wpAnyH_take (i := 11) (oi := ⟨some 66, _, _, _, _, _⟩) (v := ?v166) rfl (by kernel_rfl) (by kernel_rfl) (by kernel_rfl) (fun _ _ _ h => h) (Or.inl ⟨by rfl, ?y166⟩) (by assumption) ?r166
          case y166 => (intro wx hSx; (try dsimp only at hSx); go_simp; (try with_reducible rfl))
          try simp only [Act.put, List.setIfInBounds_toArray, List.set_cons_zero, List.set_cons_succ]
          refine wpAnyH_ready (rs := [12]) (by kernel_rfl) (by simp) ?_
          refine AllReadyH.cons (o := ⟨none, _, _, _, _, _⟩) rfl (fun K hK => ?_) AllReadyH.nil
          go_simp
          go_wp2_with (fail)
          refine hK.out _ _ ?_ (fun hHeld2 => ?_)
          · ((try dsimp only); exact (HS.out.setg0 (bs.take m)).keepc HB.out hxl)
          clear hK K hHeld; have hHeld := hHeld2; clear hHeld2
          try simp only [Act.put, List.setIfInBounds_toArray, List.set_cons_zero, List.set_cons_succ]
          refine wpAnyH_done (by kernel_rfl) ?_ _
          clear qg qz
          go_wp2_with (fail)
          generalize hwy : World.setCell _ _ _ = wy
          have nS := hid (show Stp w wy.drew b g sb [Value.int .i64 wh, Value.int .i64 0, Value.int .i64 nn, Value.slice sa bs.length sn] x0 x1 true n (bs.take m) x1 from hwy ▸ HS.out.setg0 (bs.take m))
          clear HS hwy; have HS := nS; clear nS
          refine wp_region_held_drew (S := fun wx => wx.cell? ⟨sb, 1, none⟩ = some (.int .i64 0) ∧ wx.cell? ⟨sb, 3, none⟩ = some (.slice sa bs.length sn)) (by kernel_rfl) (by (try dsimp only); exact HS.out.drew.keeps) (fun hHeld => ?_)
          have nS := hid (HS.out.drew); clear HS; have HS := nS; clear nS
          refine wpAnyH_take (i := 0) (oi := ⟨some 67, _, _, _, _, _⟩) (v := ?v167) rfl (by kernel_rfl) (by kernel_rfl) (by kernel_rfl) (fun _ _ _ h => h) (Or.inl ⟨by rfl, ?y167⟩) (by assumption) ?r167
          case y167 => (intro wx hSx; (try dsimp only at hSx); go_simp; (try with_reducible rfl))
          try simp only [Act.put, List.setIfInBounds_toArray, List.set_cons_zero, List.set_cons_succ]
          refine wpAnyH_take (i := 1) (oi := ⟨some 68, _, _, _, _, _⟩) (v := ?v168) rfl (by kernel_rfl) (by kernel_rfl) (by kernel_rfl) (fun _ _ _ h => h) (Or.inl ⟨by rfl, ?y168⟩) (by assumption) ?r168
          case y168 => (intro wx hSx; (try dsimp only at hSx); go_simp; (try with_reducible rfl))
          try simp only [Act.put, List.setIfInBounds_toArray, List.set_cons_zero, List.set_cons_succ]
          refine wpAnyH_take (i := 2) (oi := ⟨some 69, _, _, _, _, _⟩) (v := ?v169) rfl (by kernel_rfl) (by kernel_rfl) (by kernel_rfl) (fun _ _ _ h => h) (Or.inl ⟨by rfl, ?y169⟩) (by assumption) ?r169
          case y169 => (intro wx hSx; (try dsimp only at hSx); go_simp; (try with_reducible rfl))
          try simp only [Act.put, List.setIfInBounds_toArray, List.set_cons_zero, List.set_cons_succ]
          refine wpAnyH_take (i := 3) (oi := ⟨some 70, _, _, _, _, _⟩) (v := ?v170) rfl (by kernel_rfl) (by kernel_rfl) (by kernel_rfl) (fun _ _ _ h => h) (Or.inl ⟨by rfl, ?y170⟩) (by assumption) ?r170
          case y170 => (intro wx hSx; (try dsimp only at hSx); go_simp; (try with_reducible rfl))
          try simp only [Act.put, List.setIfInBounds_toArray, List.set_cons_zero, List.set_cons_succ]
          refine wpAnyH_take (i := 4) (oi := ⟨some 71, _, _, _, _, _⟩) (v := ?v171) rfl (by kernel_rfl) (by kernel_rfl) (by kernel_rfl) (fun _ _ _ h => h) (Or.inl ⟨by rfl, ?y171⟩) (by assumption) ?r171
          case y171 => (intro wx hSx; (try dsimp only at hSx); go_simp; (try with_reducible rfl))
          try simp only [Act.put, List.setIfInBounds_toArray, List.set_cons_zero, List.set_cons_succ]
          refine wpAnyH_take (i := 7) (oi := ⟨some 74, _, _, _, _, _⟩) (v := ?v172) rfl (by kernel_rfl) (by kernel_rfl) (by kernel_rfl) (fun _ _ _ h => h) (Or.inl ⟨by rfl, ?y172⟩) (by assumption) ?r172
          case y172 => (intro wx hSx; (try dsimp only at hSx); go_simp; (try with_reducible rfl))
          try simp only [Act.put, List.setIfInBounds_toArray, List.set_cons_zero, List.set_cons_succ]
          refine wpAnyH_ready (rs := [5]) (by kernel_rfl) (by simp) ?_
          refine AllReadyH.cons (o := ⟨some 72, _, _, _, _, _⟩) rfl (fun K hK => ?_) AllReadyH.nil
          obtain ⟨A', cp', wq, hrun, hIn, hfq, _⟩ := app_nil (HS.out.bytes HB.out) (by omega)
          refine step_run rfl _ _ _ _ rfl rfl rfl hrun ?_
          clear hrun
          have nS := hid (HS.out.quiet hfq); clear HS; have HS := nS; clear nS
          have hIn' := hid hIn; clear hIn hfq
          refine hK.out _ _ ?_ (fun hHeld2 => ?_)
          · ((try dsimp only); exact HS.out.keeps)
          clear hK K hHeld; have hHeld := hHeld2; clear hHeld2
          try simp only [Act.put, List.setIfInBounds_toArray, List.set_cons_zero, List.set_cons_succ]
          refine wpAnyH_ready (rs := [6]) (by kernel_rfl) (by simp) ?_
          refine AllReadyH.cons (o := ⟨some 73, _, _, _, _, _⟩) rfl (fun K hK => ?_) AllReadyH.nil
          go_simp
          go_wp2_with ((go_at_call 9; (with_reducible refine (Write_cut0 HS.out.dk hIn'.out (by omega) m hmh.out).mono ?_); rintro e w' ⟨rfl, h', f'⟩; have nS := hid (HS.out.disk h' f'); clear HS; have HS := nS; clear nS; clear h' f'))
          refine hK.out _ _ ?_ (fun hHeld2 => ?_)
          · ((try dsimp only); exact HS.out.keeps)
          clear hK K hHeld; have hHeld := hHeld2; clear hHeld2
          try simp only [Act.put, List.setIfInBounds_toArray, List.set_cons_zero, List.set_cons_succ]
          refine wpAnyH_take (i := 8) (oi := ⟨some 75, _, _, _, _, _⟩) (v := ?v173) rfl (by kernel_rfl) (by kernel_rfl) (by kernel_rfl) (fun _ _ _ h => h) (Or.inl ⟨by rfl, ?y173⟩) (by assumption) ?r173
          case y173 => (intro wx hSx; (try dsimp only at hSx); go_simp; (try with_reducible rfl))
          try simp only [Act.put, List.setIfInBounds_toArray, List.set_cons_zero, List.set_cons_succ]
          refine wpAnyH_done (by kernel_rfl) ?_ _
          go_wp2_with (fail)
          refine wp_region_held_drew (S := fun wx => wx.cell? ⟨g, 0, none⟩ = some (.string (strOfNums (bs.take m))) ∧ wx.cell? ⟨g, 1, none⟩ = some (.string (strOfNums x1))) (by kernel_rfl) (by (try dsimp only); exact HS.out.drew.keepg) (fun hHeld => ?_)
          have nS := hid (HS.out.drew); clear HS; have HS := nS; clear nS
          refine wpAnyH_take (i := 0) (oi := ⟨some 76, _, _, _, _, _⟩) (v := ?v174) rfl (by kernel_rfl) (by kernel_rfl) (by kernel_rfl) (fun _ _ _ h => h) (Or.inl ⟨by rfl, ?y174⟩) (by assumption) ?r174
          case y174 => (intro wx hSx; (try dsimp only at hSx); go_simp; (try with_reducible rfl))
          try simp only [Act.put, List.setIfInBounds_toArray, List.set_cons_zero, List.set_cons_succ]
          refine wpAnyH_take (i := 3) (oi := ⟨some 79, _, _, _, _, _⟩) (v := ?v175) rfl (by kernel_rfl) (by kernel_rfl) (by kernel_rfl) (fun _ _ _ h => h) (Or.inl ⟨by rfl, ?y175⟩) (by assumption) ?r175
          case y175 => (intro wx hSx; (try dsimp only at hSx); go_simp; (try with_reducible rfl))
          try simp only [Act.put, List.setIfInBounds_toArray, List.set_cons_zero, List.set_cons_succ]
          refine wpAnyH_take (i := 4) (oi := ⟨some 80, _, _, _, _, _⟩) (v := ?v176) rfl (by kernel_rfl) (by kernel_rfl) (by kernel_rfl) (fun _ _ _ h => h) (Or.inl ⟨by rfl, ?y176⟩) (by assumption) ?r176
          case y176 => (intro wx hSx; (try dsimp only at hSx); go_simp; (try with_reducible rfl))
          try simp only [Act.put, List.setIfInBounds_toArray, List.set_cons_zero, List.set_cons_succ]
          refine wpAnyH_ready (rs := [1]) (by kernel_rfl) (by simp) ?_
          refine AllReadyH.cons (o := ⟨some 77, _, _, _, _, _⟩) rfl (fun K hK => ?_) AllReadyH.nil
          go_simp
          go_wp2_with ((go_at_call 10; (with_reducible refine (Read_conv0 HS.out.dk).mono ?_); rintro e w' ⟨A, l, c, rfl, hcv0, h', f'⟩; have nS := hid (HS.out.quiet f'); clear HS; have HS := nS; clear nS; clear h' f'))
          refine hK.out _ _ ?_ (fun hHeld2 => ?_)
          · ((try dsimp only); exact HS.out.keepg)
          clear hK K hHeld; have hHeld := hHeld2; clear hHeld2
          try simp only [Act.put, List.setIfInBounds_toArray, List.set_cons_zero, List.set_cons_succ]
          refine wpAnyH_ready (rs := [2]) (by kernel_rfl) (by simp) ?_
          refine AllReadyH.cons (o := ⟨some 78, _, _, _, _, _⟩) rfl (fun K hK => ?_) AllReadyH.nil
          go_simp
          go_wp2_with (fail)
          refine hK.out _ _ ?_ (fun hHeld2 => ?_)
          · ((try dsimp only); exact HS.out.keepg)
          clear hK K hHeld; have hHeld := hHeld2; clear hHeld2
          try simp only [Act.put, List.setIfInBounds_toArray, List.set_cons_zero, List.set_cons_succ]
          refine wpAnyH_take (i := 5) (oi := ⟨some 81, _, _, _, _, _⟩) (v := ?v177) rfl (by kernel_rfl) (by kernel_rfl) (by kernel_rfl) (fun _ _ _ h => h) (Or.inl ⟨by rfl, ?y177⟩) (by assumption) ?r177
          case y177 => (intro wx hSx; (try dsimp only at hSx); go_simp; (try with_reducible rfl))
          try simp only [Act.put, List.setIfInBounds_toArray, List.set_cons_zero, List.set_cons_succ]
          refine wpAnyH_take (i := 6) (oi := ⟨some 82, _, _, _, _, _⟩) (v := ?v178) rfl (by kernel_rfl) (by kernel_rfl) (by kernel_rfl) (fun _ _ _ h => h) (Or.inl ⟨by rfl, ?y178⟩) (by assumption) ?r178
          case y178 => (intro wx hSx; (try dsimp only at hSx); go_simp; (try with_reducible rfl))
          try simp only [Act.put, List.setIfInBounds_toArray, List.set_cons_zero, List.set_cons_succ]
          refine wpAnyH_take (i := 7) (oi := ⟨some 83, _, _, _, _, _⟩) (v := ?v179) rfl (by kernel_rfl) (by kernel_rfl) (by kernel_rfl) (fun _ _ _ h => h) (Or.inl ⟨by rfl, ?y179⟩) (by assumption) ?r179
          case y179 => (intro wx hSx; (try dsimp only at hSx); go_simp; (try with_reducible rfl))
          try simp only [Act.put, List.setIfInBounds_toArray, List.set_cons_zero, List.set_cons_succ]
          refine wpAnyH_take (i := 10) (oi := ⟨some 86, _, _, _, _, _⟩) (v := ?v180) rfl (by kernel_rfl) (by kernel_rfl) (by kernel_rfl) (fun _ _ _ h => h) (Or.inl ⟨by rfl, ?y180⟩) (by assumption) ?r180
          case y180 => (intro wx hSx; (try dsimp only at hSx); go_simp; (try with_reducible rfl))
          try simp only [Act.put, List.setIfInBounds_toArray, List.set_cons_zero, List.set_cons_succ]
          refine wpAnyH_take (i := 11) (oi := ⟨some 87, _, _, _, _, _⟩) (v := ?v181) rfl (by kernel_rfl) (by kernel_rfl) (by kernel_rfl) (fun _ _ _ h => h) (Or.inl ⟨by rfl, ?y181⟩) (by assumption) ?r181
          case y181 => (intro wx hSx; (try dsimp only at hSx); go_simp; (try with_reducible rfl))
          try simp only [Act.put, List.setIfInBounds_toArray, List.set_cons_zero, List.set_cons_succ]
          refine wpAnyH_ready (rs := [8]) (by kernel_rfl) (by simp) ?_
          refine AllReadyH.cons (o := ⟨some 84, _, _, _, _, _⟩) rfl (fun K hK => ?_) AllReadyH.nil
          go_simp
          go_wp2_with ((go_at_call 10; (with_reducible refine (Read_conv1 HS.out.dk).mono ?_); rintro e w' ⟨A, l, c, rfl, hcv1, h', f'⟩; have nS := hid (HS.out.quiet f'); clear HS; have HS := nS; clear nS; clear h' f'))
          refine hK.out _ _ ?_ (fun hHeld2 => ?_)
          · ((try dsimp only); exact HS.out.keepg)
          clear hK K hHeld; have hHeld := hHeld2; clear hHeld2
          try simp only [Act.put, List.setIfInBounds_toArray, List.set_cons_zero, List.set_cons_succ]
          refine wpAnyH_ready (rs := [9]) (by kernel_rfl) (by simp) ?_
          refine AllReadyH.cons (o := ⟨some 85, _, _, _, _, _⟩) rfl (fun K hK => ?_) AllReadyH.nil
          go_simp
          go_wp2_with (fail)
          refine hK.out _ _ ?_ (fun hHeld2 => ?_)
          · ((try dsimp only); exact HS.out.keepg)
          clear hK K hHeld; have hHeld := hHeld2; clear hHeld2
          try simp only [Act.put, List.setIfInBounds_toArray, List.set_cons_zero, List.set_cons_succ]
          refine wpAnyH_take (i := 12) (oi := ⟨some 88, _, _, _, _, _⟩) (v := ?v182) rfl (by kernel_rfl) (by kernel_rfl) (by kernel_rfl) (fun _ _ _ h => h) (Or.inl ⟨by rfl, ?y182⟩) (by assumption) ?r182
          case y182 => (intro wx hSx; (try dsimp only at hSx); go_simp; (try with_reducible rfl))
          try simp only [Act.put, List.setIfInBounds_toArray, List.set_cons_zero, List.set_cons_succ]
          refine wpAnyH_take (i := 13) (oi := ⟨some 89, _, _, _, _, _⟩) (v := ?v183) rfl (by kernel_rfl) (by kernel_rfl) (by kernel_rfl) (fun _ _ _ h => h) (Or.inl ⟨by rfl, ?y183⟩) (by assumption) ?r183
          case y183 => (intro wx hSx; (try dsimp only at hSx); go_simp; (try with_reducible rfl))
          try simp only [Act.put, List.setIfInBounds_toArray, List.set_cons_zero, List.set_cons_succ]
          refine wpAnyH_take (i := 14) (oi := ⟨some 90, _, _, _, _, _⟩) (v := ?v184) rfl (by kernel_rfl) (by kernel_rfl) (by kernel_rfl) (fun _ _ _ h => h) (Or.inl ⟨by rfl, ?y184⟩) (by assumption) ?r184
          case y184 => (intro wx hSx; (try dsimp only at hSx); go_simp; (try with_reducible rfl))
          try simp only [Act.put, List.setIfInBounds_toArray, List.set_cons_zero, List.set_cons_succ]
          refine wpAnyH_take (i := 15) (oi := ⟨some 91, _, _, _, _, _⟩) (v := ?v185) rfl (by kernel_rfl) (by kernel_rfl) (by kernel_rfl) (fun _ _ _ h => h) (Or.inl ⟨by rfl, ?y185⟩) (by assumption) ?r185
          case y185 => (intro wx hSx; (try dsimp only at hSx); go_simp; (try with_reducible rfl))
          try simp only [Act.put, List.setIfInBounds_toArray, List.set_cons_zero, List.set_cons_succ]
          refine wpAnyH_ready (rs := [16]) (by kernel_rfl) (by simp) ?_
          refine AllReadyH.cons (o := ⟨some 92, _, _, _, _, _⟩) rfl (fun K hK => ?_) AllReadyH.nil
          go_simp
          go_wp2_with ((go_at_call 10; (with_reducible refine (Read_two HS.out.dk).mono ?_); rintro e w' ⟨A, c, rfl, f'⟩; have nS := hid (HS.out.quiet f'); clear HS; have HS := nS; clear nS; clear f'))
          refine hK.out _ _ ?_ (fun hHeld2 => ?_)
          · ((try dsimp only); exact HS.out.keepg)
          clear hK K hHeld; have hHeld := hHeld2; clear hHeld2
          try simp only [Act.put, List.setIfInBounds_toArray, List.set_cons_zero, List.set_cons_succ]
          refine wpAnyH_take (i := 17) (oi := ⟨some 93, _, _, _, _, _⟩) (v := ?v186) rfl (by kernel_rfl) (by kernel_rfl) (by kernel_rfl) (fun _ _ _ h => h) (Or.inl ⟨by rfl, ?y186⟩) (by assumption) ?r186
          case y186 => (intro wx hSx; (try dsimp only at hSx); go_simp; (try with_reducible rfl))
          try simp only [Act.put, List.setIfInBounds_toArray, List.set_cons_zero, List.set_cons_succ]
          refine wpAnyH_take (i := 18) (oi := ⟨some 94, _, _, _, _, _⟩) (v := ?v187) rfl (by kernel_rfl) (by kernel_rfl) (by kernel_rfl) (fun _ _ _ h => h) (Or.inl ⟨by rfl, ?y187⟩) (by assumption) ?r187
          case y187 => (intro wx hSx; (try dsimp only at hSx); go_simp; (try with_reducible rfl))
          try simp only [Act.put, List.setIfInBounds_toArray, List.set_cons_zero, List.set_cons_succ]
          refine wpAnyH_take (i := 19) (oi := ⟨some 95, _, _, _, _, _⟩) (v := ?v188) rfl (by kernel_rfl) (by kernel_rfl) (by kernel_rfl) (fun _ _ _ h => h) (Or.inl ⟨by rfl, ?y188⟩) (by assumption) ?r188
          case y188 => (intro wx hSx; (try dsimp only at hSx); go_simp; (try with_reducible rfl))
          try simp only [Act.put, List.setIfInBounds_toArray, List.set_cons_zero, List.set_cons_succ]
          refine wpAnyH_take (i := 20) (oi := ⟨some 96, _, _, _, _, _⟩) (v := ?v189) rfl (by kernel_rfl) (by kernel_rfl) (by kernel_rfl) (fun _ _ _ h => h) (Or.inl ⟨by rfl, ?y189⟩) (by assumption) ?r189
          case y189 => (intro wx hSx; (try dsimp only at hSx); go_simp; (try with_reducible rfl))
          try simp only [Act.put, List.setIfInBounds_toArray, List.set_cons_zero, List.set_cons_succ]
          refine wpAnyH_take (i := 21) (oi := ⟨some 97, _, _, _, _, _⟩) (v := ?v190) rfl (by kernel_rfl) (by kernel_rfl) (by kernel_rfl) (fun _ _ _ h => h) (Or.inl ⟨by rfl, ?y190⟩) (by assumption) ?r190
          case y190 => (intro wx hSx; (try dsimp only at hSx); go_simp; (try with_reducible rfl))
          try simp only [Act.put, List.setIfInBounds_toArray, List.set_cons_zero, List.set_cons_succ]
          refine wpAnyH_take (i := 23) (oi := ⟨some 99, _, _, _, _, _⟩) (v := ?v191) rfl (by kernel_rfl) (by kernel_rfl) (by kernel_rfl) (fun _ _ _ h => h) (Or.inl ⟨by rfl, ?y191⟩) (by assumption) ?r191
          case y191 => (intro wx hSx; (try dsimp only at hSx); go_simp; (try with_reducible rfl))
          try simp only [Act.put, List.setIfInBounds_toArray, List.set_cons_zero, List.set_cons_succ]
          refine wpAnyH_take (i := 24) (oi := ⟨some 100, _, _, _, _, _⟩) (v := ?v192) rfl (by kernel_rfl) (by kernel_rfl) (by kernel_rfl) (fun _ _ _ h => h) (Or.inl ⟨by rfl, ?y192⟩) (by assumption) ?r192
          case y192 => (intro wx hSx; (try dsimp only at hSx); go_simp; (try with_reducible rfl))
          try simp only [Act.put, List.setIfInBounds_toArray, List.set_cons_zero, List.set_cons_succ]
          refine wpAnyH_ready (rs := [22]) (by kernel_rfl) (by simp) ?_
          refine AllReadyH.cons (o := ⟨some 98, _, _, _, _, _⟩) rfl (fun K hK => ?_) AllReadyH.nil
          go_simp
          go_wp2_with ((go_at_call 11; (with_reducible refine (Armed_calls HS.out.dk).mono ?_); rintro e w' ⟨rfl, rfl⟩))
          refine hK.out _ _ ?_ (fun hHeld2 => ?_)
          · ((try dsimp only); exact HS.out.keepg)
          clear hK K hHeld; have hHeld := hHeld2; clear hHeld2
          try simp only [Act.put, List.setIfInBounds_toArray, List.set_cons_zero, List.set_cons_succ]
          refine wpAnyH_take (i := 25) (oi := ⟨some 101, _, _, _, _, _⟩) (v := ?v193) rfl (by kernel_rfl) (by kernel_rfl) (by kernel_rfl) (fun _ _ _ h => h) (Or.inl ⟨by rfl, ?y193⟩) (by assumption) ?r193
          case y193 => (intro wx hSx; (try dsimp only at hSx); go_simp; (try with_reducible rfl))
          try simp only [Act.put, List.setIfInBounds_toArray, List.set_cons_zero, List.set_cons_succ]
          refine wpAnyH_take (i := 26) (oi := ⟨some 102, _, _, _, _, _⟩) (v := ?v194) rfl (by kernel_rfl) (by kernel_rfl) (by kernel_rfl) (fun _ _ _ h => h) (Or.inl ⟨by rfl, ?y194⟩) (by assumption) ?r194
          case y194 => (intro wx hSx; (try dsimp only at hSx); go_simp; (try with_reducible rfl))
          try simp only [Act.put, List.setIfInBounds_toArray, List.set_cons_zero, List.set_cons_succ]
          refine wpAnyH_done (by kernel_rfl) ?_ _
          go_wp2_with (fail)
          go_roundw
          case rel => exact ⟨k + 1, (bs.take m), x1, false, 0, by omega, .inr ⟨rfl, rfl⟩, by go_num, HS.out.back⟩
          case measure => simp [intOf]; omega
        · obtain rfl : ae = 1 := hae
          have gq1 := HS.out.cellg 1; have gz := HS.out.freeg 1
          simp only [List.getElem?_cons_succ, List.getElem?_cons_zero] at gq1
          have hcB := HS.out.conv HB.out
          have u0 := HS.out.cells 0; have u1 := HS.out.cells 1; have u3 := HS.out.cells 3
          simp only [List.getElem?_cons_succ, List.getElem?_cons_zero] at u0 u1 u3
          go_wp2_with (fail)
          generalize hwz : World.setCell _ _ _ = wz
          have nS := hid (show Stp w wz b g wr.heap.size [Value.int .i64 wh, Value.int .i64 1, Value.int .i64 nn, Value.slice sa bs.length sn] x0 x1 true n x0 bs from hwz ▸ HS.out.setg1 bs)
          clear HS hwz u0 u1 u3 hcB gq1 gz; have HS := nS; clear nS
          generalize wr.heap.size = sb at *
          obtain ⟨m, hm⟩ : ∃ m, m = min bs.length n.toNat := ⟨_, rfl⟩
          have e1 : (if (bs.length : Int) < n then (bs.length : Int) else n) = (m : Int) := by split <;> omega
          have m0 : (0 : Int) ≤ (m : Int) := by omega
          have m1 : (m : Int) ≤ (sn : Int) := by omega
          have hxl : (bs.take m).length = m := by rw [List.length_take]; omega
          have hmh := hid hm; clear hm
          refine wp_region_held_drew (S := fun wx => wx.cell? ⟨sb, 1, none⟩ = some (.int .i64 1) ∧ wx.cell? ⟨sb, 3, none⟩ = some (.slice sa bs.length sn) ∧ (convert 27 9 (.slice sa m sn)).run Try.prog wx = .ok (.string (strOfNums (bs.take m))) wx) (by kernel_rfl) (by (try dsimp only); exact (HS.out.drew.keepc HB.out hxl)) (fun hHeld => ?_)
          have nS := hid (HS.out.drew); clear HS; have HS := nS; clear nS
          have qg := HS.out.cellg 1; have qz := HS.out.freeg 1
          (simp only [List.getElem?_cons_succ, List.getElem?_cons_zero] at qg)
          refine wpAnyH_take (i := 0) (oi := ⟨some 55, _, _, _, _, _⟩) (v := ?v223) rfl (by kernel_rfl) (by kernel_rfl) (by kernel_rfl) (fun _ _ _ h => h) (Or.inl ⟨by rfl, ?y223⟩) (by assumption) ?r223
          case y223 => (intro wx hSx; (try dsimp only at hSx); go_simp; (try with_reducible rfl))
          try simp only [Act.put, List.setIfInBounds_toArray, List.set_cons_zero, List.set_cons_succ]
          refine wpAnyH_take (i := 1) (oi := ⟨some 56, _, _, _, _, _⟩) (v := ?v224) rfl (by kernel_rfl) (by kernel_rfl) (by kernel_rfl) (fun _ _ _ h => h) (Or.inl ⟨by rfl, ?y224⟩) (by assumption) ?r224
          case y224 => (intro wx hSx; (try dsimp only at hSx); go_simp; (try with_reducible rfl))
          try simp only [Act.put, List.setIfInBounds_toArray, List.set_cons_zero, List.set_cons_succ]
          refine wpAnyH_take (i := 2) (oi := ⟨some 57, _, _, _, _, _⟩) (v := ?v225) rfl (by kernel_rfl) (by kernel_rfl) (by kernel_rfl) (fun _ _ _ h => h) (Or.inl ⟨by rfl, ?y225⟩) (by assumption) ?r225
          case y225 => (intro wx hSx; (try dsimp only at hSx); go_simp; (try with_reducible rfl))
          try simp only [Act.put, List.setIfInBounds_toArray, List.set_cons_zero, List.set_cons_succ]
          refine wpAnyH_take (i := 3) (oi := ⟨some 58, _, _, _, _, _⟩) (v := ?v226) rfl (by kernel_rfl) (by kernel_rfl) (by kernel_rfl) (fun _ _ _ h => h) (Or.inl ⟨by rfl, ?y226⟩) (by assumption) ?r226
          case y226 => (intro wx hSx; (try dsimp only at hSx); go_simp; (try with_reducible rfl))
          try simp only [Act.put, List.setIfInBounds_toArray, List.set_cons_zero, List.set_cons_succ]
          refine wpAnyH_take (i := 4) (oi := ⟨some 59, _, _, _, _, _⟩) (v := ?v227) rfl (by kernel_rfl) (by kernel_rfl) (by kernel_rfl) (fun _ _ _ h => h) (Or.inl ⟨by rfl, ?y227⟩) (by assumption) ?r227
          case y227 => (intro wx hSx; (try dsimp only at hSx); go_simp; (try with_reducible rfl))
          try simp only [Act.put, List.setIfInBounds_toArray, List.set_cons_zero, List.set_cons_succ]
          refine wpAnyH_take (i := 5) (oi := ⟨some 60, _, _, _, _, _⟩) (v := ?v228) rfl (by kernel_rfl) (by kernel_rfl) (by kernel_rfl) (fun _ _ _ h => h) (Or.inl ⟨by rfl, ?y228⟩) (by assumption) ?r228
          case y228 => (intro wx hSx; (try dsimp only at hSx); go_simp; (try with_reducible rfl))
          try simp only [Act.put, List.setIfInBounds_toArray, List.set_cons_zero, List.set_cons_succ]
          refine wpAnyH_take (i := 6) (oi := ⟨some 61, _, _, _, _, _⟩) (v := ?v229) rfl (by kernel_rfl) (by kernel_rfl) (by kernel_rfl) (fun _ _ _ h => h) (Or.inl ⟨by rfl, ?y229⟩) (by assumption) ?r229
          case y229 => (intro wx hSx; (try dsimp only at hSx); go_simp; (try with_reducible rfl))
          try simp only [Act.put, List.setIfInBounds_toArray, List.set_cons_zero, List.set_cons_succ]
          refine wpAnyH_take (i := 7) (oi := ⟨some 62, _, _, _, _, _⟩) (v := ?v230) rfl (by kernel_rfl) (by kernel_rfl) (by kernel_rfl) (fun _ _ _ h => h) (Or.inl ⟨by rfl, ?y230⟩) (by assumption) ?r230
          case y230 => (intro wx hSx; (try dsimp only at hSx); go_simp; (try with_reducible rfl))
          try simp only [Act.put, List.setIfInBounds_toArray, List.set_cons_zero, List.set_cons_succ]
          refine wpAnyH_take (i := 8) (oi := ⟨some 63, _, _, _, _, _⟩) (v := ?v231) rfl (by kernel_rfl) (by kernel_rfl) (by kernel_rfl) (fun _ _ _ h => h) (Or.inl ⟨by rfl, ?y231⟩) (by assumption) ?r231
          case y231 => (intro wx hSx; (try dsimp only at hSx); go_simp; (try with_reducible rfl))
          try simp only [Act.put, List.setIfInBounds_toArray, List.set_cons_zero, List.set_cons_succ]
          refine wpAnyH_take (i := 9) (oi := ⟨some 64, _, _, _, _, _⟩) (v := ?v232) rfl (by kernel_rfl) (by kernel_rfl) (by kernel_rfl) (fun _ _ _ h => h) (Or.inl ⟨by rfl, ?y232⟩) (by assumption) ?r232
          case y232 => (intro wx hSx; (try dsimp only at hSx); go_simp; (try with_reducible rfl))
          try simp only [Act.put, List.setIfInBounds_toArray, List.set_cons_zero, List.set_cons_succ]
          refine wpAnyH_take (i := 10) (oi := ⟨some 65, _, _, _, _, _⟩) (v := ?v233) rfl (by kernel_rfl) (by kernel_rfl) (by kernel_rfl) (fun _ _ _ h => h) (Or.inl ⟨by rfl, ?y233⟩) (by assumption) ?r233
          case y233 => (intro wx hSx; (try dsimp only at hSx); go_simp; (try with_reducible rfl))
          try simp only [Act.put, List.setIfInBounds_toArray, List.set_cons_zero, List.set_cons_succ]
          refine wpAnyH_take (i := 11) (oi := ⟨some 66, _, _, _, _, _⟩) (v := ?v234) rfl (by kernel_rfl) (by kernel_rfl) (by kernel_rfl) (fun _ _ _ h => h) (Or.inl ⟨by rfl, ?y234⟩) (by assumption) ?r234
          case y234 => (intro wx hSx; (try dsimp only at hSx); go_simp; (try with_reducible rfl))
          try simp only [Act.put, List.setIfInBounds_toArray, List.set_cons_zero, List.set_cons_succ]
          refine wpAnyH_ready (rs := [12]) (by kernel_rfl) (by simp) ?_
          refine AllReadyH.cons (o := ⟨none, _, _, _, _, _⟩) rfl (fun K hK => ?_) AllReadyH.nil
          go_simp
          go_wp2_with (fail)
          refine hK.out _ _ ?_ (fun hHeld2 => ?_)
          · ((try dsimp only); exact (HS.out.setg1 (bs.take m)).keepc HB.out hxl)
          clear hK K hHeld; have hHeld := hHeld2; clear hHeld2
          try simp only [Act.put, List.setIfInBounds_toArray, List.set_cons_zero, List.set_cons_succ]
          refine wpAnyH_done (by kernel_rfl) ?_ _
          clear qg qz
          go_wp2_with (fail)
          generalize hwy : World.setCell _ _ _ = wy
          have nS := hid (show Stp w wy.drew b g sb [Value.int .i64 wh, Value.int .i64 1, Value.int .i64 nn, Value.slice sa bs.length sn] x0 x1 true n x0 (bs.take m) from hwy ▸ HS.out.setg1 (bs.take m))
          clear HS hwy; have HS := nS; clear nS
          refine wp_region_held_drew (S := fun wx => wx.cell? ⟨sb, 1, none⟩ = some (.int .i64 1) ∧ wx.cell? ⟨sb, 3, none⟩ = some (.slice sa bs.length sn)) (by kernel_rfl) (by (try dsimp only); exact HS.out.drew.keeps) (fun hHeld => ?_)
          have nS := hid (HS.out.drew); clear HS; have HS := nS; clear nS
          refine wpAnyH_take (i := 0) (oi := ⟨some 67, _, _, _, _, _⟩) (v := ?v235) rfl (by kernel_rfl) (by kernel_rfl) (by kernel_rfl) (fun _ _ _ h => h) (Or.inl ⟨by rfl, ?y235⟩) (by assumption) ?r235
          case y235 => (intro wx hSx; (try dsimp only at hSx); go_simp; (try with_reducible rfl))
          try simp only [Act.put, List.setIfInBounds_toArray, List.set_cons_zero, List.set_cons_succ]
          refine wpAnyH_take (i := 1) (oi := ⟨some 68, _, _, _, _, _⟩) (v := ?v236) rfl (by kernel_rfl) (by kernel_rfl) (by kernel_rfl) (fun _ _ _ h => h) (Or.inl ⟨by rfl, ?y236⟩) (by assumption) ?r236
          case y236 => (intro wx hSx; (try dsimp only at hSx); go_simp; (try with_reducible rfl))
          try simp only [Act.put, List.setIfInBounds_toArray, List.set_cons_zero, List.set_cons_succ]
          refine wpAnyH_take (i := 2) (oi := ⟨some 69, _, _, _, _, _⟩) (v := ?v237) rfl (by kernel_rfl) (by kernel_rfl) (by kernel_rfl) (fun _ _ _ h => h) (Or.inl ⟨by rfl, ?y237⟩) (by assumption) ?r237
          case y237 => (intro wx hSx; (try dsimp only at hSx); go_simp; (try with_reducible rfl))
          try simp only [Act.put, List.setIfInBounds_toArray, List.set_cons_zero, List.set_cons_succ]
          refine wpAnyH_take (i := 3) (oi := ⟨some 70, _, _, _, _, _⟩) (v := ?v238) rfl (by kernel_rfl) (by kernel_rfl) (by kernel_rfl) (fun _ _ _ h => h) (Or.inl ⟨by rfl, ?y238⟩) (by assumption) ?r238
          case y238 => (intro wx hSx; (try dsimp only at hSx); go_simp; (try with_reducible rfl))
          try simp only [Act.put, List.setIfInBounds_toArray, List.set_cons_zero, List.set_cons_succ]
          refine wpAnyH_take (i := 4) (oi := ⟨some 71, _, _, _, _, _⟩) (v := ?v239) rfl (by kernel_rfl) (by kernel_rfl) (by kernel_rfl) (fun _ _ _ h => h) (Or.inl ⟨by rfl, ?y239⟩) (by assumption) ?r239
          case y239 => (intro wx hSx; (try dsimp only at hSx); go_simp; (try with_reducible rfl))
          try simp only [Act.put, List.setIfInBounds_toArray, List.set_cons_zero, List.set_cons_succ]
          refine wpAnyH_take (i := 7) (oi := ⟨some 74, _, _, _, _, _⟩) (v := ?v240) rfl (by kernel_rfl) (by kernel_rfl) (by kernel_rfl) (fun _ _ _ h => h) (Or.inl ⟨by rfl, ?y240⟩) (by assumption) ?r240
          case y240 => (intro wx hSx; (try dsimp only at hSx); go_simp; (try with_reducible rfl))
          try simp only [Act.put, List.setIfInBounds_toArray, List.set_cons_zero, List.set_cons_succ]
          refine wpAnyH_ready (rs := [5]) (by kernel_rfl) (by simp) ?_
          refine AllReadyH.cons (o := ⟨some 72, _, _, _, _, _⟩) rfl (fun K hK => ?_) AllReadyH.nil
          obtain ⟨A', cp', wq, hrun, hIn, hfq, _⟩ := app_nil (HS.out.bytes HB.out) (by omega)
          refine step_run rfl _ _ _ _ rfl rfl rfl hrun ?_
          clear hrun
          have nS := hid (HS.out.quiet hfq); clear HS; have HS := nS; clear nS
          have hIn' := hid hIn; clear hIn hfq
          refine hK.out _ _ ?_ (fun hHeld2 => ?_)
          · ((try dsimp only); exact HS.out.keeps)
          clear hK K hHeld; have hHeld := hHeld2; clear hHeld2
          try simp only [Act.put, List.setIfInBounds_toArray, List.set_cons_zero, List.set_cons_succ]
          refine wpAnyH_ready (rs := [6]) (by kernel_rfl) (by simp) ?_
          refine AllReadyH.cons (o := ⟨some 73, _, _, _, _, _⟩) rfl (fun K hK => ?_) AllReadyH.nil
          go_simp
          go_wp2_with ((go_at_call 9; (with_reducible refine (Write_cut1 HS.out.dk hIn'.out (by omega) m hmh.out).mono ?_); rintro e w' ⟨rfl, h', f'⟩; have nS := hid (HS.out.disk h' f'); clear HS; have HS := nS; clear nS; clear h' f'))
          refine hK.out _ _ ?_ (fun hHeld2 => ?_)
          · ((try dsimp only); exact HS.out.keeps)
          clear hK K hHeld; have hHeld := hHeld2; clear hHeld2
          try simp only [Act.put, List.setIfInBounds_toArray, List.set_cons_zero, List.set_cons_succ]
          refine wpAnyH_take (i := 8) (oi := ⟨some 75, _, _, _, _, _⟩) (v := ?v241) rfl (by kernel_rfl) (by kernel_rfl) (by kernel_rfl) (fun _ _ _ h => h) (Or.inl ⟨by rfl, ?y241⟩) (by assumption) ?r241
          case y241 => (intro wx hSx; (try dsimp only at hSx); go_simp; (try with_reducible rfl))
          try simp only [Act.put, List.setIfInBounds_toArray, List.set_cons_zero, List.set_cons_succ]
          refine wpAnyH_done (by kernel_rfl) ?_ _
          go_wp2_with (fail)
          refine wp_region_held_drew (S := fun wx => wx.cell? ⟨g, 0, none⟩ = some (.string (strOfNums x0)) ∧ wx.cell? ⟨g, 1, none⟩ = some (.string (strOfNums (bs.take m)))) (by kernel_rfl) (by (try dsimp only); exact HS.out.drew.keepg) (fun hHeld => ?_)
          have nS := hid (HS.out.drew); clear HS; have HS := nS; clear nS
          refine wpAnyH_take (i := 0) (oi := ⟨some 76, _, _, _, _, _⟩) (v := ?v242) rfl (by kernel_rfl) (by kernel_rfl) (by kernel_rfl) (fun _ _ _ h => h) (Or.inl ⟨by rfl, ?y242⟩) (by assumption) ?r242
          case y242 => (intro wx hSx; (try dsimp only at hSx); go_simp; (try with_reducible rfl))
          try simp only [Act.put, List.setIfInBounds_toArray, List.set_cons_zero, List.set_cons_succ]
          refine wpAnyH_take (i := 3) (oi := ⟨some 79, _, _, _, _, _⟩) (v := ?v243) rfl (by kernel_rfl) (by kernel_rfl) (by kernel_rfl) (fun _ _ _ h => h) (Or.inl ⟨by rfl, ?y243⟩) (by assumption) ?r243
          case y243 => (intro wx hSx; (try dsimp only at hSx); go_simp; (try with_reducible rfl))
          try simp only [Act.put, List.setIfInBounds_toArray, List.set_cons_zero, List.set_cons_succ]
          refine wpAnyH_take (i := 4) (oi := ⟨some 80, _, _, _, _, _⟩) (v := ?v244) rfl (by kernel_rfl) (by kernel_rfl) (by kernel_rfl) (fun _ _ _ h => h) (Or.inl ⟨by rfl, ?y244⟩) (by assumption) ?r244
          case y244 => (intro wx hSx; (try dsimp only at hSx); go_simp; (try with_reducible rfl))
          try simp only [Act.put, List.setIfInBounds_toArray, List.set_cons_zero, List.set_cons_succ]
          refine wpAnyH_ready (rs := [1]) (by kernel_rfl) (by simp) ?_
          refine AllReadyH.cons (o := ⟨some 77, _, _, _, _, _⟩) rfl (fun K hK => ?_) AllReadyH.nil
          go_simp
          go_wp2_with ((go_at_call 10; (with_reducible refine (Read_conv0 HS.out.dk).mono ?_); rintro e w' ⟨A, l, c, rfl, hcv0, h', f'⟩; have nS := hid (HS.out.quiet f'); clear HS; have HS := nS; clear nS; clear h' f'))
          refine hK.out _ _ ?_ (fun hHeld2 => ?_)
          · ((try dsimp only); exact HS.out.keepg)
          clear hK K hHeld; have hHeld := hHeld2; clear hHeld2
          try simp only [Act.put, List.setIfInBounds_toArray, List.set_cons_zero, List.set_cons_succ]
          refine wpAnyH_ready (rs := [2]) (by kernel_rfl) (by simp) ?_
          refine AllReadyH.cons (o := ⟨some 78, _, _, _, _, _⟩) rfl (fun K hK => ?_) AllReadyH.nil
          go_simp
          go_wp2_with (fail)
          refine hK.out _ _ ?_ (fun hHeld2 => ?_)
          · ((try dsimp only); exact HS.out.keepg)
          clear hK K hHeld; have hHeld := hHeld2; clear hHeld2
          try simp only [Act.put, List.setIfInBounds_toArray, List.set_cons_zero, List.set_cons_succ]
          refine wpAnyH_take (i := 5) (oi := ⟨some 81, _, _, _, _, _⟩) (v := ?v245) rfl (by kernel_rfl) (by kernel_rfl) (by kernel_rfl) (fun _ _ _ h => h) (Or.inl ⟨by rfl, ?y245⟩) (by assumption) ?r245
          case y245 => (intro wx hSx; (try dsimp only at hSx); go_simp; (try with_reducible rfl))
          try simp only [Act.put, List.setIfInBounds_toArray, List.set_cons_zero, List.set_cons_succ]
          refine wpAnyH_take (i := 6) (oi := ⟨some 82, _, _, _, _, _⟩) (v := ?v246) rfl (by kernel_rfl) (by kernel_rfl) (by kernel_rfl) (fun _ _ _ h => h) (Or.inl ⟨by rfl, ?y246⟩) (by assumption) ?r246
          case y246 => (intro wx hSx; (try dsimp only at hSx); go_simp; (try with_reducible rfl))
          try simp only [Act.put, List.setIfInBounds_toArray, List.set_cons_zero, List.set_cons_succ]
          refine wpAnyH_take (i := 7) (oi := ⟨some 83, _, _, _, _, _⟩) (v := ?v247) rfl (by kernel_rfl) (by kernel_rfl) (by kernel_rfl) (fun _ _ _ h => h) (Or.inl ⟨by rfl, ?y247⟩) (by assumption) ?r247
          case y247 => (intro wx hSx; (try dsimp only at hSx); go_simp; (try with_reducible rfl))
          try simp only [Act.put, List.setIfInBounds_toArray, List.set_cons_zero, List.set_cons_succ]
          refine wpAnyH_take (i := 10) (oi := ⟨some 86, _, _, _, _, _⟩) (v := ?v248) rfl (by kernel_rfl) (by kernel_rfl) (by kernel_rfl) (fun _ _ _ h => h) (Or.inl ⟨by rfl, ?y248⟩) (by assumption) ?r248
          case y248 => (intro wx hSx; (try dsimp only at hSx); go_simp; (try with_reducible rfl))
          try simp only [Act.put, List.setIfInBounds_toArray, List.set_cons_zero, List.set_cons_succ]
          refine wpAnyH_take (i := 11) (oi := ⟨some 87, _, _, _, _, _⟩) (v := ?v249) rfl (by kernel_rfl) (by kernel_rfl) (by kernel_rfl) (fun _ _ _ h => h) (Or.inl ⟨by rfl, ?y249⟩) (by assumption) ?r249
          case y249 => (intro wx hSx; (try dsimp only at hSx); go_simp; (try with_reducible rfl))
          try simp only [Act.put, List.setIfInBounds_toArray, List.set_cons_zero, List.set_cons_succ]
          refine wpAnyH_ready (rs := [8]) (by kernel_rfl) (by simp) ?_
          refine AllReadyH.cons (o := ⟨some 84, _, _, _, _, _⟩) rfl (fun K hK => ?_) AllReadyH.nil
          go_simp
          go_wp2_with ((go_at_call 10; (with_reducible refine (Read_conv1 HS.out.dk).mono ?_); rintro e w' ⟨A, l, c, rfl, hcv1, h', f'⟩; have nS := hid (HS.out.quiet f'); clear HS; have HS := nS; clear nS; clear h' f'))
          refine hK.out _ _ ?_ (fun hHeld2 => ?_)
          · ((try dsimp only); exact HS.out.keepg)
          clear hK K hHeld; have hHeld := hHeld2; clear hHeld2
          try simp only [Act.put, List.setIfInBounds_toArray, List.set_cons_zero, List.set_cons_succ]
          refine wpAnyH_ready (rs := [9]) (by kernel_rfl) (by simp) ?_
          refine AllReadyH.cons (o := ⟨some 85, _, _, _, _, _⟩) rfl (fun K hK => ?_) AllReadyH.nil
          go_simp
          go_wp2_with (fail)
          refine hK.out _ _ ?_ (fun hHeld2 => ?_)
          · ((try dsimp only); exact HS.out.keepg)
          clear hK K hHeld; have hHeld := hHeld2; clear hHeld2
          try simp only [Act.put, List.setIfInBounds_toArray, List.set_cons_zero, List.set_cons_succ]
          refine wpAnyH_take (i := 12) (oi := ⟨some 88, _, _, _, _, _⟩) (v := ?v250) rfl (by kernel_rfl) (by kernel_rfl) (by kernel_rfl) (fun _ _ _ h => h) (Or.inl ⟨by rfl, ?y250⟩) (by assumption) ?r250
          case y250 => (intro wx hSx; (try dsimp only at hSx); go_simp; (try with_reducible rfl))
          try simp only [Act.put, List.setIfInBounds_toArray, List.set_cons_zero, List.set_cons_succ]
          refine wpAnyH_take (i := 13) (oi := ⟨some 89, _, _, _, _, _⟩) (v := ?v251) rfl (by kernel_rfl) (by kernel_rfl) (by kernel_rfl) (fun _ _ _ h => h) (Or.inl ⟨by rfl, ?y251⟩) (by assumption) ?r251
          case y251 => (intro wx hSx; (try dsimp only at hSx); go_simp; (try with_reducible rfl))
          try simp only [Act.put, List.setIfInBounds_toArray, List.set_cons_zero, List.set_cons_succ]
          refine wpAnyH_take (i := 14) (oi := ⟨some 90, _, _, _, _, _⟩) (v := ?v252) rfl (by kernel_rfl) (by kernel_rfl) (by kernel_rfl) (fun _ _ _ h => h) (Or.inl ⟨by rfl, ?y252⟩) (by assumption) ?r252
          case y252 => (intro wx hSx; (try dsimp only at hSx); go_simp; (try with_reducible rfl))
          try simp only [Act.put, List.setIfInBounds_toArray, List.set_cons_zero, List.set_cons_succ]
          refine wpAnyH_take (i := 15) (oi := ⟨some 91, _, _, _, _, _⟩) (v := ?v253) rfl (by kernel_rfl) (by kernel_rfl) (by kernel_rfl) (fun _ _ _ h => h) (Or.inl ⟨by rfl, ?y253⟩) (by assumption) ?r253
          case y253 => (intro wx hSx; (try dsimp only at hSx); go_simp; (try with_reducible rfl))
          try simp only [Act.put, List.setIfInBounds_toArray, List.set_cons_zero, List.set_cons_succ]
          refine wpAnyH_ready (rs := [16]) (by kernel_rfl) (by simp) ?_
          refine AllReadyH.cons (o := ⟨some 92, _, _, _, _, _⟩) rfl (fun K hK => ?_) AllReadyH.nil
          go_simp
          go_wp2_with ((go_at_call 10; (with_reducible refine (Read_two HS.out.dk).mono ?_); rintro e w' ⟨A, c, rfl, f'⟩; have nS := hid (HS.out.quiet f'); clear HS; have HS := nS; clear nS; clear f'))
          refine hK.out _ _ ?_ (fun hHeld2 => ?_)
          · ((try dsimp only); exact HS.out.keepg)
          clear hK K hHeld; have hHeld := hHeld2; clear hHeld2
          try simp only [Act.put, List.setIfInBounds_toArray, List.set_cons_zero, List.set_cons_succ]
          refine wpAnyH_take (i := 17) (oi := ⟨some 93, _, _, _, _, _⟩) (v := ?v254) rfl (by kernel_rfl) (by kernel_rfl) (by kernel_rfl) (fun _ _ _ h => h) (Or.inl ⟨by rfl, ?y254⟩) (by assumption) ?r254
          case y254 => (intro wx hSx; (try dsimp only at hSx); go_simp; (try with_reducible rfl))
          try simp only [Act.put, List.setIfInBounds_toArray, List.set_cons_zero, List.set_cons_succ]
          refine wpAnyH_take (i := 18) (oi := ⟨some 94, _, _, _, _, _⟩) (v := ?v255) rfl (by kernel_rfl) (by kernel_rfl) (by kernel_rfl) (fun _ _ _ h => h) (Or.inl ⟨by rfl, ?y255⟩) (by assumption) ?r255
          case y255 => (intro wx hSx; (try dsimp only at hSx); go_simp; (try with_reducible rfl))
          try simp only [Act.put, List.setIfInBounds_toArray, List.set_cons_zero, List.set_cons_succ]
          refine wpAnyH_take (i := 19) (oi := ⟨some 95, _, _, _, _, _⟩) (v := ?v256) rfl (by kernel_rfl) (by kernel_rfl) (by kernel_rfl) (fun _ _ _ h => h) (Or.inl ⟨by rfl, ?y256⟩) (by assumption) ?r256
          case y256 => (intro wx hSx; (try dsimp only at hSx); go_simp; (try with_reducible rfl))
          try simp only [Act.put, List.setIfInBounds_toArray, List.set_cons_zero, List.set_cons_succ]
          refine wpAnyH_take (i := 20) (oi := ⟨some 96, _, _, _, _, _⟩) (v := ?v257) rfl (by kernel_rfl) (by kernel_rfl) (by kernel_rfl) (fun _ _ _ h => h) (Or.inl ⟨by rfl, ?y257⟩) (by assumption) ?r257
          case y257 => (intro wx hSx; (try dsimp only at hSx); go_simp; (try with_reducible rfl))
          try simp only [Act.put, List.setIfInBounds_toArray, List.set_cons_zero, List.set_cons_succ]
          refine wpAnyH_take (i := 21) (oi := ⟨some 97, _, _, _, _, _⟩) (v := ?v258) rfl (by kernel_rfl) (by kernel_rfl) (by kernel_rfl) (fun _ _ _ h => h) (Or.inl ⟨by rfl, ?y258⟩) (by assumption) ?r258
          case y258 => (intro wx hSx; (try dsimp only at hSx); go_simp; (try with_reducible rfl))
          try simp only [Act.put, List.setIfInBounds_toArray, List.set_cons_zero, List.set_cons_succ]
          refine wpAnyH_take (i := 23) (oi := ⟨some 99, _, _, _, _, _⟩) (v := ?v259) rfl (by kernel_rfl) (by kernel_rfl) (by kernel_rfl) (fun _ _ _ h => h) (Or.inl ⟨by rfl, ?y259⟩) (by assumption) ?r259
          case y259 => (intro wx hSx; (try dsimp only at hSx); go_simp; (try with_reducible rfl))
          try simp only [Act.put, List.setIfInBounds_toArray, List.set_cons_zero, List.set_cons_succ]
          refine wpAnyH_take (i := 24) (oi := ⟨some 100, _, _, _, _, _⟩) (v := ?v260) rfl (by kernel_rfl) (by kernel_rfl) (by kernel_rfl) (fun _ _ _ h => h) (Or.inl ⟨by rfl, ?y260⟩) (by assumption) ?r260
          case y260 => (intro wx hSx; (try dsimp only at hSx); go_simp; (try with_reducible rfl))
          try simp only [Act.put, List.setIfInBounds_toArray, List.set_cons_zero, List.set_cons_succ]
          refine wpAnyH_ready (rs := [22]) (by kernel_rfl) (by simp) ?_
          refine AllReadyH.cons (o := ⟨some 98, _, _, _, _, _⟩) rfl (fun K hK => ?_) AllReadyH.nil
          go_simp
          go_wp2_with ((go_at_call 11; (with_reducible refine (Armed_calls HS.out.dk).mono ?_); rintro e w' ⟨rfl, rfl⟩))
          refine hK.out _ _ ?_ (fun hHeld2 => ?_)
          · ((try dsimp only); exact HS.out.keepg)
          clear hK K hHeld; have hHeld := hHeld2; clear hHeld2
          try simp only [Act.put, List.setIfInBounds_toArray, List.set_cons_zero, List.set_cons_succ]
          refine wpAnyH_take (i := 25) (oi := ⟨some 101, _, _, _, _, _⟩) (v := ?v261) rfl (by kernel_rfl) (by kernel_rfl) (by kernel_rfl) (fun _ _ _ h => h) (Or.inl ⟨by rfl, ?y261⟩) (by assumption) ?r261
          case y261 => (intro wx hSx; (try dsimp only at hSx); go_simp; (try with_reducible rfl))
          try simp only [Act.put, List.setIfInBounds_toArray, List.set_cons_zero, List.set_cons_succ]
          refine wpAnyH_take (i := 26) (oi := ⟨some 102, _, _, _, _, _⟩) (v := ?v262) rfl (by kernel_rfl) (by kernel_rfl) (by kernel_rfl) (fun _ _ _ h => h) (Or.inl ⟨by rfl, ?y262⟩) (by assumption) ?r262
          case y262 => (intro wx hSx; (try dsimp only at hSx); go_simp; (try with_reducible rfl))
          try simp only [Act.put, List.setIfInBounds_toArray, List.set_cons_zero, List.set_cons_succ]
          refine wpAnyH_done (by kernel_rfl) ?_ _
          go_wp2_with (fail)
          go_roundw
          case rel => exact ⟨k + 1, x0, (bs.take m), false, 0, by omega, .inr ⟨rfl, rfl⟩, by go_num, HS.out.back⟩
          case measure => simp [intOf]; omega
      · rcases hae with hae | hae | hae | hae
        · have u0 := HS.out.cells 0; have u1 := HS.out.cells 1; have u3 := HS.out.cells 3
          simp only [List.getElem?_cons_succ, List.getElem?_cons_zero] at u0 u1 u3
          go_wp2_with (fail)
          generalize hwz : World.alloc _ _ = wz
          have nS := hid (show Stp w wz b g wr.heap.size [Value.int .i64 wh, Value.int .i64 ae, Value.int .i64 nn, Value.slice sa bs.length sn] x0 x1 false n x0 x1 from hwz ▸ HS.out)
          clear HS hwz u0 u1 u3; have HS := nS; clear nS
          generalize wr.heap.size = sb at *
          refine wp_region_held_drew (S := fun wx => wx.cell? ⟨sb, 1, none⟩ = some (.int .i64 ae) ∧ wx.cell? ⟨sb, 3, none⟩ = some (.slice sa bs.length sn)) (by kernel_rfl) (by (try dsimp only); exact HS.out.drew.keeps) (fun hHeld => ?_)
          have nS := hid (HS.out.drew); clear HS; have HS := nS; clear nS
          refine wpAnyH_take (i := 0) (oi := ⟨some 67, _, _, _, _, _⟩) (v := ?v50) rfl (by kernel_rfl) (by kernel_rfl) (by kernel_rfl) (fun _ _ _ h => h) (Or.inl ⟨by rfl, ?y50⟩) (by assumption) ?r50
          case y50 => (intro wx hSx; (try dsimp only at hSx); go_simp; (try with_reducible rfl))
          try simp only [Act.put, List.setIfInBounds_toArray, List.set_cons_zero, List.set_cons_succ]
          refine wpAnyH_take (i := 1) (oi := ⟨some 68, _, _, _, _, _⟩) (v := ?v51) rfl (by kernel_rfl) (by kernel_rfl) (by kernel_rfl) (fun _ _ _ h => h) (Or.inl ⟨by rfl, ?y51⟩) (by assumption) ?r51
          case y51 => (intro wx hSx; (try dsimp only at hSx); go_simp; (try with_reducible rfl))
          try simp only [Act.put, List.setIfInBounds_toArray, List.set_cons_zero, List.set_cons_succ]
          refine wpAnyH_take (i := 2) (oi := ⟨some 69, _, _, _, _, _⟩) (v := ?v52) rfl (by kernel_rfl) (by kernel_rfl) (by kernel_rfl) (fun _ _ _ h => h) (Or.inl ⟨by rfl, ?y52⟩) (by assumption) ?r52
          case y52 => (intro wx hSx; (try dsimp only at hSx); go_simp; (try with_reducible rfl))
          try simp only [Act.put, List.setIfInBounds_toArray, List.set_cons_zero, List.set_cons_succ]
          refine wpAnyH_take (i := 3) (oi := ⟨some 70, _, _, _, _, _⟩) (v := ?v53) rfl (by kernel_rfl) (by kernel_rfl) (by kernel_rfl) (fun _ _ _ h => h) (Or.inl ⟨by rfl, ?y53⟩) (by assumption) ?r53
          case y53 => (intro wx hSx; (try dsimp only at hSx); go_simp; (try with_reducible rfl))
          try simp only [Act.put, List.setIfInBounds_toArray, List.set_cons_zero, List.set_cons_succ]
          refine wpAnyH_take (i := 4) (oi := ⟨some 71, _, _, _, _, _⟩) (v := ?v54) rfl (by kernel_rfl) (by kernel_rfl) (by kernel_rfl) (fun _ _ _ h => h) (Or.inl ⟨by rfl, ?y54⟩) (by assumption) ?r54
          case y54 => (intro wx hSx; (try dsimp only at hSx); go_simp; (try with_reducible rfl))
          try simp only [Act.put, List.setIfInBounds_toArray, List.set_cons_zero, List.set_cons_succ]
          refine wpAnyH_take (i := 7) (oi := ⟨some 74, _, _, _, _, _⟩) (v := ?v55) rfl (by kernel_rfl) (by kernel_rfl) (by kernel_rfl) (fun _ _ _ h => h) (Or.inl ⟨by rfl, ?y55⟩) (by assumption) ?r55
          case y55 => (intro wx hSx; (try dsimp only at hSx); go_simp; (try with_reducible rfl))
          try simp only [Act.put, List.setIfInBounds_toArray, List.set_cons_zero, List.set_cons_succ]
          refine wpAnyH_ready (rs := [5]) (by kernel_rfl) (by simp) ?_
          refine AllReadyH.cons (o := ⟨some 72, _, _, _, _, _⟩) rfl (fun K hK => ?_) AllReadyH.nil
          obtain ⟨A', cp', wq, hrun, hIn, hfq, _⟩ := app_nil (HS.out.bytes HB.out) (by omega)
          refine step_run rfl _ _ _ _ rfl rfl rfl hrun ?_
          clear hrun
          have nS := hid (HS.out.quiet hfq); clear HS; have HS := nS; clear nS
          have hIn' := hid hIn; clear hIn hfq
          refine hK.out _ _ ?_ (fun hHeld2 => ?_)
          · ((try dsimp only); exact HS.out.keeps)
          clear hK K hHeld; have hHeld := hHeld2; clear hHeld2
          try simp only [Act.put, List.setIfInBounds_toArray, List.set_cons_zero, List.set_cons_succ]
          refine wpAnyH_ready (rs := [6]) (by kernel_rfl) (by simp) ?_
          refine AllReadyH.cons (o := ⟨some 73, _, _, _, _, _⟩) rfl (fun K hK => ?_) AllReadyH.nil
          go_simp
          go_wp2_with ((go_at_call 9; (with_reducible refine (Write_none ae (by first | exact .inl (by omega) | exact .inr (by omega))).mono ?_); rintro e w' ⟨rfl, rfl⟩))
          refine hK.out _ _ ?_ (fun hHeld2 => ?_)
          · ((try dsimp only); exact HS.out.keeps)
          clear hK K hHeld; have hHeld := hHeld2; clear hHeld2
          try simp only [Act.put, List.setIfInBounds_toArray, List.set_cons_zero, List.set_cons_succ]
          refine wpAnyH_take (i := 8) (oi := ⟨some 75, _, _, _, _, _⟩) (v := ?v56) rfl (by kernel_rfl) (by kernel_rfl) (by kernel_rfl) (fun _ _ _ h => h) (Or.inl ⟨by rfl, ?y56⟩) (by assumption) ?r56
          case y56 => (intro wx hSx; (try dsimp only at hSx); go_simp; (try with_reducible rfl))
          try simp only [Act.put, List.setIfInBounds_toArray, List.set_cons_zero, List.set_cons_succ]
          refine wpAnyH_done (by kernel_rfl) ?_ _
          go_wp2_with (fail)
          refine wp_region_held_drew (S := fun wx => wx.cell? ⟨g, 0, none⟩ = some (.string (strOfNums x0)) ∧ wx.cell? ⟨g, 1, none⟩ = some (.string (strOfNums x1))) (by kernel_rfl) (by (try dsimp only); exact HS.out.drew.keepg) (fun hHeld => ?_)
          have nS := hid (HS.out.drew); clear HS; have HS := nS; clear nS
          refine wpAnyH_take (i := 0) (oi := ⟨some 76, _, _, _, _, _⟩) (v := ?v57) rfl (by kernel_rfl) (by kernel_rfl) (by kernel_rfl) (fun _ _ _ h => h) (Or.inl ⟨by rfl, ?y57⟩) (by assumption) ?r57
          case y57 => (intro wx hSx; (try dsimp only at hSx); go_simp; (try with_reducible rfl))
          try simp only [Act.put, List.setIfInBounds_toArray, List.set_cons_zero, List.set_cons_succ]
          refine wpAnyH_take (i := 3) (oi := ⟨some 79, _, _, _, _, _⟩) (v := ?v58) rfl (by kernel_rfl) (by kernel_rfl) (by kernel_rfl) (fun _ _ _ h => h) (Or.inl ⟨by rfl, ?y58⟩) (by assumption) ?r58
          case y58 => (intro wx hSx; (try dsimp only at hSx); go_simp; (try with_reducible rfl))
          try simp only [Act.put, List.setIfInBounds_toArray, List.set_cons_zero, List.set_cons_succ]
          refine wpAnyH_take (i := 4) (oi := ⟨some 80, _, _, _, _, _⟩) (v := ?v59) rfl (by kernel_rfl) (by kernel_rfl) (by kernel_rfl) (fun _ _ _ h => h) (Or.inl ⟨by rfl, ?y59⟩) (by assumption) ?r59
          case y59 => (intro wx hSx; (try dsimp only at hSx); go_simp; (try with_reducible rfl))
          try simp only [Act.put, List.setIfInBounds_toArray, List.set_cons_zero, List.set_cons_succ]
          refine wpAnyH_ready (rs := [1]) (by kernel_rfl) (by simp) ?_
          refine AllReadyH.cons (o := ⟨some 77, _, _, _, _, _⟩) rfl (fun K hK => ?_) AllReadyH.nil
          go_simp
          go_wp2_with ((go_at_call 10; (with_reducible refine (Read_conv0 HS.out.dk).mono ?_); rintro e w' ⟨A, l, c, rfl, hcv0, h', f'⟩; have nS := hid (HS.out.quiet f'); clear HS; have HS := nS; clear nS; clear h' f'))
          refine hK.out _ _ ?_ (fun hHeld2 => ?_)
          · ((try dsimp only); exact HS.out.keepg)
          clear hK K hHeld; have hHeld := hHeld2; clear hHeld2
          try simp only [Act.put, List.setIfInBounds_toArray, List.set_cons_zero, List.set_cons_succ]
          refine wpAnyH_ready (rs := [2]) (by kernel_rfl) (by simp) ?_
          refine AllReadyH.cons (o := ⟨some 78, _, _, _, _, _⟩) rfl (fun K hK => ?_) AllReadyH.nil
          go_simp
          go_wp2_with (fail)
          refine hK.out _ _ ?_ (fun hHeld2 => ?_)
          · ((try dsimp only); exact HS.out.keepg)
          clear hK K hHeld; have hHeld := hHeld2; clear hHeld2
          try simp only [Act.put, List.setIfInBounds_toArray, List.set_cons_zero, List.set_cons_succ]
          refine wpAnyH_take (i := 5) (oi := ⟨some 81, _, _, _, _, _⟩) (v := ?v60) rfl (by kernel_rfl) (by kernel_rfl) (by kernel_rfl) (fun _ _ _ h => h) (Or.inl ⟨by rfl, ?y60⟩) (by assumption) ?r60
          case y60 => (intro wx hSx; (try dsimp only at hSx); go_simp; (try with_reducible rfl))
          try simp only [Act.put, List.setIfInBounds_toArray, List.set_cons_zero, List.set_cons_succ]
          refine wpAnyH_take (i := 6) (oi := ⟨some 82, _, _, _, _, _⟩) (v := ?v61) rfl (by kernel_rfl) (by kernel_rfl) (by kernel_rfl) (fun _ _ _ h => h) (Or.inl ⟨by rfl, ?y61⟩) (by assumption) ?r61
          case y61 => (intro wx hSx; (try dsimp only at hSx); go_simp; (try with_reducible rfl))
          try simp only [Act.put, List.setIfInBounds_toArray, List.set_cons_zero, List.set_cons_succ]
          refine wpAnyH_take (i := 7) (oi := ⟨some 83, _, _, _, _, _⟩) (v := ?v62) rfl (by kernel_rfl) (by kernel_rfl) (by kernel_rfl) (fun _ _ _ h => h) (Or.inl ⟨by rfl, ?y62⟩) (by assumption) ?r62
          case y62 => (intro wx hSx; (try dsimp only at hSx); go_simp; (try with_reducible rfl))
          try simp only [Act.put, List.setIfInBounds_toArray, List.set_cons_zero, List.set_cons_succ]
          refine wpAnyH_take (i := 10) (oi := ⟨some 86, _, _, _, _, _⟩) (v := ?v63) rfl (by kernel_rfl) (by kernel_rfl) (by kernel_rfl) (fun _ _ _ h => h) (Or.inl ⟨by rfl, ?y63⟩) (by assumption) ?r63
          case y63 => (intro wx hSx; (try dsimp only at hSx); go_simp; (try with_reducible rfl))
          try simp only [Act.put, List.setIfInBounds_toArray, List.set_cons_zero, List.set_cons_succ]
          refine wpAnyH_take (i := 11) (oi := ⟨some 87, _, _, _, _, _⟩) (v := ?v64) rfl (by kernel_rfl) (by kernel_rfl) (by kernel_rfl) (fun _ _ _ h => h) (Or.inl ⟨by rfl, ?y64⟩) (by assumption) ?r64
          case y64 => (intro wx hSx; (try dsimp only at hSx); go_simp; (try with_reducible rfl))
          try simp only [Act.put, List.setIfInBounds_toArray, List.set_cons_zero, List.set_cons_succ]
          refine wpAnyH_ready (rs := [8]) (by kernel_rfl) (by simp) ?_
          refine AllReadyH.cons (o := ⟨some 84, _, _, _, _, _⟩) rfl (fun K hK => ?_) AllReadyH.nil
          go_simp
          go_wp2_with ((go_at_call 10; (with_reducible refine (Read_conv1 HS.out.dk).mono ?_); rintro e w' ⟨A, l, c, rfl, hcv1, h', f'⟩; have nS := hid (HS.out.quiet f'); clear HS; have HS := nS; clear nS; clear h' f'))
          refine hK.out _ _ ?_ (fun hHeld2 => ?_)
          · ((try dsimp only); exact HS.out.keepg)
          clear hK K hHeld; have hHeld := hHeld2; clear hHeld2
          try simp only [Act.put, List.setIfInBounds_toArray, List.set_cons_zero, List.set_cons_succ]
          refine wpAnyH_ready (rs := [9]) (by kernel_rfl) (by simp) ?_
          refine AllReadyH.cons (o := ⟨some 85, _, _, _, _, _⟩) rfl (fun K hK => ?_) AllReadyH.nil
          go_simp
          go_wp2_with (fail)
          refine hK.out _ _ ?_ (fun hHeld2 => ?_)
          · ((try dsimp only); exact HS.out.keepg)
          clear hK K hHeld; have hHeld := hHeld2; clear hHeld2
          try simp only [Act.put, List.setIfInBounds_toArray, List.set_cons_zero, List.set_cons_succ]
          refine wpAnyH_take (i := 12) (oi := ⟨some 88, _, _, _, _, _⟩) (v := ?v65) rfl (by kernel_rfl) (by kernel_rfl) (by kernel_rfl) (fun _ _ _ h => h) (Or.inl ⟨by rfl, ?y65⟩) (by assumption) ?r65
          case y65 => (intro wx hSx; (try dsimp only at hSx); go_simp; (try with_reducible rfl))
          try simp only [Act.put, List.setIfInBounds_toArray, List.set_cons_zero, List.set_cons_succ]
          refine wpAnyH_take (i := 13) (oi := ⟨some 89, _, _, _, _, _⟩) (v := ?v66) rfl (by kernel_rfl) (by kernel_rfl) (by kernel_rfl) (fun _ _ _ h => h) (Or.inl ⟨by rfl, ?y66⟩) (by assumption) ?r66
          case y66 => (intro wx hSx; (try dsimp only at hSx); go_simp; (try with_reducible rfl))
          try simp only [Act.put, List.setIfInBounds_toArray, List.set_cons_zero, List.set_cons_succ]
          refine wpAnyH_take (i := 14) (oi := ⟨some 90, _, _, _, _, _⟩) (v := ?v67) rfl (by kernel_rfl) (by kernel_rfl) (by kernel_rfl) (fun _ _ _ h => h) (Or.inl ⟨by rfl, ?y67⟩) (by assumption) ?r67
          case y67 => (intro wx hSx; (try dsimp only at hSx); go_simp; (try with_reducible rfl))
          try simp only [Act.put, List.setIfInBounds_toArray, List.set_cons_zero, List.set_cons_succ]
          refine wpAnyH_take (i := 15) (oi := ⟨some 91, _, _, _, _, _⟩) (v := ?v68) rfl (by kernel_rfl) (by kernel_rfl) (by kernel_rfl) (fun _ _ _ h => h) (Or.inl ⟨by rfl, ?y68⟩) (by assumption) ?r68
          case y68 => (intro wx hSx; (try dsimp only at hSx); go_simp; (try with_reducible rfl))
          try simp only [Act.put, List.setIfInBounds_toArray, List.set_cons_zero, List.set_cons_succ]
          refine wpAnyH_ready (rs := [16]) (by kernel_rfl) (by simp) ?_
          refine AllReadyH.cons (o := ⟨some 92, _, _, _, _, _⟩) rfl (fun K hK => ?_) AllReadyH.nil
          go_simp
          go_wp2_with ((go_at_call 10; (with_reducible refine (Read_two HS.out.dk).mono ?_); rintro e w' ⟨A, c, rfl, f'⟩; have nS := hid (HS.out.quiet f'); clear HS; have HS := nS; clear nS; clear f'))
          refine hK.out _ _ ?_ (fun hHeld2 => ?_)
          · ((try dsimp only); exact HS.out.keepg)
          clear hK K hHeld; have hHeld := hHeld2; clear hHeld2
          try simp only [Act.put, List.setIfInBounds_toArray, List.set_cons_zero, List.set_cons_succ]
          refine wpAnyH_take (i := 17) (oi := ⟨some 93, _, _, _, _, _⟩) (v := ?v69) rfl (by kernel_rfl) (by kernel_rfl) (by kernel_rfl) (fun _ _ _ h => h) (Or.inl ⟨by rfl, ?y69⟩) (by assumption) ?r69
          case y69 => (intro wx hSx; (try dsimp only at hSx); go_simp; (try with_reducible rfl))
          try simp only [Act.put, List.setIfInBounds_toArray, List.set_cons_zero, List.set_cons_succ]
          refine wpAnyH_take (i := 18) (oi := ⟨some 94, _, _, _, _, _⟩) (v := ?v70) rfl (by kernel_rfl) (by kernel_rfl) (by kernel_rfl) (fun _ _ _ h => h) (Or.inl ⟨by rfl, ?y70⟩) (by assumption) ?r70
          case y70 => (intro wx hSx; (try dsimp only at hSx); go_simp; (try with_reducible rfl))
          try simp only [Act.put, List.setIfInBounds_toArray, List.set_cons_zero, List.set_cons_succ]
          refine wpAnyH_take (i := 19) (oi := ⟨some 95, _, _, _, _, _⟩) (v := ?v71) rfl (by kernel_rfl) (by kernel_rfl) (by kernel_rfl) (fun _ _ _ h => h) (Or.inl ⟨by rfl, ?y71⟩) (by assumption) ?r71
          case y71 => (intro wx hSx; (try dsimp only at hSx); go_simp; (try with_reducible rfl))
          try simp only [Act.put, List.setIfInBounds_toArray, List.set_cons_zero, List.set_cons_succ]
          refine wpAnyH_take (i := 20) (oi := ⟨some 96, _, _, _, _, _⟩) (v := ?v72) rfl (by kernel_rfl) (by kernel_rfl) (by kernel_rfl) (fun _ _ _ h => h) (Or.inl ⟨by rfl, ?y72⟩) (by assumption) ?r72
          case y72 => (intro wx hSx; (try dsimp only at hSx); go_simp; (try with_reducible rfl))
          try simp only [Act.put, List.setIfInBounds_toArray, List.set_cons_zero, List.set_cons_succ]
          refine wpAnyH_take (i := 21) (oi := ⟨some 97, _, _, _, _, _⟩) (v := ?v73) rfl (by kernel_rfl) (by kernel_rfl) (by kernel_rfl) (fun _ _ _ h => h) (Or.inl ⟨by rfl, ?y73⟩) (by assumption) ?r73
          case y73 => (intro wx hSx; (try dsimp only at hSx); go_simp; (try with_reducible rfl))
          try simp only [Act.put, List.setIfInBounds_toArray, List.set_cons_zero, List.set_cons_succ]
          refine wpAnyH_take (i := 23) (oi := ⟨some 99, _, _, _, _, _⟩) (v := ?v74) rfl (by kernel_rfl) (by kernel_rfl) (by kernel_rfl) (fun _ _ _ h => h) (Or.inl ⟨by rfl, ?y74⟩) (by assumption) ?r74
          case y74 => (intro wx hSx; (try dsimp only at hSx); go_simp; (try with_reducible rfl))
          try simp only [Act.put, List.setIfInBounds_toArray, List.set_cons_zero, List.set_cons_succ]
          refine wpAnyH_take (i := 24) (oi := ⟨some 100, _, _, _, _, _⟩) (v := ?v75) rfl (by kernel_rfl) (by kernel_rfl) (by kernel_rfl) (fun _ _ _ h => h) (Or.inl ⟨by rfl, ?y75⟩) (by assumption) ?r75
          case y75 => (intro wx hSx; (try dsimp only at hSx); go_simp; (try with_reducible rfl))
          try simp only [Act.put, List.setIfInBounds_toArray, List.set_cons_zero, List.set_cons_succ]
          refine wpAnyH_ready (rs := [22]) (by kernel_rfl) (by simp) ?_
          refine AllReadyH.cons (o := ⟨some 98, _, _, _, _, _⟩) rfl (fun K hK => ?_) AllReadyH.nil
          go_simp
          go_wp2_with ((go_at_call 11; (with_reducible refine (Armed_calls HS.out.dk).mono ?_); rintro e w' ⟨rfl, rfl⟩))
          refine hK.out _ _ ?_ (fun hHeld2 => ?_)
          · ((try dsimp only); exact HS.out.keepg)
          clear hK K hHeld; have hHeld := hHeld2; clear hHeld2
          try simp only [Act.put, List.setIfInBounds_toArray, List.set_cons_zero, List.set_cons_succ]
          refine wpAnyH_take (i := 25) (oi := ⟨some 101, _, _, _, _, _⟩) (v := ?v76) rfl (by kernel_rfl) (by kernel_rfl) (by kernel_rfl) (fun _ _ _ h => h) (Or.inl ⟨by rfl, ?y76⟩) (by assumption) ?r76
          case y76 => (intro wx hSx; (try dsimp only at hSx); go_simp; (try with_reducible rfl))
          try simp only [Act.put, List.setIfInBounds_toArray, List.set_cons_zero, List.set_cons_succ]
          refine wpAnyH_take (i := 26) (oi := ⟨some 102, _, _, _, _, _⟩) (v := ?v77) rfl (by kernel_rfl) (by kernel_rfl) (by kernel_rfl) (fun _ _ _ h => h) (Or.inl ⟨by rfl, ?y77⟩) (by assumption) ?r77
          case y77 => (intro wx hSx; (try dsimp only at hSx); go_simp; (try with_reducible rfl))
          try simp only [Act.put, List.setIfInBounds_toArray, List.set_cons_zero, List.set_cons_succ]
          refine wpAnyH_done (by kernel_rfl) ?_ _
          go_wp2_with (fail)
          go_roundw
          case rel => exact ⟨k + 1, x0, x1, false, n, by omega, .inr ⟨rfl, rfl⟩, by go_num, HS.out.back⟩
          case measure => simp [intOf]; omega
        · have u0 := HS.out.cells 0; have u1 := HS.out.cells 1; have u3 := HS.out.cells 3
          simp only [List.getElem?_cons_succ, List.getElem?_cons_zero] at u0 u1 u3
          go_wp2_with (fail)
          generalize hwz : World.alloc _ _ = wz
          have nS := hid (show Stp w wz b g wr.heap.size [Value.int .i64 wh, Value.int .i64 ae, Value.int .i64 nn, Value.slice sa bs.length sn] x0 x1 false n x0 x1 from hwz ▸ HS.out)
          clear HS hwz u0 u1 u3; have HS := nS; clear nS
          generalize wr.heap.size = sb at *
          refine wp_region_held_drew (S := fun wx => wx.cell? ⟨sb, 1, none⟩ = some (.int .i64 ae) ∧ wx.cell? ⟨sb, 3, none⟩ = some (.slice sa bs.length sn)) (by kernel_rfl) (by (try dsimp only); exact HS.out.drew.keeps) (fun hHeld => ?_)
          have nS := hid (HS.out.drew); clear HS; have HS := nS; clear nS
          refine wpAnyH_take (i := 0) (oi := ⟨some 67, _, _, _, _, _⟩) (v := ?v127) rfl (by kernel_rfl) (by kernel_rfl) (by kernel_rfl) (fun _ _ _ h => h) (Or.inl ⟨by rfl, ?y127⟩) (by assumption) ?r127
          case y127 => (intro wx hSx; (try dsimp only at hSx); go_simp; (try with_reducible rfl))
          try simp only [Act.put, List.setIfInBounds_toArray, List.set_cons_zero, List.set_cons_succ]
          refine wpAnyH_take (i := 1) (oi := ⟨some 68, _, _, _, _, _⟩) (v := ?v128) rfl (by kernel_rfl) (by kernel_rfl) (by kernel_rfl) (fun _ _ _ h => h) (Or.inl ⟨by rfl, ?y128⟩) (by assumption) ?r128
          case y128 => (intro wx hSx; (try dsimp only at hSx); go_simp; (try with_reducible rfl))
          try simp only [Act.put, List.setIfInBounds_toArray, List.set_cons_zero, List.set_cons_succ]
          refine wpAnyH_take (i := 2) (oi := ⟨some 69, _, _, _, _, _⟩) (v := ?v129) rfl (by kernel_rfl) (by kernel_rfl) (by kernel_rfl) (fun _ _ _ h => h) (Or.inl ⟨by rfl, ?y129⟩) (by assumption) ?r129
          case y129 => (intro wx hSx; (try dsimp only at hSx); go_simp; (try with_reducible rfl))
          try simp only [Act.put, List.setIfInBounds_toArray, List.set_cons_zero, List.set_cons_succ]
          refine wpAnyH_take (i := 3) (oi := ⟨some 70, _, _, _, _, _⟩) (v := ?v130) rfl (by kernel_rfl) (by kernel_rfl) (by kernel_rfl) (fun _ _ _ h => h) (Or.inl ⟨by rfl, ?y130⟩) (by assumption) ?r130
          case y130 => (intro wx hSx; (try dsimp only at hSx); go_simp; (try with_reducible rfl))
          try simp only [Act.put, List.setIfInBounds_toArray, List.set_cons_zero, List.set_cons_succ]
          refine wpAnyH_take (i := 4) (oi := ⟨some 71, _, _, _, _, _⟩) (v := ?v131) rfl (by kernel_rfl) (by kernel_rfl) (by kernel_rfl) (fun _ _ _ h => h) (Or.inl ⟨by rfl, ?y131⟩) (by assumption) ?r131
          case y131 => (intro wx hSx; (try dsimp only at hSx); go_simp; (try with_reducible rfl))
          try simp only [Act.put, List.setIfInBounds_toArray, List.set_cons_zero, List.set_cons_succ]
          refine wpAnyH_take (i := 7) (oi := ⟨some 74, _, _, _, _, _⟩) (v := ?v132) rfl (by kernel_rfl) (by kernel_rfl) (by kernel_rfl) (fun _ _ _ h => h) (Or.inl ⟨by rfl, ?y132⟩) (by assumption) ?r132
          case y132 => (intro wx hSx; (try dsimp only at hSx); go_simp; (try with_reducible rfl))
          try simp only [Act.put, List.setIfInBounds_toArray, List.set_cons_zero, List.set_cons_succ]
          refine wpAnyH_ready (rs := [5]) (by kernel_rfl) (by simp) ?_
          refine AllReadyH.cons (o := ⟨some 72, _, _, _, _, _⟩) rfl (fun K hK => ?_) AllReadyH.nil
          obtain ⟨A', cp', wq, hrun, hIn, hfq, _⟩ := app_nil (HS.out.bytes HB.out) (by omega)
          refine step_run rfl _ _ _ _ rfl rfl rfl hrun ?_
          clear hrun
          have nS := hid (HS.out.quiet hfq); clear HS; have HS := nS; clear nS
          have hIn' := hid hIn; clear hIn hfq
          refine hK.out _ _ ?_ (fun hHeld2 => ?_)
          · ((try dsimp only); exact HS.out.keeps)
          clear hK K hHeld; have hHeld := hHeld2; clear hHeld2
          try simp only [Act.put, List.setIfInBounds_toArray, List.set_cons_zero, List.set_cons_succ]
          refine wpAnyH_ready (rs := [6]) (by kernel_rfl) (by simp) ?_
          refine AllReadyH.cons (o := ⟨some 73, _, _, _, _, _⟩) rfl (fun K hK => ?_) AllReadyH.nil
          go_simp
          go_wp2_with ((go_at_call 9; (with_reducible refine (Write_none ae (by first | exact .inl (by omega) | exact .inr (by omega))).mono ?_); rintro e w' ⟨rfl, rfl⟩))
          refine hK.out _ _ ?_ (fun hHeld2 => ?_)
          · ((try dsimp only); exact HS.out.keeps)
          clear hK K hHeld; have hHeld := hHeld2; clear hHeld2
          try simp only [Act.put, List.setIfInBounds_toArray, List.set_cons_zero, List.set_cons_succ]
          refine wpAnyH_take (i := 8) (oi := ⟨some 75, _, _, _, _, _⟩) (v := ?v133) rfl (by kernel_rfl) (by kernel_rfl) (by kernel_rfl) (fun _ _ _ h => h) (Or.inl ⟨by rfl, ?y133⟩) (by assumption) ?r133
          case y133 => (intro wx hSx; (try dsimp only at hSx); go_simp; (try with_reducible rfl))
          try simp only [Act.put, List.setIfInBounds_toArray, List.set_cons_zero, List.set_cons_succ]
          refine wpAnyH_done (by kernel_rfl) ?_ _
          go_wp2_with (fail)
          refine wp_region_held_drew (S := fun wx => wx.cell? ⟨g, 0, none⟩ = some (.string (strOfNums x0)) ∧ wx.cell? ⟨g, 1, none⟩ = some (.string (strOfNums x1))) (by kernel_rfl) (by (try dsimp only); exact HS.out.drew.keepg) (fun hHeld => ?_)
          have nS := hid (HS.out.drew); clear HS; have HS := nS; clear nS
          refine wpAnyH_take (i := 0) (oi := ⟨some 76, _, _, _, _, _⟩) (v := ?v134) rfl (by kernel_rfl) (by kernel_rfl) (by kernel_rfl) (fun _ _ _ h => h) (Or.inl ⟨by rfl, ?y134⟩) (by assumption) ?r134
          case y134 => (intro wx hSx; (try dsimp only at hSx); go_simp; (try with_reducible rfl))
          try simp only [Act.put, List.setIfInBounds_toArray, List.set_cons_zero, List.set_cons_succ]
          refine wpAnyH_take (i := 3) (oi := ⟨some 79, _, _, _, _, _⟩) (v := ?v135) rfl (by kernel_rfl) (by kernel_rfl) (by kernel_rfl) (fun _ _ _ h => h) (Or.inl ⟨by rfl, ?y135⟩) (by assumption) ?r135
          case y135 => (intro wx hSx; (try dsimp only at hSx); go_simp; (try with_reducible rfl))
          try simp only [Act.put, List.setIfInBounds_toArray, List.set_cons_zero, List.set_cons_succ]
          refine wpAnyH_take (i := 4) (oi := ⟨some 80, _, _, _, _, _⟩) (v := ?v136) rfl (by kernel_rfl) (by kernel_rfl) (by kernel_rfl) (fun _ _ _ h => h) (Or.inl ⟨by rfl, ?y136⟩) (by assumption) ?r136
          case y136 => (intro wx hSx; (try dsimp only at hSx); go_simp; (try with_reducible rfl))
          try simp only [Act.put, List.setIfInBounds_toArray, List.set_cons_zero, List.set_cons_succ]
          refine wpAnyH_ready (rs := [1]) (by kernel_rfl) (by simp) ?_
          refine AllReadyH.cons (o := ⟨some 77, _, _, _, _, _⟩) rfl (fun K hK => ?_) AllReadyH.nil
          go_simp
          go_wp2_with ((go_at_call 10; (with_reducible refine (Read_conv0 HS.out.dk).mono ?_); rintro e w' ⟨A, l, c, rfl, hcv0, h', f'⟩; have nS := hid (HS.out.quiet f'); clear HS; have HS := nS; clear nS; clear h' f'))
          refine hK.out _ _ ?_ (fun hHeld2 => ?_)
          · ((try dsimp only); exact HS.out.keepg)
          clear hK K hHeld; have hHeld := hHeld2; clear hHeld2
          try simp only [Act.put, List.setIfInBounds_toArray, List.set_cons_zero, List.set_cons_succ]
          refine wpAnyH_ready (rs := [2]) (by kernel_rfl) (by simp) ?_
          refine AllReadyH.cons (o := ⟨some 78, _, _, _, _, _⟩) rfl (fun K hK => ?_) AllReadyH.nil
          go_simp
          go_wp2_with (fail)
          refine hK.out _ _ ?_ (fun hHeld2 => ?_)
          · ((try dsimp only); exact HS.out.keepg)
          clear hK K hHeld; have hHeld := hHeld2; clear hHeld2
          try simp only [Act.put, List.setIfInBounds_toArray, List.set_cons_zero, List.set_cons_succ]
          refine wpAnyH_take (i := 5) (oi := ⟨some 81, _, _, _, _, _⟩) (v := ?v137) rfl (by kernel_rfl) (by kernel_rfl) (by kernel_rfl) (fun _ _ _ h => h) (Or.inl ⟨by rfl, ?y137⟩) (by assumption) ?r137
          case y137 => (intro wx hSx; (try dsimp only at hSx); go_simp; (try with_reducible rfl))
          try simp only [Act.put, List.setIfInBounds_toArray, List.set_cons_zero, List.set_cons_succ]
          refine wpAnyH_take (i := 6) (oi := ⟨some 82, _, _, _, _, _⟩) (v := ?v138) rfl (by kernel_rfl) (by kernel_rfl) (by kernel_rfl) (fun _ _ _ h => h) (Or.inl ⟨by rfl, ?y138⟩) (by assumption) ?r138
          case y138 => (intro wx hSx; (try dsimp only at hSx); go_simp; (try with_reducible rfl))
          try simp only [Act.put, List.setIfInBounds_toArray, List.set_cons_zero, List.set_cons_succ]
          refine wpAnyH_take (i := 7) (oi := ⟨some 83, _, _, _, _, _⟩) (v := ?v139) rfl (by kernel_rfl) (by kernel_rfl) (by kernel_rfl) (fun _ _ _ h => h) (Or.inl ⟨by rfl, ?y139⟩) (by assumption) ?r139
          case y139 => (intro wx hSx; (try dsimp only at hSx); go_simp; (try with_reducible rfl))
          try simp only [Act.put, List.setIfInBounds_toArray, List.set_cons_zero, List.set_cons_succ]
          refine wpAnyH_take (i := 10) (oi := ⟨some 86, _, _, _, _, _⟩) (v := ?v140) rfl (by kernel_rfl) (by kernel_rfl) (by kernel_rfl) (fun _ _ _ h => h) (Or.inl ⟨by rfl, ?y140⟩) (by assumption) ?r140
          case y140 => (intro wx hSx; (try dsimp only at hSx); go_simp; (try with_reducible rfl))
          try simp only [Act.put, List.setIfInBounds_toArray, List.set_cons_zero, List.set_cons_succ]
          refine wpAnyH_take (i := 11) (oi := ⟨some 87, _, _, _, _, _⟩) (v := ?v141) rfl (by kernel_rfl) (by kernel_rfl) (by kernel_rfl) (fun _ _ _ h => h) (Or.inl ⟨by rfl, ?y141⟩) (by assumption) ?r141
          case y141 => (intro wx hSx; (try dsimp only at hSx); go_simp; (try with_reducible rfl))
          try simp only [Act.put, List.setIfInBounds_toArray, List.set_cons_zero, List.set_cons_succ]
          refine wpAnyH_ready (rs := [8]) (by kernel_rfl) (by simp) ?_
          refine AllReadyH.cons (o := ⟨some 84, _, _, _, _, _⟩) rfl (fun K hK => ?_) AllReadyH.nil
          go_simp
          go_wp2_with ((go_at_call 10; (with_reducible refine (Read_conv1 HS.out.dk).mono ?_); rintro e w' ⟨A, l, c, rfl, hcv1, h', f'⟩; have nS := hid (HS.out.quiet f'); clear HS; have HS := nS; clear nS; clear h' f'))
          refine hK.out _ _ ?_ (fun hHeld2 => ?_)
          · ((try dsimp only); exact HS.out.keepg)
          clear hK K hHeld; have hHeld := hHeld2; clear hHeld2
          try simp only [Act.put, List.setIfInBounds_toArray, List.set_cons_zero, List.set_cons_succ]
          refine wpAnyH_ready (rs := [9]) (by kernel_rfl) (by simp) ?_
          refine AllReadyH.cons (o := ⟨some 85, _, _, _, _, _⟩) rfl (fun K hK => ?_) AllReadyH.nil
          go_simp
          go_wp2_with (fail)
          refine hK.out _ _ ?_ (fun hHeld2 => ?_)
          · ((try dsimp only); exact HS.out.keepg)
          clear hK K hHeld; have hHeld := hHeld2; clear hHeld2
          try simp only [Act.put, List.setIfInBounds_toArray, List.set_cons_zero, List.set_cons_succ]
          refine wpAnyH_take (i := 12) (oi := ⟨some 88, _, _, _, _, _⟩) (v := ?v142) rfl (by kernel_rfl) (by kernel_rfl) (by kernel_rfl) (fun _ _ _ h => h) (Or.inl ⟨by rfl, ?y142⟩) (by assumption) ?r142
          case y142 => (intro wx hSx; (try dsimp only at hSx); go_simp; (try with_reducible rfl))
          try simp only [Act.put, List.setIfInBounds_toArray, List.set_cons_zero, List.set_cons_succ]
          refine wpAnyH_take (i := 13) (oi := ⟨some 89, _, _, _, _, _⟩) (v := ?v143) rfl (by kernel_rfl) (by kernel_rfl) (by kernel_rfl) (fun _ _ _ h => h) (Or.inl ⟨by rfl, ?y143⟩) (by assumption) ?r143
          case y143 => (intro wx hSx; (try dsimp only at hSx); go_simp; (try with_reducible rfl))
          try simp only [Act.put, List.setIfInBounds_toArray, List.set_cons_zero, List.set_cons_succ]
          refine wpAnyH_take (i := 14) (oi := ⟨some 90, _, _, _, _, _⟩) (v := ?v144) rfl (by kernel_rfl) (by kernel_rfl) (by kernel_rfl) (fun _ _ _ h => h) (Or.inl ⟨by rfl, ?y144⟩) (by assumption) ?r144
          case y144 => (intro wx hSx; (try dsimp only at hSx); go_simp; (try with_reducible rfl))
          try simp only [Act.put, List.setIfInBounds_toArray, List.set_cons_zero, List.set_cons_succ]
          refine wpAnyH_take (i := 15) (oi := ⟨some 91, _, _, _, _, _⟩) (v := ?v145) rfl (by kernel_rfl) (by kernel_rfl) (by kernel_rfl) (fun _ _ _ h => h) (Or.inl ⟨by rfl, ?y145⟩) (by assumption) ?r145
          case y145 => (intro wx hSx; (try dsimp only at hSx); go_simp; (try with_reducible rfl))
          try simp only [Act.put, List.setIfInBounds_toArray, List.set_cons_zero, List.set_cons_succ]
          refine wpAnyH_ready (rs := [16]) (by kernel_rfl) (by simp) ?_
          refine AllReadyH.cons (o := ⟨some 92, _, _, _, _, _⟩) rfl (fun K hK => ?_) AllReadyH.nil
          go_simp
          go_wp2_with ((go_at_call 10; (with_reducible refine (Read_two HS.out.dk).mono ?_); rintro e w' ⟨A, c, rfl, f'⟩; have nS := hid (HS.out.quiet f'); clear HS; have HS := nS; clear nS; clear f'))
          refine hK.out _ _ ?_ (fun hHeld2 => ?_)
          · ((try dsimp only); exact HS.out.keepg)
          clear hK K hHeld; have hHeld := hHeld2; clear hHeld2
          try simp only [Act.put, List.setIfInBounds_toArray, List.set_cons_zero, List.set_cons_succ]
          refine wpAnyH_take (i := 17) (oi := ⟨some 93, _, _, _, _, _⟩) (v := ?v146) rfl (by kernel_rfl) (by kernel_rfl) (by kernel_rfl) (fun _ _ _ h => h) (Or.inl ⟨by rfl, ?y146⟩) (by assumption) ?r146
          case y146 => (intro wx hSx; (try dsimp only at hSx); go_simp; (try with_reducible rfl))
          try simp only [Act.put, List.setIfInBounds_toArray, List.set_cons_zero, List.set_cons_succ]
          refine wpAnyH_take (i := 18) (oi := ⟨some 94, _, _, _, _, _⟩) (v := ?v147) rfl (by kernel_rfl) (by kernel_rfl) (by kernel_rfl) (fun _ _ _ h => h) (Or.inl ⟨by rfl, ?y147⟩) (by assumption) ?r147
          case y147 => (intro wx hSx; (try dsimp only at hSx); go_simp; (try with_reducible rfl))
          try simp only [Act.put, List.setIfInBounds_toArray, List.set_cons_zero, List.set_cons_succ]
          refine wpAnyH_take (i := 19) (oi := ⟨some 95, _, _, _, _, _⟩) (v := ?v148) rfl (by kernel_rfl) (by kernel_rfl) (by kernel_rfl) (fun _ _ _ h => h) (Or.inl ⟨by rfl, ?y148⟩) (by assumption) ?r148
          case y148 => (intro wx hSx; (try dsimp only at hSx); go_simp; (try with_reducible rfl))
          try simp only [Act.put, List.setIfInBounds_toArray, List.set_cons_zero, List.set_cons_succ]
          refine wpAnyH_take (i := 20) (oi := ⟨some 96, _, _, _, _, _⟩) (v := ?v149) rfl (by kernel_rfl) (by kernel_rfl) (by kernel_rfl) (fun _ _ _ h => h) (Or.inl ⟨by rfl, ?y149⟩) (by assumption) ?r149
          case y149 => (intro wx hSx; (try dsimp only at hSx); go_simp; (try with_reducible rfl))
          try simp only [Act.put, List.setIfInBounds_toArray, List.set_cons_zero, List.set_cons_succ]
          refine wpAnyH_take (i := 21) (oi := ⟨some 97, _, _, _, _, _⟩) (v := ?v150) rfl (by kernel_rfl) (by kernel_rfl) (by kernel_rfl) (fun _ _ _ h => h) (Or.inl ⟨by rfl, ?y150⟩) (by assumption) ?r150
          case y150 => (intro wx hSx; (try dsimp only at hSx); go_simp; (try with_reducible rfl))
          try simp only [Act.put, List.setIfInBounds_toArray, List.set_cons_zero, List.set_cons_succ]
          refine wpAnyH_take (i := 23) (oi := ⟨some 99, _, _, _, _, _⟩) (v := ?v151) rfl (by kernel_rfl) (by kernel_rfl) (by kernel_rfl) (fun _ _ _ h => h) (Or.inl ⟨by rfl, ?y151⟩) (by assumption) ?r151
          case y151 => (intro wx hSx; (try dsimp only at hSx); go_simp; (try with_reducible rfl))
          try simp only [Act.put, List.setIfInBounds_toArray, List.set_cons_zero, List.set_cons_succ]
          refine wpAnyH_take (i := 24) (oi := ⟨some 100, _, _, _, _, _⟩) (v := ?v152) rfl (by kernel_rfl) (by kernel_rfl) (by kernel_rfl) (fun _ _ _ h => h) (Or.inl ⟨by rfl, ?y152⟩) (by assumption) ?r152
          case y152 => (intro wx hSx; (try dsimp only at hSx); go_simp; (try with_reducible rfl))
          try simp only [Act.put, List.setIfInBounds_toArray, List.set_cons_zero, List.set_cons_succ]
          refine wpAnyH_ready (rs := [22]) (by kernel_rfl) (by simp) ?_
          refine AllReadyH.cons (o := ⟨some 98, _, _, _, _, _⟩) rfl (fun K hK => ?_) AllReadyH.nil
          go_simp
          go_wp2_with ((go_at_call 11; (with_reducible refine (Armed_calls HS.out.dk).mono ?_); rintro e w' ⟨rfl, rfl⟩))
          refine hK.out _ _ ?_ (fun hHeld2 => ?_)
          · ((try dsimp only); exact HS.out.keepg)
          clear hK K hHeld; have hHeld := hHeld2; clear hHeld2
          try simp only [Act.put, List.setIfInBounds_toArray, List.set_cons_zero, List.set_cons_succ]
          refine wpAnyH_take (i := 25) (oi := ⟨some 101, _, _, _, _, _⟩) (v := ?v153) rfl (by kernel_rfl) (by kernel_rfl) (by kernel_rfl) (fun _ _ _ h => h) (Or.inl ⟨by rfl, ?y153⟩) (by assumption) ?r153
          case y153 => (intro wx hSx; (try dsimp only at hSx); go_simp; (try with_reducible rfl))
          try simp only [Act.put, List.setIfInBounds_toArray, List.set_cons_zero, List.set_cons_succ]
          refine wpAnyH_take (i := 26) (oi := ⟨some 102, _, _, _, _, _⟩) (v := ?v154) rfl (by kernel_rfl) (by kernel_rfl) (by kernel_rfl) (fun _ _ _ h => h) (Or.inl ⟨by rfl, ?y154⟩) (by assumption) ?r154
          case y154 => (intro wx hSx; (try dsimp only at hSx); go_simp; (try with_reducible rfl))
          try simp only [Act.put, List.setIfInBounds_toArray, List.set_cons_zero, List.set_cons_succ]
          refine wpAnyH_done (by kernel_rfl) ?_ _
          go_wp2_with (fail)
          go_roundw
          case rel => exact ⟨k + 1, x0, x1, false, n, by omega, .inr ⟨rfl, rfl⟩, by go_num, HS.out.back⟩
          case measure => simp [intOf]; omega
        · obtain rfl : ae = 0 := hae
          have gq0 := HS.out.cellg 0; have gz := HS.out.freeg 0
          simp only [List.getElem?_cons_succ, List.getElem?_cons_zero] at gq0
          have hcB := HS.out.conv HB.out
          have u0 := HS.out.cells 0; have u1 := HS.out.cells 1; have u3 := HS.out.cells 3
          simp only [List.getElem?_cons_succ, List.getElem?_cons_zero] at u0 u1 u3
          go_wp2_with (fail)
          generalize hwz : World.setCell _ _ _ = wz
          have nS := hid (show Stp w wz b g wr.heap.size [Value.int .i64 wh, Value.int .i64 0, Value.int .i64 nn, Value.slice sa bs.length sn] x0 x1 false n bs x1 from hwz ▸ HS.out.setg0 bs)
          clear HS hwz u0 u1 u3 hcB gq0 gz; have HS := nS; clear nS
          generalize wr.heap.size = sb at *
          refine wp_region_held_drew (S := fun wx => wx.cell? ⟨sb, 1, none⟩ = some (.int .i64 0) ∧ wx.cell? ⟨sb, 3, none⟩ = some (.slice sa bs.length sn)) (by kernel_rfl) (by (try dsimp only); exact HS.out.drew.keeps) (fun hHeld => ?_)
          have nS := hid (HS.out.drew); clear HS; have HS := nS; clear nS
          refine wpAnyH_take (i := 0) (oi := ⟨some 67, _, _, _, _, _⟩) (v := ?v195) rfl (by kernel_rfl) (by kernel_rfl) (by kernel_rfl) (fun _ _ _ h => h) (Or.inl ⟨by rfl, ?y195⟩) (by assumption) ?r195
          case y195 => (intro wx hSx; (try dsimp only at hSx); go_simp; (try with_reducible rfl))
          try simp only [Act.put, List.setIfInBounds_toArray, List.set_cons_zero, List.set_cons_succ]
          refine wpAnyH_take (i := 1) (oi := ⟨some 68, _, _, _, _, _⟩) (v := ?v196) rfl (by kernel_rfl) (by kernel_rfl) (by kernel_rfl) (fun _ _ _ h => h) (Or.inl ⟨by rfl, ?y196⟩) (by assumption) ?r196
          case y196 => (intro wx hSx; (try dsimp only at hSx); go_simp; (try with_reducible rfl))
          try simp only [Act.put, List.setIfInBounds_toArray, List.set_cons_zero, List.set_cons_succ]
          refine wpAnyH_take (i := 2) (oi := ⟨some 69, _, _, _, _, _⟩) (v := ?v197) rfl (by kernel_rfl) (by kernel_rfl) (by kernel_rfl) (fun _ _ _ h => h) (Or.inl ⟨by rfl, ?y197⟩) (by assumption) ?r197
          case y197 => (intro wx hSx; (try dsimp only at hSx); go_simp; (try with_reducible rfl))
          try simp only [Act.put, List.setIfInBounds_toArray, List.set_cons_zero, List.set_cons_succ]
          refine wpAnyH_take (i := 3) (oi := ⟨some 70, _, _, _, _, _⟩) (v := ?v198) rfl (by kernel_rfl) (by kernel_rfl) (by kernel_rfl) (fun _ _ _ h => h) (Or.inl ⟨by rfl, ?y198⟩) (by assumption) ?r198
          case y198 => (intro wx hSx; (try dsimp only at hSx); go_simp; (try with_reducible rfl))
          try simp only [Act.put, List.setIfInBounds_toArray, List.set_cons_zero, List.set_cons_succ]
          refine wpAnyH_take (i := 4) (oi := ⟨some 71, _, _, _, _, _⟩) (v := ?v199) rfl (by kernel_rfl) (by kernel_rfl) (by kernel_rfl) (fun _ _ _ h => h) (Or.inl ⟨by rfl, ?y199⟩) (by assumption) ?r199
          case y199 => (intro wx hSx; (try dsimp only at hSx); go_simp; (try with_reducible rfl))
          try simp only [Act.put, List.setIfInBounds_toArray, List.set_cons_zero, List.set_cons_succ]
          refine wpAnyH_take (i := 7) (oi := ⟨some 74, _, _, _, _, _⟩) (v := ?v200) rfl (by kernel_rfl) (by kernel_rfl) (by kernel_rfl) (fun _ _ _ h => h) (Or.inl ⟨by rfl, ?y200⟩) (by assumption) ?r200
          case y200 => (intro wx hSx; (try dsimp only at hSx); go_simp; (try with_reducible rfl))
          try simp only [Act.put, List.setIfInBounds_toArray, List.set_cons_zero, List.set_cons_succ]
          refine wpAnyH_ready (rs := [5]) (by kernel_rfl) (by simp) ?_
          refine AllReadyH.cons (o := ⟨some 72, _, _, _, _, _⟩) rfl (fun K hK => ?_) AllReadyH.nil
          obtain ⟨A', cp', wq, hrun, hIn, hfq, _⟩ := app_nil (HS.out.bytes HB.out) (by omega)
          refine step_run rfl _ _ _ _ rfl rfl rfl hrun ?_
          clear hrun
          have nS := hid (HS.out.quiet hfq); clear HS; have HS := nS; clear nS
          have hIn' := hid hIn; clear hIn hfq
          refine hK.out _ _ ?_ (fun hHeld2 => ?_)
          · ((try dsimp only); exact HS.out.keeps)
          clear hK K hHeld; have hHeld := hHeld2; clear hHeld2
          try simp only [Act.put, List.setIfInBounds_toArray, List.set_cons_zero, List.set_cons_succ]
          refine wpAnyH_ready (rs := [6]) (by kernel_rfl) (by simp) ?_
          refine AllReadyH.cons (o := ⟨some 73, _, _, _, _, _⟩) rfl (fun K hK => ?_) AllReadyH.nil
          go_simp
          go_wp2_with ((go_at_call 9; (with_reducible refine (Write_ok0 HS.out.dk hIn'.out (by omega)).mono ?_); rintro e w' ⟨rfl, h', f'⟩; have nS := hid (HS.out.disk h' f'); clear HS; have HS := nS; clear nS; clear h' f'))
          refine hK.out _ _ ?_ (fun hHeld2 => ?_)
          · ((try dsimp only); exact HS.out.keeps)
          clear hK K hHeld; have hHeld := hHeld2; clear hHeld2
          try simp only [Act.put, List.setIfInBounds_toArray, List.set_cons_zero, List.set_cons_succ]
          refine wpAnyH_take (i := 8) (oi := ⟨some 75, _, _, _, _, _⟩) (v := ?v201) rfl (by kernel_rfl) (by kernel_rfl) (by kernel_rfl) (fun _ _ _ h => h) (Or.inl ⟨by rfl, ?y201⟩) (by assumption) ?r201
          case y201 => (intro wx hSx; (try dsimp only at hSx); go_simp; (try with_reducible rfl))
          try simp only [Act.put, List.setIfInBounds_toArray, List.set_cons_zero, List.set_cons_succ]
          refine wpAnyH_done (by kernel_rfl) ?_ _
          go_wp2_with (fail)
          refine wp_region_held_drew (S := fun wx => wx.cell? ⟨g, 0, none⟩ = some (.string (strOfNums bs)) ∧ wx.cell? ⟨g, 1, none⟩ = some (.string (strOfNums x1))) (by kernel_rfl) (by (try dsimp only); exact HS.out.drew.keepg) (fun hHeld => ?_)
          have nS := hid (HS.out.drew); clear HS; have HS := nS; clear nS
          refine wpAnyH_take (i := 0) (oi := ⟨some 76, _, _, _, _, _⟩) (v := ?v202) rfl (by kernel_rfl) (by kernel_rfl) (by kernel_rfl) (fun _ _ _ h => h) (Or.inl ⟨by rfl, ?y202⟩) (by assumption) ?r202
          case y202 => (intro wx hSx; (try dsimp only at hSx); go_simp; (try with_reducible rfl))
          try simp only [Act.put, List.setIfInBounds_toArray, List.set_cons_zero, List.set_cons_succ]
          refine wpAnyH_take (i := 3) (oi := ⟨some 79, _, _, _, _, _⟩) (v := ?v203) rfl (by kernel_rfl) (by kernel_rfl) (by kernel_rfl) (fun _ _ _ h => h) (Or.inl ⟨by rfl, ?y203⟩) (by assumption) ?r203
          case y203 => (intro wx hSx; (try dsimp only at hSx); go_simp; (try with_reducible rfl))
          try simp only [Act.put, List.setIfInBounds_toArray, List.set_cons_zero, List.set_cons_succ]
          refine wpAnyH_take (i := 4) (oi := ⟨some 80, _, _, _, _, _⟩) (v := ?v204) rfl (by kernel_rfl) (by kernel_rfl) (by kernel_rfl) (fun _ _ _ h => h) (Or.inl ⟨by rfl, ?y204⟩) (by assumption) ?r204
          case y204 => (intro wx hSx; (try dsimp only at hSx); go_simp; (try with_reducible rfl))
          try simp only [Act.put, List.setIfInBounds_toArray, List.set_cons_zero, List.set_cons_succ]
          refine wpAnyH_ready (rs := [1]) (by kernel_rfl) (by simp) ?_
          refine AllReadyH.cons (o := ⟨some 77, _, _, _, _, _⟩) rfl (fun K hK => ?_) AllReadyH.nil
          go_simp
          go_wp2_with ((go_at_call 10; (with_reducible refine (Read_conv0 HS.out.dk).mono ?_); rintro e w' ⟨A, l, c, rfl, hcv0, h', f'⟩; have nS := hid (HS.out.quiet f'); clear HS; have HS := nS; clear nS; clear h' f'))
          refine hK.out _ _ ?_ (fun hHeld2 => ?_)
          · ((try dsimp only); exact HS.out.keepg)
          clear hK K hHeld; have hHeld := hHeld2; clear hHeld2
          try simp only [Act.put, List.setIfInBounds_toArray, List.set_cons_zero, List.set_cons_succ]
          refine wpAnyH_ready (rs := [2]) (by kernel_rfl) (by simp) ?_
          refine AllReadyH.cons (o := ⟨some 78, _, _, _, _, _⟩) rfl (fun K hK => ?_) AllReadyH.nil
          go_simp
          go_wp2_with (fail)
          refine hK.out _ _ ?_ (fun hHeld2 => ?_)
          · ((try dsimp only); exact HS.out.keepg)
          clear hK K hHeld; have hHeld := hHeld2; clear hHeld2
          try simp only [Act.put, List.setIfInBounds_toArray, List.set_cons_zero, List.set_cons_succ]
          refine wpAnyH_take (i := 5) (oi := ⟨some 81, _, _, _, _, _⟩) (v := ?v205) rfl (by kernel_rfl) (by kernel_rfl) (by kernel_rfl) (fun _ _ _ h => h) (Or.inl ⟨by rfl, ?y205⟩) (by assumption) ?r205
          case y205 => (intro wx hSx; (try dsimp only at hSx); go_simp; (try with_reducible rfl))
          try simp only [Act.put, List.setIfInBounds_toArray, List.set_cons_zero, List.set_cons_succ]
          refine wpAnyH_take (i := 6) (oi := ⟨some 82, _, _, _, _, _⟩) (v := ?v206) rfl (by kernel_rfl) (by kernel_rfl) (by kernel_rfl) (fun _ _ _ h => h) (Or.inl ⟨by rfl, ?y206⟩) (by assumption) ?r206
          case y206 => (intro wx hSx; (try dsimp only at hSx); go_simp; (try with_reducible rfl))
          try simp only [Act.put, List.setIfInBounds_toArray, List.set_cons_zero, List.set_cons_succ]
          refine wpAnyH_take (i := 7) (oi := ⟨some 83, _, _, _, _, _⟩) (v := ?v207) rfl (by kernel_rfl) (by kernel_rfl) (by kernel_rfl) (fun _ _ _ h => h) (Or.inl ⟨by rfl, ?y207⟩) (by assumption) ?r207
          case y207 => (intro wx hSx; (try dsimp only at hSx); go_simp; (try with_reducible rfl))
          try simp only [Act.put, List.setIfInBounds_toArray, List.set_cons_zero, List.set_cons_succ]
          refine wpAnyH_take (i := 10) (oi := ⟨some 86, _, _, _, _, _⟩) (v := ?v208) rfl (by kernel_rfl) (by kernel_rfl) (by kernel_rfl) (fun _ _ _ h => h) (Or.inl ⟨by rfl, ?y208⟩) (by assumption) ?r208
          case y208 => (intro wx hSx; (try dsimp only at hSx); go_simp; (try with_reducible rfl))
          try simp only [Act.put, List.setIfInBounds_toArray, List.set_cons_zero, List.set_cons_succ]
          refine wpAnyH_take (i := 11) (oi := ⟨some 87, _, _, _, _, _⟩) (v := ?v209) rfl (by kernel_rfl) (by kernel_rfl) (by kernel_rfl) (fun _ _ _ h => h) (Or.inl ⟨by rfl, ?y209⟩) (by assumption) ?r209
          case y209 => (intro wx hSx; (try dsimp only at hSx); go_simp; (try with_reducible rfl))
          try simp only [Act.put, List.setIfInBounds_toArray, List.set_cons_zero, List.set_cons_succ]
          refine wpAnyH_ready (rs := [8]) (by kernel_rfl) (by simp) ?_
          refine AllReadyH.cons (o := ⟨some 84, _, _, _, _, _⟩) rfl (fun K hK => ?_) AllReadyH.nil
          go_simp
          go_wp2_with ((go_at_call 10; (with_reducible refine (Read_conv1 HS.out.dk).mono ?_); rintro e w' ⟨A, l, c, rfl, hcv1, h', f'⟩; have nS := hid (HS.out.quiet f'); clear HS; have HS := nS; clear nS; clear h' f'))
          refine hK.out _ _ ?_ (fun hHeld2 => ?_)
          · ((try dsimp only); exact HS.out.keepg)
          clear hK K hHeld; have hHeld := hHeld2; clear hHeld2
          try simp only [Act.put, List.setIfInBounds_toArray, List.set_cons_zero, List.set_cons_succ]
          refine wpAnyH_ready (rs := [9]) (by kernel_rfl) (by simp) ?_
          refine AllReadyH.cons (o := ⟨some 85, _, _, _, _, _⟩) rfl (fun K hK => ?_) AllReadyH.nil
          go_simp
          go_wp2_with (fail)
          refine hK.out _ _ ?_ (fun hHeld2 => ?_)
          · ((try dsimp only); exact HS.out.keepg)
          clear hK K hHeld; have hHeld := hHeld2; clear hHeld2
          try simp only [Act.put, List.setIfInBounds_toArray, List.set_cons_zero, List.set_cons_succ]
          refine wpAnyH_take (i := 12) (oi := ⟨some 88, _, _, _, _, _⟩) (v := ?v210) rfl (by kernel_rfl) (by kernel_rfl) (by kernel_rfl) (fun _ _ _ h => h) (Or.inl ⟨by rfl, ?y210⟩) (by assumption) ?r210
          case y210 => (intro wx hSx; (try dsimp only at hSx); go_simp; (try with_reducible rfl))
          try simp only [Act.put, List.setIfInBounds_toArray, List.set_cons_zero, List.set_cons_succ]
          refine wpAnyH_take (i := 13) (oi := ⟨some 89, _, _, _, _, _⟩) (v := ?v211) rfl (by kernel_rfl) (by kernel_rfl) (by kernel_rfl) (fun _ _ _ h => h) (Or.inl ⟨by rfl, ?y211⟩) (by assumption) ?r211
          case y211 => (intro wx hSx; (try dsimp only at hSx); go_simp; (try with_reducible rfl))
          try simp only [Act.put, List.setIfInBounds_toArray, List.set_cons_zero, List.set_cons_succ]
          refine wpAnyH_take (i := 14) (oi := ⟨some 90, _, _, _, _, _⟩) (v := ?v212) rfl (by kernel_rfl) (by kernel_rfl) (by kernel_rfl) (fun _ _ _ h => h) (Or.inl ⟨by rfl, ?y212⟩) (by assumption) ?r212
          case y212 => (intro wx hSx; (try dsimp only at hSx); go_simp; (try with_reducible rfl))
          try simp only [Act.put, List.setIfInBounds_toArray, List.set_cons_zero, List.set_cons_succ]
          refine wpAnyH_take (i := 15) (oi := ⟨some 91, _, _, _, _, _⟩) (v := ?v213) rfl (by kernel_rfl) (by kernel_rfl) (by kernel_rfl) (fun _ _ _ h => h) (Or.inl ⟨by rfl, ?y213⟩) (by assumption) ?r213
          case y213 => (intro wx hSx; (try dsimp only at hSx); go_simp; (try with_reducible rfl))
          try simp only [Act.put, List.setIfInBounds_toArray, List.set_cons_zero, List.set_cons_succ]
          refine wpAnyH_ready (rs := [16]) (by kernel_rfl) (by simp) ?_
          refine AllReadyH.cons (o := ⟨some 92, _, _, _, _, _⟩) rfl (fun K hK => ?_) AllReadyH.nil
          go_simp
          go_wp2_with ((go_at_call 10; (with_reducible refine (Read_two HS.out.dk).mono ?_); rintro e w' ⟨A, c, rfl, f'⟩; have nS := hid (HS.out.quiet f'); clear HS; have HS := nS; clear nS; clear f'))
          refine hK.out _ _ ?_ (fun hHeld2 => ?_)
          · ((try dsimp only); exact HS.out.keepg)
          clear hK K hHeld; have hHeld := hHeld2; clear hHeld2
          try simp only [Act.put, List.setIfInBounds_toArray, List.set_cons_zero, List.set_cons_succ]
          refine wpAnyH_take (i := 17) (oi := ⟨some 93, _, _, _, _, _⟩) (v := ?v214) rfl (by kernel_rfl) (by kernel_rfl) (by kernel_rfl) (fun _ _ _ h => h) (Or.inl ⟨by rfl, ?y214⟩) (by assumption) ?r214
          case y214 => (intro wx hSx; (try dsimp only at hSx); go_simp; (try with_reducible rfl))
          try simp only [Act.put, List.setIfInBounds_toArray, List.set_cons_zero, List.set_cons_succ]
          refine wpAnyH_take (i := 18) (oi := ⟨some 94, _, _, _, _, _⟩) (v := ?v215) rfl (by kernel_rfl) (by kernel_rfl) (by kernel_rfl) (fun _ _ _ h => h) (Or.inl ⟨by rfl, ?y215⟩) (by assumption) ?r215
          case y215 => (intro wx hSx; (try dsimp only at hSx); go_simp; (try with_reducible rfl))
          try simp only [Act.put, List.setIfInBounds_toArray, List.set_cons_zero, List.set_cons_succ]
          refine wpAnyH_take (i := 19) (oi := ⟨some 95, _, _, _, _, _⟩) (v := ?v216) rfl (by kernel_rfl) (by kernel_rfl) (by kernel_rfl) (fun _ _ _ h => h) (Or.inl ⟨by rfl, ?y216⟩) (by assumption) ?r216
          case y216 => (intro wx hSx; (try dsimp only at hSx); go_simp; (try with_reducible rfl))
          try simp only [Act.put, List.setIfInBounds_toArray, List.set_cons_zero, List.set_cons_succ]
          refine wpAnyH_take (i := 20) (oi := ⟨some 96, _, _, _, _, _⟩) (v := ?v217) rfl (by kernel_rfl) (by kernel_rfl) (by kernel_rfl) (fun _ _ _ h => h) (Or.inl ⟨by rfl, ?y217⟩) (by assumption) ?r217
          case y217 => (intro wx hSx; (try dsimp only at hSx); go_simp; (try with_reducible rfl))
          try simp only [Act.put, List.setIfInBounds_toArray, List.set_cons_zero, List.set_cons_succ]
          refine wpAnyH_take (i := 21) (oi := ⟨some 97, _, _, _, _, _⟩) (v := ?v218) rfl (by kernel_rfl) (by kernel_rfl) (by kernel_rfl) (fun _ _ _ h => h) (Or.inl ⟨by rfl, ?y218⟩) (by assumption) ?r218
          case y218 => (intro wx hSx; (try dsimp only at hSx); go_simp; (try with_reducible rfl))
          try simp only [Act.put, List.setIfInBounds_toArray, List.set_cons_zero, List.set_cons_succ]
          refine wpAnyH_take (i := 23) (oi := ⟨some 99, _, _, _, _, _⟩) (v := ?v219) rfl (by kernel_rfl) (by kernel_rfl) (by kernel_rfl) (fun _ _ _ h => h) (Or.inl ⟨by rfl, ?y219⟩) (by assumption) ?r219
          case y219 => (intro wx hSx; (try dsimp only at hSx); go_simp; (try with_reducible rfl))
          try simp only [Act.put, List.setIfInBounds_toArray, List.set_cons_zero, List.set_cons_succ]
          refine wpAnyH_take (i := 24) (oi := ⟨some 100, _, _, _, _, _⟩) (v := ?v220) rfl (by kernel_rfl) (by kernel_rfl) (by kernel_rfl) (fun _ _ _ h => h) (Or.inl ⟨by rfl, ?y220⟩) (by assumption) ?r220
          case y220 => (intro wx hSx; (try dsimp only at hSx); go_simp; (try with_reducible rfl))
          try simp only [Act.put, List.setIfInBounds_toArray, List.set_cons_zero, List.set_cons_succ]
          refine wpAnyH_ready (rs := [22]) (by kernel_rfl) (by simp) ?_
          refine AllReadyH.cons (o := ⟨some 98, _, _, _, _, _⟩) rfl (fun K hK => ?_) AllReadyH.nil
          go_simp
          go_wp2_with ((go_at_call 11; (with_reducible refine (Armed_calls HS.out.dk).mono ?_); rintro e w' ⟨rfl, rfl⟩))
          refine hK.out _ _ ?_ (fun hHeld2 => ?_)
          · ((try dsimp only); exact HS.out.keepg)
          clear hK K hHeld; have hHeld := hHeld2; clear hHeld2
          try simp only [Act.put, List.setIfInBounds_toArray, List.set_cons_zero, List.set_cons_succ]
          refine wpAnyH_take (i := 25) (oi := ⟨some 101, _, _, _, _, _⟩) (v := ?v221) rfl (by kernel_rfl) (by kernel_rfl) (by kernel_rfl) (fun _ _ _ h => h) (Or.inl ⟨by rfl, ?y221⟩) (by assumption) ?r221
          case y221 => (intro wx hSx; (try dsimp only at hSx); go_simp; (try with_reducible rfl))
          try simp only [Act.put, List.setIfInBounds_toArray, List.set_cons_zero, List.set_cons_succ]
          refine wpAnyH_take (i := 26) (oi := ⟨some 102, _, _, _, _, _⟩) (v := ?v222) rfl (by kernel_rfl) (by kernel_rfl) (by kernel_rfl) (fun _ _ _ h => h) (Or.inl ⟨by rfl, ?y222⟩) (by assumption) ?r222
          case y222 => (intro wx hSx; (try dsimp only at hSx); go_simp; (try with_reducible rfl))
          try simp only [Act.put, List.setIfInBounds_toArray, List.set_cons_zero, List.set_cons_succ]
          refine wpAnyH_done (by kernel_rfl) ?_ _
          go_wp2_with (fail)
          go_roundw
          case rel => exact ⟨k + 1, bs, x1, false, n, by omega, .inr ⟨rfl, rfl⟩, by go_num, HS.out.back⟩
          case measure => simp [intOf]; omega
        · obtain rfl : ae = 1 := hae
          have gq1 := HS.out.cellg 1; have gz := HS.out.freeg 1
          simp only [List.getElem?_cons_succ, List.getElem?_cons_zero] at gq1
          have hcB := HS.out.conv HB.out
          have u0 := HS.out.cells 0; have u1 := HS.out.cells 1; have u3 := HS.out.cells 3
          simp only [List.getElem?_cons_succ, List.getElem?_cons_zero] at u0 u1 u3
          go_wp2_with (fail)
          generalize hwz : World.setCell _ _ _ = wz
          have nS := hid (show Stp w wz b g wr.heap.size [Value.int .i64 wh, Value.int .i64 1, Value.int .i64 nn, Value.slice sa bs.length sn] x0 x1 false n x0 bs from hwz ▸ HS.out.setg1 bs)
          clear HS hwz u0 u1 u3 hcB gq1 gz; have HS := nS; clear nS
          generalize wr.heap.size = sb at *
          refine wp_region_held_drew (S := fun wx => wx.cell? ⟨sb, 1, none⟩ = some (.int .i64 1) ∧ wx.cell? ⟨sb, 3, none⟩ = some (.slice sa bs.length sn)) (by kernel_rfl) (by (try dsimp only); exact HS.out.drew.keeps) (fun hHeld => ?_)
          have nS := hid (HS.out.drew); clear HS; have HS := nS; clear nS
          refine wpAnyH_take (i := 0) (oi := ⟨some 67, _, _, _, _, _⟩) (v := ?v263) rfl (by kernel_rfl) (by kernel_rfl) (by kernel_rfl) (fun _ _ _ h => h) (Or.inl ⟨by rfl, ?y263⟩) (by assumption) ?r263
          case y263 => (intro wx hSx; (try dsimp only at hSx); go_simp; (try with_reducible rfl))
          try simp only [Act.put, List.setIfInBounds_toArray, List.set_cons_zero, List.set_cons_succ]
          refine wpAnyH_take (i := 1) (oi := ⟨some 68, _, _, _, _, _⟩) (v := ?v264) rfl (by kernel_rfl) (by kernel_rfl) (by kernel_rfl) (fun _ _ _ h => h) (Or.inl ⟨by rfl, ?y264⟩) (by assumption) ?r264
          case y264 => (intro wx hSx; (try dsimp only at hSx); go_simp; (try with_reducible rfl))
          try simp only [Act.put, List.setIfInBounds_toArray, List.set_cons_zero, List.set_cons_succ]
          refine wpAnyH_take (i := 2) (oi := ⟨some 69, _, _, _, _, _⟩) (v := ?v265) rfl (by kernel_rfl) (by kernel_rfl) (by kernel_rfl) (fun _ _ _ h => h) (Or.inl ⟨by rfl, ?y265⟩) (by assumption) ?r265
          case y265 => (intro wx hSx; (try dsimp only at hSx); go_simp; (try with_reducible rfl))
          try simp only [Act.put, List.setIfInBounds_toArray, List.set_cons_zero, List.set_cons_succ]
          refine wpAnyH_take (i := 3) (oi := ⟨some 70, _, _, _, _, _⟩) (v := ?v266) rfl (by kernel_rfl) (by kernel_rfl) (by kernel_rfl) (fun _ _ _ h => h) (Or.inl ⟨by rfl, ?y266⟩) (by assumption) ?r266
          case y266 => (intro wx hSx; (try dsimp only at hSx); go_simp; (try with_reducible rfl))
          try simp only [Act.put, List.setIfInBounds_toArray, List.set_cons_zero, List.set_cons_succ]
          refine wpAnyH_take (i := 4) (oi := ⟨some 71, _, _, _, _, _⟩) (v := ?v267) rfl (by kernel_rfl) (by kernel_rfl) (by kernel_rfl) (fun _ _ _ h => h) (Or.inl ⟨by rfl, ?y267⟩) (by assumption) ?r267
          case y267 => (intro wx hSx; (try dsimp only at hSx); go_simp; (try with_reducible rfl))
          try simp only [Act.put, List.setIfInBounds_toArray, List.set_cons_zero, List.set_cons_succ]
          refine wpAnyH_take (i := 7) (oi := ⟨some 74, _, _, _, _, _⟩) (v := ?v268) rfl (by kernel_rfl) (by kernel_rfl) (by kernel_rfl) (fun _ _ _ h => h) (Or.inl ⟨by rfl, ?y268⟩) (by assumption) ?r268
          case y268 => (intro wx hSx; (try dsimp only at hSx); go_simp; (try with_reducible rfl))
          try simp only [Act.put, List.setIfInBounds_toArray, List.set_cons_zero, List.set_cons_succ]
          refine wpAnyH_ready (rs := [5]) (by kernel_rfl) (by simp) ?_
          refine AllReadyH.cons (o := ⟨some 72, _, _, _, _, _⟩) rfl (fun K hK => ?_) AllReadyH.nil
          obtain ⟨A', cp', wq, hrun, hIn, hfq, _⟩ := app_nil (HS.out.bytes HB.out) (by omega)
          refine step_run rfl _ _ _ _ rfl rfl rfl hrun ?_
          clear hrun
          have nS := hid (HS.out.quiet hfq); clear HS; have HS := nS; clear nS
          have hIn' := hid hIn; clear hIn hfq
          refine hK.out _ _ ?_ (fun hHeld2 => ?_)
          · ((try dsimp only); exact HS.out.keeps)
          clear hK K hHeld; have hHeld := hHeld2; clear hHeld2
          try simp only [Act.put, List.setIfInBounds_toArray, List.set_cons_zero, List.set_cons_succ]
          refine wpAnyH_ready (rs := [6]) (by kernel_rfl) (by simp) ?_
          refine AllReadyH.cons (o := ⟨some 73, _, _, _, _, _⟩) rfl (fun K hK => ?_) AllReadyH.nil
          go_simp
          go_wp2_with ((go_at_call 9; (with_reducible refine (Write_ok1 HS.out.dk hIn'.out (by omega)).mono ?_); rintro e w' ⟨rfl, h', f'⟩; have nS := hid (HS.out.disk h' f'); clear HS; have HS := nS; clear nS; clear h' f'))
          refine hK.out _ _ ?_ (fun hHeld2 => ?_)
          · ((try dsimp only); exact HS.out.keeps)
          clear hK K hHeld; have hHeld := hHeld2; clear hHeld2
          try simp only [Act.put, List.setIfInBounds_toArray, List.set_cons_zero, List.set_cons_succ]
          refine wpAnyH_take (i := 8) (oi := ⟨some 75, _, _, _, _, _⟩) (v := ?v269) rfl (by kernel_rfl) (by kernel_rfl) (by kernel_rfl) (fun _ _ _ h => h) (Or.inl ⟨by rfl, ?y269⟩) (by assumption) ?r269
          case y269 => (intro wx hSx; (try dsimp only at hSx); go_simp; (try with_reducible rfl))
          try simp only [Act.put, List.setIfInBounds_toArray, List.set_cons_zero, List.set_cons_succ]
          refine wpAnyH_done (by kernel_rfl) ?_ _
          go_wp2_with (fail)
          refine wp_region_held_drew (S := fun wx => wx.cell? ⟨g, 0, none⟩ = some (.string (strOfNums x0)) ∧ wx.cell? ⟨g, 1, none⟩ = some (.string (strOfNums bs))) (by kernel_rfl) (by (try dsimp only); exact HS.out.drew.keepg) (fun hHeld => ?_)
          have nS := hid (HS.out.drew); clear HS; have HS := nS; clear nS
          refine wpAnyH_take (i := 0) (oi := ⟨some 76, _, _, _, _, _⟩) (v := ?v270) rfl (by kernel_rfl) (by kernel_rfl) (by kernel_rfl) (fun _ _ _ h => h) (Or.inl ⟨by rfl, ?y270⟩) (by assumption) ?r270
          case y270 => (intro wx hSx; (try dsimp only at hSx); go_simp; (try with_reducible rfl))
          try simp only [Act.put, List.setIfInBounds_toArray, List.set_cons_zero, List.set_cons_succ]
          refine wpAnyH_take (i := 3) (oi := ⟨some 79, _, _, _, _, _⟩) (v := ?v271) rfl (by kernel_rfl) (by kernel_rfl) (by kernel_rfl) (fun _ _ _ h => h) (Or.inl ⟨by rfl, ?y271⟩) (by assumption) ?r271
          case y271 => (intro wx hSx; (try dsimp only at hSx); go_simp; (try with_reducible rfl))
          try simp only [Act.put, List.setIfInBounds_toArray, List.set_cons_zero, List.set_cons_succ]
          refine wpAnyH_take (i := 4) (oi := ⟨some 80, _, _, _, _, _⟩) (v := ?v272) rfl (by kernel_rfl) (by kernel_rfl) (by kernel_rfl) (fun _ _ _ h => h) (Or.inl ⟨by rfl, ?y272⟩) (by assumption) ?r272
          case y272 => (intro wx hSx; (try dsimp only at hSx); go_simp; (try with_reducible rfl))
          try simp only [Act.put, List.setIfInBounds_toArray, List.set_cons_zero, List.set_cons_succ]
          refine wpAnyH_ready (rs := [1]) (by kernel_rfl) (by simp) ?_
          refine AllReadyH.cons (o := ⟨some 77, _, _, _, _, _⟩) rfl (fun K hK => ?_) AllReadyH.nil
          go_simp
          go_wp2_with ((go_at_call 10; (with_reducible refine (Read_conv0 HS.out.dk).mono ?_); rintro e w' ⟨A, l, c, rfl, hcv0, h', f'⟩; have nS := hid (HS.out.quiet f'); clear HS; have HS := nS; clear nS; clear h' f'))
          refine hK.out _ _ ?_ (fun hHeld2 => ?_)
          · ((try dsimp only); exact HS.out.keepg)
          clear hK K hHeld; have hHeld := hHeld2; clear hHeld2
          try simp only [Act.put, List.setIfInBounds_toArray, List.set_cons_zero, List.set_cons_succ]
          refine wpAnyH_ready (rs := [2]) (by kernel_rfl) (by simp) ?_
          refine AllReadyH.cons (o := ⟨some 78, _, _, _, _, _⟩) rfl (fun K hK => ?_) AllReadyH.nil
          go_simp
          go_wp2_with (fail)
          refine hK.out _ _ ?_ (fun hHeld2 => ?_)
          · ((try dsimp only); exact HS.out.keepg)
          clear hK K hHeld; have hHeld := hHeld2; clear hHeld2
          try simp only [Act.put, List.setIfInBounds_toArray, List.set_cons_zero, List.set_cons_succ]
          refine wpAnyH_take (i := 5) (oi := ⟨some 81, _, _, _, _, _⟩) (v := ?v273) rfl (by kernel_rfl) (by kernel_rfl) (by kernel_rfl) (fun _ _ _ h => h) (Or.inl ⟨by rfl, ?y273⟩) (by assumption) ?r273
          case y273 => (intro wx hSx; (try dsimp only at hSx); go_simp; (try with_reducible rfl))
          try simp only [Act.put, List.setIfInBounds_toArray, List.set_cons_zero, List.set_cons_succ]
          refine wpAnyH_take (i := 6) (oi := ⟨some 82, _, _, _, _, _⟩) (v := ?v274) rfl (by kernel_rfl) (by kernel_rfl) (by kernel_rfl) (fun _ _ _ h => h) (Or.inl ⟨by rfl, ?y274⟩) (by assumption) ?r274
          case y274 => (intro wx hSx; (try dsimp only at hSx); go_simp; (try with_reducible rfl))
          try simp only [Act.put, List.setIfInBounds_toArray, List.set_cons_zero, List.set_cons_succ]
          refine wpAnyH_take (i := 7) (oi := ⟨some 83, _, _, _, _, _⟩) (v := ?v275) rfl (by kernel_rfl) (by kernel_rfl) (by kernel_rfl) (fun _ _ _ h => h) (Or.inl ⟨by rfl, ?y275⟩) (by assumption) ?r275
          case y275 => (intro wx hSx; (try dsimp only at hSx); go_simp; (try with_reducible rfl))
          try simp only [Act.put, List.setIfInBounds_toArray, List.set_cons_zero, List.set_cons_succ]
          refine wpAnyH_take (i := 10) (oi := ⟨some 86, _, _, _, _, _⟩) (v := ?v276) rfl (by kernel_rfl) (by kernel_rfl) (by kernel_rfl) (fun _ _ _ h => h) (Or.inl ⟨by rfl, ?y276⟩) (by assumption) ?r276
          case y276 => (intro wx hSx; (try dsimp only at hSx); go_simp; (try with_reducible rfl))
          try simp only [Act.put, List.setIfInBounds_toArray, List.set_cons_zero, List.set_cons_succ]
          refine wpAnyH_take (i := 11) (oi := ⟨some 87, _, _, _, _, _⟩) (v := ?v277) rfl (by kernel_rfl) (by kernel_rfl) (by kernel_rfl) (fun _ _ _ h => h) (Or.inl ⟨by rfl, ?y277⟩) (by assumption) ?r277
          case y277 => (intro wx hSx; (try dsimp only at hSx); go_simp; (try with_reducible rfl))
          try simp only [Act.put, List.setIfInBounds_toArray, List.set_cons_zero, List.set_cons_succ]
          refine wpAnyH_ready (rs := [8]) (by kernel_rfl) (by simp) ?_
          refine AllReadyH.cons (o := ⟨some 84, _, _, _, _, _⟩) rfl (fun K hK => ?_) AllReadyH.nil
          go_simp
          go_wp2_with ((go_at_call 10; (with_reducible refine (Read_conv1 HS.out.dk).mono ?_); rintro e w' ⟨A, l, c, rfl, hcv1, h', f'⟩; have nS := hid (HS.out.quiet f'); clear HS; have HS := nS; clear nS; clear h' f'))
          refine hK.out _ _ ?_ (fun hHeld2 => ?_)
          · ((try dsimp only); exact HS.out.keepg)
          clear hK K hHeld; have hHeld := hHeld2; clear hHeld2
          try simp only [Act.put, List.setIfInBounds_toArray, List.set_cons_zero, List.set_cons_succ]
          refine wpAnyH_ready (rs := [9]) (by kernel_rfl) (by simp) ?_
          refine AllReadyH.cons (o := ⟨some 85, _, _, _, _, _⟩) rfl (fun K hK => ?_) AllReadyH.nil
          go_simp
          go_wp2_with (fail)
          refine hK.out _ _ ?_ (fun hHeld2 => ?_)
          · ((try dsimp only); exact HS.out.keepg)
          clear hK K hHeld; have hHeld := hHeld2; clear hHeld2
          try simp only [Act.put, List.setIfInBounds_toArray, List.set_cons_zero, List.set_cons_succ]
          refine wpAnyH_take (i := 12) (oi := ⟨some 88, _, _, _, _, _⟩) (v := ?v278) rfl (by kernel_rfl) (by kernel_rfl) (by kernel_rfl) (fun _ _ _ h => h) (Or.inl ⟨by rfl, ?y278⟩) (by assumption) ?r278
          case y278 => (intro wx hSx; (try dsimp only at hSx); go_simp; (try with_reducible rfl))
          try simp only [Act.put, List.setIfInBounds_toArray, List.set_cons_zero, List.set_cons_succ]
          refine wpAnyH_take (i := 13) (oi := ⟨some 89, _, _, _, _, _⟩) (v := ?v279) rfl (by kernel_rfl) (by kernel_rfl) (by kernel_rfl) (fun _ _ _ h => h) (Or.inl ⟨by rfl, ?y279⟩) (by assumption) ?r279
          case y279 => (intro wx hSx; (try dsimp only at hSx); go_simp; (try with_reducible rfl))
          try simp only [Act.put, List.setIfInBounds_toArray, List.set_cons_zero, List.set_cons_succ]
          refine wpAnyH_take (i := 14) (oi := ⟨some 90, _, _, _, _, _⟩) (v := ?v280) rfl (by kernel_rfl) (by kernel_rfl) (by kernel_rfl) (fun _ _ _ h => h) (Or.inl ⟨by rfl, ?y280⟩) (by assumption) ?r280
          case y280 => (intro wx hSx; (try dsimp only at hSx); go_simp; (try with_reducible rfl))
          try simp only [Act.put, List.setIfInBounds_toArray, List.set_cons_zero, List.set_cons_succ]
          refine wpAnyH_take (i := 15) (oi := ⟨some 91, _, _, _, _, _⟩) (v := ?v281) rfl (by kernel_rfl) (by kernel_rfl) (by kernel_rfl) (fun _ _ _ h => h) (Or.inl ⟨by rfl, ?y281⟩) (by assumption) ?r281
          case y281 => (intro wx hSx; (try dsimp only at hSx); go_simp; (try with_reducible rfl))
          try simp only [Act.put, List.setIfInBounds_toArray, List.set_cons_zero, List.set_cons_succ]
          refine wpAnyH_ready (rs := [16]) (by kernel_rfl) (by simp) ?_
          refine AllReadyH.cons (o := ⟨some 92, _, _, _, _, _⟩) rfl (fun K hK => ?_) AllReadyH.nil
          go_simp
          go_wp2_with ((go_at_call 10; (with_reducible refine (Read_two HS.out.dk).mono ?_); rintro e w' ⟨A, c, rfl, f'⟩; have nS := hid (HS.out.quiet f'); clear HS; have HS := nS; clear nS; clear f'))
          refine hK.out _ _ ?_ (fun hHeld2 => ?_)
          · ((try dsimp only); exact HS.out.keepg)
          clear hK K hHeld; have hHeld := hHeld2; clear hHeld2
          try simp only [Act.put, List.setIfInBounds_toArray, List.set_cons_zero, List.set_cons_succ]
          refine wpAnyH_take (i := 17) (oi := ⟨some 93, _, _, _, _, _⟩) (v := ?v282) rfl (by kernel_rfl) (by kernel_rfl) (by kernel_rfl) (fun _ _ _ h => h) (Or.inl ⟨by rfl, ?y282⟩) (by assumption) ?r282
          case y282 => (intro wx hSx; (try dsimp only at hSx); go_simp; (try with_reducible rfl))
          try simp only [Act.put, List.setIfInBounds_toArray, List.set_cons_zero, List.set_cons_succ]
          refine wpAnyH_take (i := 18) (oi := ⟨some 94, _, _, _, _, _⟩) (v := ?v283) rfl (by kernel_rfl) (by kernel_rfl) (by kernel_rfl) (fun _ _ _ h => h) (Or.inl ⟨by rfl, ?y283⟩) (by assumption) ?r283
          case y283 => (intro wx hSx; (try dsimp only at hSx); go_simp; (try with_reducible rfl))
          try simp only [Act.put, List.setIfInBounds_toArray, List.set_cons_zero, List.set_cons_succ]
          refine wpAnyH_take (i := 19) (oi := ⟨some 95, _, _, _, _, _⟩) (v := ?v284) rfl (by kernel_rfl) (by kernel_rfl) (by kernel_rfl) (fun _ _ _ h => h) (Or.inl ⟨by rfl, ?y284⟩) (by assumption) ?r284
          case y284 => (intro wx hSx; (try dsimp only at hSx); go_simp; (try with_reducible rfl))
          try simp only [Act.put, List.setIfInBounds_toArray, List.set_cons_zero, List.set_cons_succ]
          refine wpAnyH_take (i := 20) (oi := ⟨some 96, _, _, _, _, _⟩) (v := ?v285) rfl (by kernel_rfl) (by kernel_rfl) (by kernel_rfl) (fun _ _ _ h => h) (Or.inl ⟨by rfl, ?y285⟩) (by assumption) ?r285
          case y285 => (intro wx hSx; (try dsimp only at hSx); go_simp; (try with_reducible rfl))
          try simp only [Act.put, List.setIfInBounds_toArray, List.set_cons_zero, List.set_cons_succ]
          refine wpAnyH_take (i := 21) (oi := ⟨some 97, _, _, _, _, _⟩) (v := ?v286) rfl (by kernel_rfl) (by kernel_rfl) (by kernel_rfl) (fun _ _ _ h => h) (Or.inl ⟨by rfl, ?y286⟩) (by assumption) ?r286
          case y286 => (intro wx hSx; (try dsimp only at hSx); go_simp; (try with_reducible rfl))
          try simp only [Act.put, List.setIfInBounds_toArray, List.set_cons_zero, List.set_cons_succ]
          refine wpAnyH_take (i := 23) (oi := ⟨some 99, _, _, _, _, _⟩) (v := ?v287) rfl (by kernel_rfl) (by kernel_rfl) (by kernel_rfl) (fun _ _ _ h => h) (Or.inl ⟨by rfl, ?y287⟩) (by assumption) ?r287
          case y287 => (intro wx hSx; (try dsimp only at hSx); go_simp; (try with_reducible rfl))
          try simp only [Act.put, List.setIfInBounds_toArray, List.set_cons_zero, List.set_cons_succ]
          refine wpAnyH_take (i := 24) (oi := ⟨some 100, _, _, _, _, _⟩) (v := ?v288) rfl (by kernel_rfl) (by kernel_rfl) (by kernel_rfl) (fun _ _ _ h => h) (Or.inl ⟨by rfl, ?y288⟩) (by assumption) ?r288
          case y288 => (intro wx hSx; (try dsimp only at hSx); go_simp; (try with_reducible rfl))
          try simp only [Act.put, List.setIfInBounds_toArray, List.set_cons_zero, List.set_cons_succ]
          refine wpAnyH_ready (rs := [22]) (by kernel_rfl) (by simp) ?_
          refine AllReadyH.cons (o := ⟨some 98, _, _, _, _, _⟩) rfl (fun K hK => ?_) AllReadyH.nil
          go_simp
          go_wp2_with ((go_at_call 11; (with_reducible refine (Armed_calls HS.out.dk).mono ?_); rintro e w' ⟨rfl, rfl⟩))
          refine hK.out _ _ ?_ (fun hHeld2 => ?_)
          · ((try dsimp only); exact HS.out.keepg)
          clear hK K hHeld; have hHeld := hHeld2; clear hHeld2
          try simp only [Act.put, List.setIfInBounds_toArray, List.set_cons_zero, List.set_cons_succ]
          refine wpAnyH_take (i := 25) (oi := ⟨some 101, _, _, _, _, _⟩) (v := ?v289) rfl (by kernel_rfl) (by kernel_rfl) (by kernel_rfl) (fun _ _ _ h => h) (Or.inl ⟨by rfl, ?y289⟩) (by assumption) ?r289
          case y289 => (intro wx hSx; (try dsimp only at hSx); go_simp; (try with_reducible rfl))
          try simp only [Act.put, List.setIfInBounds_toArray, List.set_cons_zero, List.set_cons_succ]
          refine wpAnyH_take (i := 26) (oi := ⟨some 102, _, _, _, _, _⟩) (v := ?v290) rfl (by kernel_rfl) (by kernel_rfl) (by kernel_rfl) (fun _ _ _ h => h) (Or.inl ⟨by rfl, ?y290⟩) (by assumption) ?r290
          case y290 => (intro wx hSx; (try dsimp only at hSx); go_simp; (try with_reducible rfl))
          try simp only [Act.put, List.setIfInBounds_toArray, List.set_cons_zero, List.set_cons_succ]
          refine wpAnyH_done (by kernel_rfl) ?_ _
          go_wp2_with (fail)
          go_roundw
          case rel => exact ⟨k + 1, x0, bs, false, n, by omega, .inr ⟨rfl, rfl⟩, by go_num, HS.out.back⟩
          case measure => simp [intOf]; omega
    · go_wp2
      go_ret
      exact ⟨rfl, hst.bel⟩
end Go.Proofs.Ytlcdldddghhdjaa
