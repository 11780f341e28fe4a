/- WireWrites, walked: every row of things is written as the document says, and read back. -/
import Derived.Test.YtifhjdjjekeegaaWireEnc
namespace Go.Proofs.Ytifhjdjjekeegaa
open Go.RowKit Go.ChangeShapes
set_option linter.unusedVariables false
set_option linter.unusedSimpArgs false
set_option maxRecDepth 100000 in
set_option maxHeartbeats 16000000 in
theorem WireWrites_walk (a0 : Option Addr) (c0 : Nat) (z0 : List (Int × Int × (List Int) × Int × Unit)) (w : World) (h1 : SlK c46 w a0 c0 z0) :
    Calls Try.prog 7 #[.slice a0 z0.length c0] w fun e w' => e = .returned (.bool true) ∧ Below w.heap.size w w' := by
  have hle := h1.le
  have hsm := h1.small
  by_cases hlen : z0.length > 40
  · go_enter Try.func7, Try.ntmps7
    go_wp2_with (go_at_call 8; (with_reducible refine (known_calls _).mono ?_); rintro e w1 ⟨rfl, f1⟩)
    go_ret
    exact ⟨rfl, f1⟩
  go_enter Try.func7, Try.ntmps7
  go_wp2_with (first
      | (go_at_call 8; (with_reducible refine (known_calls _).mono ?_); rintro e w1 ⟨rfl, f1⟩)
      | (go_at_call 9; (with_reducible refine (WNew_calls _ (fun k => k < w.heap.size) (hA_of f1)).mono ?_); rintro e w2 ⟨rfl, h2, f2⟩))
  have st0 : Two w2 (fun k => k < w.heap.size) w1.heap.size (.slice none 0 0) [] [] := Two.start h2
  have fb : Below w.heap.size w w2 := below_next f1 f2
  have hwb : w.heap.size ≤ w1.heap.size := f1.size
  clear h2 f1 f2
  generalize w1.heap.size = b at *
  go_loopw [4, 5] (fun vv i wr => ∃ (k : Nat) (v : Value), k ≤ z0.length ∧ vv = v ∧ i = .int .i64 k ∧ Two wr (fun k => k < w.heap.size) b v (encs (z0.take k)) (encs (z0.take k)) ∧ Below w.heap.size w wr ∧ ∀ t ∈ z0.take k, t.2.2.1.length ≤ 300) (fun _ i _ => z0.length - (intOf i).toNat)
  case atStart => exact ⟨0, _, by omega, rfl, rfl, st0, fb, fun _ h => by cases h⟩
  case round =>
    clear st0 fb
    obtain ⟨k, v, hk, rfl, rfl, hst, hf, hshort⟩ := hrel
    by_cases hlt : k < z0.length
    · have hxl := encs_len _ hshort
      rw [List.length_take] at hxl
      have hxl2 : (encs (z0.take k)).length ≤ 12400 := by omega
      have hnext := hid (encs_take z0 k hlt)
      have hsh := hid hshort; clear hshort hxl
      obtain ⟨ba, off, rfl, hba, hc⟩ := h1.at_ (by omega)
      obtain ⟨t, ht⟩ : ∃ t, z0[k]? = some t := ⟨z0[k], List.getElem?_eq_getElem hlt⟩
      obtain ⟨cs, hkx, hcx⟩ := hc k t ht
      rw [cells46] at hcx
      obtain ⟨_, g0, y0, g1, y1, ⟨sa, sn, g2, s2⟩, g3, y3⟩ := k46 hkx
      have q0 : wr.cell? ⟨ba, off + k * 4, none⟩ = _ := (hf.cell (p := ⟨ba, _, none⟩) hba).trans (hcx 0 _ g0)
      have q1 : wr.cell? ⟨ba, off + k * 4 + 1, none⟩ = _ := (hf.cell (p := ⟨ba, _, none⟩) hba).trans (hcx 1 _ g1)
      have q2 : wr.cell? ⟨ba, off + k * 4 + 2, none⟩ = _ := (hf.cell (p := ⟨ba, _, none⟩) hba).trans (hcx 2 _ g2)
      have q3 : wr.cell? ⟨ba, off + k * 4 + 3, none⟩ = _ := (hf.cell (p := ⟨ba, _, none⟩) hba).trans (hcx 3 _ g3)
      have hB := s2.ints
      have hu64 := bounds_u64 y1
      obtain ⟨wh, nn, bs, mo, _⟩ := t
      dsimp only at *
      clear hc hcx hkx g0 g1 g2 g3 y0 y1 y3 h1 s2
      have hbl := hB.le
      have hbs := hB.small
      have HB := hid hB; clear hB
      obtain ⟨n1, e1, h10, h11⟩ : ∃ n, IntKind.u8.wrap nn = n ∧ 0 ≤ n ∧ n < 256 := ⟨_, rfl, by rw [wrap_u8]; omega, by rw [wrap_u8]; omega⟩
      obtain ⟨n2, e2, h20, h21⟩ : ∃ n, IntKind.u16.wrap nn = n ∧ 0 ≤ n ∧ n < 65536 := ⟨_, rfl, by rw [wrap_u16]; omega, by rw [wrap_u16]; omega⟩
      obtain ⟨n4, e4, h40, h41⟩ : ∃ n, IntKind.u32.wrap nn = n ∧ 0 ≤ n ∧ n < 4294967296 := ⟨_, rfl, by rw [wrap_u32]; omega, by rw [wrap_u32]; omega⟩
      have h80 : 0 ≤ nn := hu64.1
      have h81 : nn < 18446744073709551616 := by omega
      obtain ⟨q, hq⟩ : ∃ q, Go.bits .and .i64 wh 7 = q := ⟨_, rfl⟩
      generalize hX : encs (z0.take k) = X at *
      have HS := hid (hst.more (A' := fun k => k < w.heap.size ∨ k = wr.heap.size) ((Frm.refl _ wr).alloc (.cells #[Value.int .i64 wh, Value.int .u64 nn, Value.slice sa bs.length sn, Value.int .i64 mo] 46)) (fun k hk => hk.imp id (fun e => by omega)))
      have H3 := hid (show Blk (wr.alloc (.cells #[Value.int .i64 wh, Value.int .u64 nn, Value.slice sa bs.length sn, Value.int .i64 mo] 46)) wr.heap.size [Value.int .i64 wh, Value.int .u64 nn, Value.slice sa bs.length sn, Value.int .i64 mo] 46 from Blk.new _ _ _)
      have HF := hid (show Below w.heap.size w (wr.alloc (.cells #[Value.int .i64 wh, Value.int .u64 nn, Value.slice sa bs.length sn, Value.int .i64 mo] 46)) from hf.alloc hf.size _)
      by_cases hbig : bs.length > 300
      · go_wp2_with (fail)
        go_ret
        exact ⟨rfl, HF.out⟩
      have hshort2 := hid (short_take z0 k _ ht hsh.out (by show bs.length ≤ 300; omega))
      have ht2 : z0.getD k (0, 0, [], 0, ()) = (wh, nn, bs, mo, ()) := by rw [List.getD_eq_getElem?_getD, ht]; rfl
      have hnext2 := hnext.out
      rw [ht2] at hnext2
      clear hnext
      have hnext := hid hnext2; clear hnext2 ht2 ht hst hf hsh
      have henc0 := encI_eq wh nn bs mo q hq
      by_cases g0 : q = 0
      · subst g0
        have henc := hid (henc0.1 rfl n1 e1); clear henc0
        go_wp2_with (first
          | (go_at_call 10; (with_reducible refine (WU8_two HS.out (hA_sb HF.out H3.out) n1 h10 h11 (by omega)).mono ?_); rintro e w' ⟨rfl, h', f'⟩; have nS := hid h'; have n3 := hid (H3.out.frm f' (fun hn => hn (.inr rfl))); have nF := hid (below_frm HF.out f' (fun k hk hn => hn (.inl hk))); clear HS H3 HF h' f'; have HS := nS; have H3 := n3; have HF := nF; clear nS n3 nF; have u1' := H3.out.cell 1; have u2' := H3.out.cell 2; (simp only [List.getElem?_cons_succ, List.getElem?_cons_zero] at u1' u2'))
          | (go_at_call 24; (with_reducible refine (Put_two HS.out (hA_sb HF.out H3.out) n1 h10 (by omega) 1 1 rfl (by decide) (by omega)).mono ?_); rintro e w' ⟨v', rfl, h', f'⟩; have nS := hid h'; have n3 := hid (H3.out.frm f' (fun hn => hn (.inr rfl))); have nF := hid (below_frm HF.out f' (fun k hk hn => hn (.inl hk))); clear HS H3 HF h' f'; have HS := nS; have H3 := n3; have HF := nF; clear nS n3 nF; have u1' := H3.out.cell 1; have u2' := H3.out.cell 2; (simp only [List.getElem?_cons_succ, List.getElem?_cons_zero] at u1' u2')))
        go_roundw
        case rel => exact ⟨k + 1, _, by omega, rfl, by go_num, by rw [hnext.out, henc.out]; exact HS.out.less (fun k hk => .inl hk), HF.out, hshort2.out⟩
        case measure => simp [intOf]; omega
      have b0 : (q == 0) = false := beq_eq_false_iff_ne.2 g0
      by_cases g1 : q = 1
      · subst g1
        have henc := hid (henc0.2.1 rfl n2 e2); clear henc0
        go_wp2_with (first
          | (go_at_call 12; (with_reducible refine (WU16_two HS.out (hA_sb HF.out H3.out) n2 h20 h21 (by omega)).mono ?_); rintro e w' ⟨rfl, h', f'⟩; have nS := hid h'; have n3 := hid (H3.out.frm f' (fun hn => hn (.inr rfl))); have nF := hid (below_frm HF.out f' (fun k hk hn => hn (.inl hk))); clear HS H3 HF h' f'; have HS := nS; have H3 := n3; have HF := nF; clear nS n3 nF; have u1' := H3.out.cell 1; have u2' := H3.out.cell 2; (simp only [List.getElem?_cons_succ, List.getElem?_cons_zero] at u1' u2'))
          | (go_at_call 24; (with_reducible refine (Put_two HS.out (hA_sb HF.out H3.out) n2 h20 (by omega) 2 2 rfl (by decide) (by omega)).mono ?_); rintro e w' ⟨v', rfl, h', f'⟩; have nS := hid h'; have n3 := hid (H3.out.frm f' (fun hn => hn (.inr rfl))); have nF := hid (below_frm HF.out f' (fun k hk hn => hn (.inl hk))); clear HS H3 HF h' f'; have HS := nS; have H3 := n3; have HF := nF; clear nS n3 nF; have u1' := H3.out.cell 1; have u2' := H3.out.cell 2; (simp only [List.getElem?_cons_succ, List.getElem?_cons_zero] at u1' u2')))
        go_roundw
        case rel => exact ⟨k + 1, _, by omega, rfl, by go_num, by rw [hnext.out, henc.out]; exact HS.out.less (fun k hk => .inl hk), HF.out, hshort2.out⟩
        case measure => simp [intOf]; omega
      have b1 : (q == 1) = false := beq_eq_false_iff_ne.2 g1
      by_cases g2 : q = 2
      · subst g2
        have henc := hid (henc0.2.2.1 rfl n4 e4); clear henc0
        go_wp2_with (first
          | (go_at_call 13; (with_reducible refine (WU32_two HS.out (hA_sb HF.out H3.out) n4 h40 h41 (by omega)).mono ?_); rintro e w' ⟨rfl, h', f'⟩; have nS := hid h'; have n3 := hid (H3.out.frm f' (fun hn => hn (.inr rfl))); have nF := hid (below_frm HF.out f' (fun k hk hn => hn (.inl hk))); clear HS H3 HF h' f'; have HS := nS; have H3 := n3; have HF := nF; clear nS n3 nF; have u1' := H3.out.cell 1; have u2' := H3.out.cell 2; (simp only [List.getElem?_cons_succ, List.getElem?_cons_zero] at u1' u2'))
          | (go_at_call 24; (with_reducible refine (Put_two HS.out (hA_sb HF.out H3.out) n4 h40 (by omega) 4 4 rfl (by decide) (by omega)).mono ?_); rintro e w' ⟨v', rfl, h', f'⟩; have nS := hid h'; have n3 := hid (H3.out.frm f' (fun hn => hn (.inr rfl))); have nF := hid (below_frm HF.out f' (fun k hk hn => hn (.inl hk))); clear HS H3 HF h' f'; have HS := nS; have H3 := n3; have HF := nF; clear nS n3 nF; have u1' := H3.out.cell 1; have u2' := H3.out.cell 2; (simp only [List.getElem?_cons_succ, List.getElem?_cons_zero] at u1' u2')))
        go_roundw
        case rel => exact ⟨k + 1, _, by omega, rfl, by go_num, by rw [hnext.out, henc.out]; exact HS.out.less (fun k hk => .inl hk), HF.out, hshort2.out⟩
        case measure => simp [intOf]; omega
      have b2 : (q == 2) = false := beq_eq_false_iff_ne.2 g2
      by_cases g3 : q = 3
      · subst g3
        have henc := hid (henc0.2.2.2.1 rfl); clear henc0
        go_wp2_with (first
          | (go_at_call 14; (with_reducible refine (WU64_two HS.out (hA_sb HF.out H3.out) nn h80 h81 (by omega)).mono ?_); rintro e w' ⟨rfl, h', f'⟩; have nS := hid h'; have n3 := hid (H3.out.frm f' (fun hn => hn (.inr rfl))); have nF := hid (below_frm HF.out f' (fun k hk hn => hn (.inl hk))); clear HS H3 HF h' f'; have HS := nS; have H3 := n3; have HF := nF; clear nS n3 nF; have u1' := H3.out.cell 1; have u2' := H3.out.cell 2; (simp only [List.getElem?_cons_succ, List.getElem?_cons_zero] at u1' u2'))
          | (go_at_call 24; (with_reducible refine (Put_two HS.out (hA_sb HF.out H3.out) nn h80 (by omega) 8 8 rfl (by decide) (by omega)).mono ?_); rintro e w' ⟨v', rfl, h', f'⟩; have nS := hid h'; have n3 := hid (H3.out.frm f' (fun hn => hn (.inr rfl))); have nF := hid (below_frm HF.out f' (fun k hk hn => hn (.inl hk))); clear HS H3 HF h' f'; have HS := nS; have H3 := n3; have HF := nF; clear nS n3 nF; have u1' := H3.out.cell 1; have u2' := H3.out.cell 2; (simp only [List.getElem?_cons_succ, List.getElem?_cons_zero] at u1' u2')))
        go_roundw
        case rel => exact ⟨k + 1, _, by omega, rfl, by go_num, by rw [hnext.out, henc.out]; exact HS.out.less (fun k hk => .inl hk), HF.out, hshort2.out⟩
        case measure => simp [intOf]; omega
      have b3 : (q == 3) = false := beq_eq_false_iff_ne.2 g3
      have henc := hid (henc0.2.2.2.2 g0 g1 g2 g3); clear henc0
      have HY := hid (show bs.length ≤ 65535 by omega)
      have HXL := hid (show X.length + 65600 ≤ 140737488355328 by omega)
      have hw64 : IntKind.u64.wrap (bs.length : Int) = (bs.length : Int) := wrapsu _ (by omega) (by omega)
      go_wp2_with (go_at_call 15; (with_reducible refine (WBytes_two HS.out (hA_sb HF.out H3.out) (fun w' f => HB.out.below (below_sb HF.out f) (Nat.le_refl _)) HY.out HXL.out).mono ?_); rintro e w' ⟨rfl, h', f'⟩; have nS := hid h'; have n3 := hid (H3.out.frm f' (fun hn => hn (.inr rfl))); have nF := hid (below_frm HF.out f' (fun k hk hn => hn (.inl hk))); clear HS H3 HF h' f'; have HS := nS; have H3 := n3; have HF := nF; clear nS n3 nF; have u1' := H3.out.cell 1; have u2' := H3.out.cell 2; (simp only [List.getElem?_cons_succ, List.getElem?_cons_zero] at u1' u2'))
      generalize wr.heap.size = sb at *
      refine wp_region_held_drew (S := fun wx => wx.cell? ⟨sb, 2, none⟩ = some (.slice sa bs.length sn)) (by kernel_rfl) (by (try dsimp only); exact H3.out.cell 2) (fun hHeld => ?_)
      have G1 := hid (HS.out.quiet (Frm.refl _ _).drew); have G2 := hid H3.out.drew; have G3 := hid HF.out.drew; clear HS H3 HF; have HS := G1; have H3 := G2; have HF := G3; clear G1 G2 G3
      refine wpAnyH_take (i := 0) (oi := ⟨some 48, _, _, _, _, _⟩) (v := ?v1) rfl (by kernel_rfl) (by kernel_rfl) (by kernel_rfl) (fun _ _ _ h => h) (Or.inl ⟨by rfl, ?y1⟩) (by assumption) ?r1
      case y1 => (intro wx hSx; (try dsimp only at hSx); go_simp; (try with_reducible rfl))
      try simp only [Act.put, List.setIfInBounds_toArray, List.set_cons_zero, List.set_cons_succ]
      refine wpAnyH_take (i := 1) (oi := ⟨some 49, _, _, _, _, _⟩) (v := ?v2) rfl (by kernel_rfl) (by kernel_rfl) (by kernel_rfl) (fun _ _ _ h => h) (Or.inl ⟨by rfl, ?y2⟩) (by assumption) ?r2
      case y2 => (intro wx hSx; (try dsimp only at hSx); go_simp; (try with_reducible rfl))
      try simp only [Act.put, List.setIfInBounds_toArray, List.set_cons_zero, List.set_cons_succ]
      refine wpAnyH_take (i := 2) (oi := ⟨some 50, _, _, _, _, _⟩) (v := ?v3) rfl (by kernel_rfl) (by kernel_rfl) (by kernel_rfl) (fun _ _ _ h => h) (Or.inl ⟨by rfl, ?y3⟩) (by assumption) ?r3
      case y3 => (intro wx hSx; (try dsimp only at hSx); go_simp; (try with_reducible rfl))
      try simp only [Act.put, List.setIfInBounds_toArray, List.set_cons_zero, List.set_cons_succ]
      refine wpAnyH_take (i := 3) (oi := ⟨some 51, _, _, _, _, _⟩) (v := ?v4) rfl (by kernel_rfl) (by kernel_rfl) (by kernel_rfl) (fun _ _ _ h => h) (Or.inl ⟨by rfl, ?y4⟩) (by assumption) ?r4
      case y4 => (intro wx hSx; (try dsimp only at hSx); go_simp; (try with_reducible rfl))
      try simp only [Act.put, List.setIfInBounds_toArray, List.set_cons_zero, List.set_cons_succ]
      refine wpAnyH_take (i := 4) (oi := ⟨some 52, _, _, _, _, _⟩) (v := ?v5) rfl (by kernel_rfl) (by kernel_rfl) (by kernel_rfl) (fun _ _ _ h => h) (Or.inl ⟨by rfl, ?y5⟩) (by assumption) ?r5
      case y5 => (intro wx hSx; (try dsimp only at hSx); go_simp; (try with_reducible rfl))
      try simp only [Act.put, List.setIfInBounds_toArray, List.set_cons_zero, List.set_cons_succ]
      refine wpAnyH_take (i := 6) (oi := ⟨some 54, _, _, _, _, _⟩) (v := ?v6) rfl (by kernel_rfl) (by kernel_rfl) (by kernel_rfl) (fun _ _ _ h => h) (Or.inl ⟨by rfl, ?y6⟩) (by assumption) ?r6
      case y6 => (intro wx hSx; (try dsimp only at hSx); go_simp; (try with_reducible rfl))
      try simp only [Act.put, List.setIfInBounds_toArray, List.set_cons_zero, List.set_cons_succ]
      refine wpAnyH_take (i := 7) (oi := ⟨some 55, _, _, _, _, _⟩) (v := ?v7) rfl (by kernel_rfl) (by kernel_rfl) (by kernel_rfl) (fun _ _ _ h => h) (Or.inl ⟨by rfl, ?y7⟩) (by assumption) ?r7
      case y7 => (intro wx hSx; (try dsimp only at hSx); go_simp; (try with_reducible rfl))
      try simp only [Act.put, List.setIfInBounds_toArray, List.set_cons_zero, List.set_cons_succ]
      refine wpAnyH_ready (rs := [5]) (by kernel_rfl) (by simp) ?_
      refine AllReadyH.cons (o := ⟨some 53, _, _, _, _, _⟩) rfl (fun K hK => ?_) AllReadyH.nil
      go_simp
      go_wp2_with ((go_at_call 24; (with_reducible refine (Put_two HS.out (hA_sb HF.out H3.out) (bs.length : Int) (by omega) (by omega) 2 2 rfl (by decide) (by omega)).mono ?_); rintro e w' ⟨v', rfl, h', f'⟩; have nS := hid h'; have n3 := hid (H3.out.frm f' (fun hn => hn (.inr rfl))); have nF := hid (below_frm HF.out f' (fun k hk hn => hn (.inl hk))); clear HS H3 HF h' f'; have HS := nS; have H3 := n3; have HF := nF; clear nS n3 nF; have u1' := H3.out.cell 1; have u2' := H3.out.cell 2; (simp only [List.getElem?_cons_succ, List.getElem?_cons_zero] at u1' u2')))
      refine hK.out _ _ ?_ (fun hHeld2 => ?_)
      · ((try dsimp only); exact H3.out.cell 2)
      clear hK K hHeld; have hHeld := hHeld2; clear hHeld2
      try simp only [Act.put, List.setIfInBounds_toArray, List.set_cons_zero, List.set_cons_succ]
      refine wpAnyH_ready (rs := [8]) (by kernel_rfl) (by simp) ?_
      refine AllReadyH.cons (o := ⟨some 56, _, _, _, _, _⟩) rfl (fun K hK => ?_) AllReadyH.nil
      refine step_two rfl _ _ rfl rfl HS.out (hA_sb HF.out H3.out) (HB.out.below HF.out (Nat.le_refl _)) rfl (by simp [be_len]; omega) rfl rfl ?_
      intro a' l' c' wq h' f'
      have nS := hid h'; have n3 := hid (H3.out.frm f' (fun hn => hn (.inr rfl))); have nF := hid (below_frm HF.out f' (fun k hk hn => hn (.inl hk))); clear HS H3 HF h' f'; have HS := nS; have H3 := n3; have HF := nF; clear nS n3 nF
      refine hK.out _ _ ?_ (fun hHeld2 => ?_)
      · ((try dsimp only); exact H3.out.cell 2)
      clear hK K hHeld; have hHeld := hHeld2; clear hHeld2
      try simp only [Act.put, List.setIfInBounds_toArray, List.set_cons_zero, List.set_cons_succ]
      refine wpAnyH_take (i := 9) (oi := ⟨some 4, _, _, _, _, _⟩) (v := ?v8) rfl (by kernel_rfl) (by kernel_rfl) (by kernel_rfl) (fun _ _ _ h => h) (Or.inl ⟨by rfl, ?y8⟩) (by assumption) ?r8
      case y8 => (intro wx hSx; (try dsimp only at hSx); go_simp; (try with_reducible rfl))
      try simp only [Act.put, List.setIfInBounds_toArray, List.set_cons_zero, List.set_cons_succ]
      refine wpAnyH_done (by kernel_rfl) ?_ _
      go_wp2_with (fail)
      go_roundw
      case rel => exact ⟨k + 1, _, by omega, rfl, by go_num, by rw [hnext.out, henc.out, ← List.append_assoc]; exact HS.out.less (fun k hk => .inl hk), HF.out, hshort2.out⟩
      case measure => simp [intOf]; omega
    · obtain rfl : k = z0.length := by omega
      rw [List.take_length] at hst hshort
      have hxl := encs_len _ hshort
      have hxl2 : (encs z0).length ≤ 12400 := by omega
      clear hxl
      have hsh := hid hshort; clear hshort
      obtain ⟨va, vc, rfl, hvi⟩ := hst.bytes
      generalize hX : encs z0 = X at *
      have HX := hid hX; clear hX
      have HS := hid hst; clear hst
      have HF := hid hf; clear hf
      clear hvi
      go_wp2_with (fail)
      refine wp_region_held_drew (S := fun wx => (convert 25 9 (.slice va X.length vc)).run Try.prog wx = .ok (.string (strOfNums X)) wx) (by kernel_rfl) (by (try dsimp only); exact conv_two (HS.out.quiet (Frm.refl _ _).drew)) (fun hHeld => ?_)
      have G1 := hid (HS.out.quiet (Frm.refl _ _).drew); have G3 := hid HF.out.drew; clear HS HF; have HS := G1; have HF := G3; clear G1 G3
      refine wpAnyH_take (i := 0) (oi := ⟨some 106, _, _, _, _, _⟩) (v := ?v9) rfl (by kernel_rfl) (by kernel_rfl) (by kernel_rfl) (fun _ _ _ h => h) (Or.inl ⟨by rfl, ?y9⟩) (by assumption) ?r9
      case y9 => (intro wx hSx; (try dsimp only at hSx); go_simp; (try with_reducible rfl))
      try simp only [Act.put, List.setIfInBounds_toArray, List.set_cons_zero, List.set_cons_succ]
      refine wpAnyH_take (i := 3) (oi := ⟨some 109, _, _, _, _, _⟩) (v := ?v10) rfl (by kernel_rfl) (by kernel_rfl) (by kernel_rfl) (fun _ _ _ h => h) (Or.inl ⟨by rfl, ?y10⟩) (by assumption) ?r10
      case y10 => (intro wx hSx; (try dsimp only at hSx); go_simp; (try with_reducible rfl))
      try simp only [Act.put, List.setIfInBounds_toArray, List.set_cons_zero, List.set_cons_succ]
      refine wpAnyH_take (i := 4) (oi := ⟨some 110, _, _, _, _, _⟩) (v := ?v11) rfl (by kernel_rfl) (by kernel_rfl) (by kernel_rfl) (fun _ _ _ h => h) (Or.inl ⟨by rfl, ?y11⟩) (by assumption) ?r11
      case y11 => (intro wx hSx; (try dsimp only at hSx); go_simp; (try with_reducible rfl))
      try simp only [Act.put, List.setIfInBounds_toArray, List.set_cons_zero, List.set_cons_succ]
      refine wpAnyH_ready (rs := [1]) (by kernel_rfl) (by simp) ?_
      refine AllReadyH.cons (o := ⟨some 107, _, _, _, _, _⟩) rfl (fun K hK => ?_) AllReadyH.nil
      go_simp
      go_wp2_with ((go_at_call 11; (with_reducible refine (WAll_calls HS.out.wr (by omega) X.length rfl).mono ?_); rintro e w' ⟨rfl, hI, f'⟩; have hcv := conv_of (A := some ⟨wr.heap.size, 0, none⟩) hI rfl; have nS := hid (HS.out.quiet (frm0_of f')); have nF := hid (below_next HF.out f'); clear HS HF hI f'; have HS := nS; have HF := nF; clear nS nF))
      refine hK.out _ _ ?_ (fun hHeld2 => ?_)
      · ((try dsimp only); exact (conv_two HS.out))
      clear hK K hHeld; have hHeld := hHeld2; clear hHeld2
      try simp only [Act.put, List.setIfInBounds_toArray, List.set_cons_zero, List.set_cons_succ]
      refine wpAnyH_ready (rs := [2]) (by kernel_rfl) (by simp) ?_
      refine AllReadyH.cons (o := ⟨some 108, _, _, _, _, _⟩) rfl (fun K hK => ?_) AllReadyH.nil
      go_simp
      go_wp2_with (fail)
      refine hK.out _ _ ?_ (fun hHeld2 => ?_)
      · ((try dsimp only); exact (conv_two HS.out))
      clear hK K hHeld; have hHeld := hHeld2; clear hHeld2
      try simp only [Act.put, List.setIfInBounds_toArray, List.set_cons_zero, List.set_cons_succ]
      refine wpAnyH_take (i := 5) (oi := ⟨some 111, _, _, _, _, _⟩) (v := ?v12) rfl (by kernel_rfl) (by kernel_rfl) (by kernel_rfl) (fun _ _ _ h => h) (Or.inl ⟨by rfl, ?y12⟩) (by assumption) ?r12
      case y12 => (intro wx hSx; (try dsimp only at hSx); go_simp; (try with_reducible rfl))
      try simp only [Act.put, List.setIfInBounds_toArray, List.set_cons_zero, List.set_cons_succ]
      refine wpAnyH_done (by kernel_rfl) ?_ _
      go_wp2_with (first
        | (go_at_call 11; (with_reducible refine (WAll_calls HS.out.wr (by omega) X.length rfl).mono ?_); rintro e w' ⟨rfl, hI, f'⟩; have HI := hid hI; have nS := hid (HS.out.quiet (frm0_of f')); have nF := hid (below_next HF.out f'); clear HS HF hI f'; have HS := nS; have HF := nF; clear nS nF)
        | (go_at_call 16; (with_reducible refine (Open_calls HI.out rfl (by omega)).mono ?_); rintro e w' ⟨b', hb', rfl, hR, f'⟩; have HR := hid hR; have HRB := hid (Nat.le_trans HF.out.size hb'); have nF := hid (below_next HF.out f'); clear HF HI hR hb' f'; have HF := nF; clear nF))
      have hbb : w.heap.size ≤ b' := HRB.out
      have hr : IsRd w' b' (encs (z0.drop 0)) := by rw [List.drop_zero, HX.out]; exact HR.out
      have hf : Below w.heap.size w w' := HF.out
      clear HS HF HR HX
      generalize w' = wo at *
      go_loopw [8] (fun i wr => ∃ (k : Nat), k ≤ z0.length ∧ i = .int .i64 k ∧ IsRd wr b' (encs (z0.drop k)) ∧ Below w.heap.size w wr) (fun i _ => z0.length - (intOf i).toNat)
      case atStart => exact ⟨0, by omega, rfl, hr, hf⟩
      case round =>
        clear hr hf
        obtain ⟨k, hk, rfl, hr, hf⟩ := hrel
        by_cases hlt : k < z0.length
        · have hnext := encs_drop z0 k hlt
          have hdr := encs_drop_len z0 k hlt
          obtain ⟨ba, off, rfl, hba, hc⟩ := h1.at_ (by omega)
          obtain ⟨t, ht⟩ : ∃ t, z0[k]? = some t := ⟨z0[k], List.getElem?_eq_getElem hlt⟩
          obtain ⟨cs, hkx, hcx⟩ := hc k t ht
          rw [cells46] at hcx
          obtain ⟨_, g0, y0, g1, y1, ⟨sa, sn, g2, s2⟩, g3, y3⟩ := k46 hkx
          have q0 : wr.cell? ⟨ba, off + k * 4, none⟩ = _ := (hf.cell (p := ⟨ba, _, none⟩) hba).trans (hcx 0 _ g0)
          have q1 : wr.cell? ⟨ba, off + k * 4 + 1, none⟩ = _ := (hf.cell (p := ⟨ba, _, none⟩) hba).trans (hcx 1 _ g1)
          have q2 : wr.cell? ⟨ba, off + k * 4 + 2, none⟩ = _ := (hf.cell (p := ⟨ba, _, none⟩) hba).trans (hcx 2 _ g2)
          have q3 : wr.cell? ⟨ba, off + k * 4 + 3, none⟩ = _ := (hf.cell (p := ⟨ba, _, none⟩) hba).trans (hcx 3 _ g3)
          have hB := s2.ints
          have hu64 := bounds_u64 y1
          obtain ⟨wh, nn, bs, mo, _⟩ := t
          dsimp only at *
          clear hc hcx hkx g0 g1 g2 g3 y0 y1 y3 h1 s2
          have hbl := hB.le
          have hbs := hB.small
          have HB := hid hB; clear hB
          obtain ⟨n1, e1, h10, h11⟩ : ∃ n, IntKind.u8.wrap nn = n ∧ 0 ≤ n ∧ n < 256 := ⟨_, rfl, by rw [wrap_u8]; omega, by rw [wrap_u8]; omega⟩
          obtain ⟨n2, e2, h20, h21⟩ : ∃ n, IntKind.u16.wrap nn = n ∧ 0 ≤ n ∧ n < 65536 := ⟨_, rfl, by rw [wrap_u16]; omega, by rw [wrap_u16]; omega⟩
          obtain ⟨n4, e4, h40, h41⟩ : ∃ n, IntKind.u32.wrap nn = n ∧ 0 ≤ n ∧ n < 4294967296 := ⟨_, rfl, by rw [wrap_u32]; omega, by rw [wrap_u32]; omega⟩
          have h80 : 0 ≤ nn := hu64.1
          have h81 : nn < 18446744073709551616 := by omega
          obtain ⟨q, hq⟩ : ∃ q, Go.bits .and .i64 wh 7 = q := ⟨_, rfl⟩
          have ht2 : z0.getD k (0, 0, [], 0, ()) = (wh, nn, bs, mo, ()) := by rw [List.getD_eq_getElem?_getD, ht]; rfl
          have hsb : bs.length ≤ 300 := hsh.out _ (List.mem_of_getElem? ht)
          rw [ht2] at hnext
          rw [hnext] at hr
          clear hnext ht2 ht hdr
          have hlr := hr.lt
          have HR := hid (show IsRd (wr.alloc (.cells #[Value.int .i64 wh, Value.int .u64 nn, Value.slice sa bs.length sn, Value.int .i64 mo] 46)) b' (encI (wh, nn, bs, mo, ()) ++ encs (z0.drop (k + 1))) from hr.quiet ((Frm.refl _ _).alloc _))
          have H3 := hid (show Blk (wr.alloc (.cells #[Value.int .i64 wh, Value.int .u64 nn, Value.slice sa bs.length sn, Value.int .i64 mo] 46)) wr.heap.size [Value.int .i64 wh, Value.int .u64 nn, Value.slice sa bs.length sn, Value.int .i64 mo] 46 from Blk.new _ _ _)
          have HF := hid (show Below w.heap.size w (wr.alloc (.cells #[Value.int .i64 wh, Value.int .u64 nn, Value.slice sa bs.length sn, Value.int .i64 mo] 46)) from hf.alloc hf.size _)
          have HNE := hid (show wr.heap.size ≠ b' from Ne.symm (Nat.ne_of_lt hlr))
          clear hr hf hlr
          have henc0 := encI_eq wh nn bs mo q hq
          generalize hE : encI (wh, nn, bs, mo, ()) = E at *
          by_cases g0 : q = 0
          · subst g0
            have henc := henc0.1 rfl n1 e1; clear henc0
            subst henc
            have hlen2 := hid (show 1 ≤ (be n1 1 ++ encs (z0.drop (k + 1))).length by rw [List.length_append, be_len]; omega)
            have hval := hid (show IntKind.u8.wrap (vOf ((be n1 1 ++ encs (z0.drop (k + 1))).take 1)) = n1 by rw [List.take_left' (be_len _ _), vOf_be1 _ h10 h11, wrap_u8]; omega)
            have hdrop := hid (show (be n1 1 ++ encs (z0.drop (k + 1))).drop 1 = encs (z0.drop (k + 1)) from List.drop_left' (be_len _ _))
            go_wp2_with (go_at_call 19; (with_reducible refine (RU8_ok HR.out hlen2.out n1 hval.out).mono ?_); rintro e w' ⟨rfl, h', f'⟩; have nR := hid h'; have n3 := hid (H3.out.frm f' HNE.out); have nF := hid (below_frm1 HF.out f' HRB.out); clear HR H3 HF h' f'; have HR := nR; have H3 := n3; have HF := nF; clear nR n3 nF; have u1' := H3.out.cell 1; have u2' := H3.out.cell 2; (simp only [List.getElem?_cons_succ, List.getElem?_cons_zero] at u1' u2'))
            go_roundw
            case rel => exact ⟨k + 1, by omega, by go_num, by rw [← hdrop.out]; exact HR.out, HF.out⟩
            case measure => simp [intOf]; omega
          have b0 : (q == 0) = false := beq_eq_false_iff_ne.2 g0
          by_cases g1 : q = 1
          · subst g1
            have henc := henc0.2.1 rfl n2 e2; clear henc0
            subst henc
            have hlen2 := hid (show 2 ≤ (be n2 2 ++ encs (z0.drop (k + 1))).length by rw [List.length_append, be_len]; omega)
            have hval := hid (show IntKind.u16.wrap (vOf ((be n2 2 ++ encs (z0.drop (k + 1))).take 2)) = n2 by rw [List.take_left' (be_len _ _), vOf_be2 _ h20 h21, wrap_u16]; omega)
            have hdrop := hid (show (be n2 2 ++ encs (z0.drop (k + 1))).drop 2 = encs (z0.drop (k + 1)) from List.drop_left' (be_len _ _))
            go_wp2_with (go_at_call 20; (with_reducible refine (RU16_ok HR.out hlen2.out n2 hval.out).mono ?_); rintro e w' ⟨rfl, h', f'⟩; have nR := hid h'; have n3 := hid (H3.out.frm f' HNE.out); have nF := hid (below_frm1 HF.out f' HRB.out); clear HR H3 HF h' f'; have HR := nR; have H3 := n3; have HF := nF; clear nR n3 nF; have u1' := H3.out.cell 1; have u2' := H3.out.cell 2; (simp only [List.getElem?_cons_succ, List.getElem?_cons_zero] at u1' u2'))
            go_roundw
            case rel => exact ⟨k + 1, by omega, by go_num, by rw [← hdrop.out]; exact HR.out, HF.out⟩
            case measure => simp [intOf]; omega
          have b1 : (q == 1) = false := beq_eq_false_iff_ne.2 g1
          by_cases g2 : q = 2
          · subst g2
            have henc := henc0.2.2.1 rfl n4 e4; clear henc0
            subst henc
            have hlen2 := hid (show 4 ≤ (be n4 4 ++ encs (z0.drop (k + 1))).length by rw [List.length_append, be_len]; omega)
            have hval := hid (show IntKind.u32.wrap (vOf ((be n4 4 ++ encs (z0.drop (k + 1))).take 4)) = n4 by rw [List.take_left' (be_len _ _), vOf_be4 _ h40 h41, wrap_u32]; omega)
            have hdrop := hid (show (be n4 4 ++ encs (z0.drop (k + 1))).drop 4 = encs (z0.drop (k + 1)) from List.drop_left' (be_len _ _))
            go_wp2_with (go_at_call 21; (with_reducible refine (RU32_ok HR.out hlen2.out n4 hval.out).mono ?_); rintro e w' ⟨rfl, h', f'⟩; have nR := hid h'; have n3 := hid (H3.out.frm f' HNE.out); have nF := hid (below_frm1 HF.out f' HRB.out); clear HR H3 HF h' f'; have HR := nR; have H3 := n3; have HF := nF; clear nR n3 nF; have u1' := H3.out.cell 1; have u2' := H3.out.cell 2; (simp only [List.getElem?_cons_succ, List.getElem?_cons_zero] at u1' u2'))
            go_roundw
            case rel => exact ⟨k + 1, by omega, by go_num, by rw [← hdrop.out]; exact HR.out, HF.out⟩
            case measure => simp [intOf]; omega
          have b2 : (q == 2) = false := beq_eq_false_iff_ne.2 g2
          by_cases g3 : q = 3
          · subst g3
            have henc := henc0.2.2.2.1 rfl; clear henc0
            subst henc
            have hlen2 := hid (show 8 ≤ (be nn 8 ++ encs (z0.drop (k + 1))).length by rw [List.length_append, be_len]; omega)
            have hval := hid (show vOf ((be nn 8 ++ encs (z0.drop (k + 1))).take 8) = nn by rw [List.take_left' (be_len _ _), vOf_be8 _ h80 h81])
            have hdrop := hid (show (be nn 8 ++ encs (z0.drop (k + 1))).drop 8 = encs (z0.drop (k + 1)) from List.drop_left' (be_len _ _))
            go_wp2_with (go_at_call 22; (with_reducible refine (RU64_ok HR.out hlen2.out nn hval.out).mono ?_); rintro e w' ⟨rfl, h', f'⟩; have nR := hid h'; have n3 := hid (H3.out.frm f' HNE.out); have nF := hid (below_frm1 HF.out f' HRB.out); clear HR H3 HF h' f'; have HR := nR; have H3 := n3; have HF := nF; clear nR n3 nF; have u1' := H3.out.cell 1; have u2' := H3.out.cell 2; (simp only [List.getElem?_cons_succ, List.getElem?_cons_zero] at u1' u2'))
            go_roundw
            case rel => exact ⟨k + 1, by omega, by go_num, by rw [← hdrop.out]; exact HR.out, HF.out⟩
            case measure => simp [intOf]; omega
          have b3 : (q == 3) = false := beq_eq_false_iff_ne.2 g3
          have henc := henc0.2.2.2.2 g0 g1 g2 g3; clear henc0
          subst henc
          rw [List.append_assoc] at HR
          obtain ⟨Y, hY⟩ : ∃ Y, Y = be (bs.length : Int) 2 ++ (bs ++ encs (z0.drop (k + 1))) := ⟨_, rfl⟩
          rw [← hY] at HR
          have hYl : Y.length = 2 + (bs.length + (encs (z0.drop (k + 1))).length) := by rw [hY, List.length_append, be_len, List.length_append]
          have hlen2 := hid (show 2 ≤ Y.length by omega)
          have hlen3 := hid (show bs.length ≤ Y.length - 2 by omega)
          have hd2 : Y.drop 2 = bs ++ encs (z0.drop (k + 1)) := by rw [hY]; exact List.drop_left' (be_len _ _)
          have hval := hid (show IntKind.u16.wrap (vOf (Y.take 2)) = ((bs.length : Nat) : Int) by rw [hY, List.take_left' (be_len _ _), vOf_be2 _ (by omega) (by omega), wrap_u16]; omega)
          have htk := hid (show (Y.drop 2).take bs.length = bs by rw [hd2, List.take_left' rfl])
          have hdrop := hid (show Y.drop (2 + bs.length) = encs (z0.drop (k + 1)) by rw [← List.drop_drop, hd2, List.drop_left' rfl])
          clear hY hYl hd2
          go_wp2_with (go_at_call 17; (with_reducible refine (RBytes_ok HR.out 300 hlen2.out bs.length hval.out (by omega) hlen3.out (by omega)).mono ?_); rintro e w' ⟨g', rfl, hg', hIo, h', f'⟩; have nR := hid h'; have n3 := hid (H3.out.frm f' HNE.out); have nF := hid (below_frm1 HF.out f' HRB.out); clear HR H3 HF h' f'; have HR := nR; have H3 := n3; have HF := nF; clear nR n3 nF; have u1' := H3.out.cell 1; have u2' := H3.out.cell 2; (simp only [List.getElem?_cons_succ, List.getElem?_cons_zero] at u1' u2'); have hcv1 := conv_of (HB.out.below HF.out (Nat.le_refl _)) rfl; have hcv2 := conv_of (l := bs.length) hIo (by rw [htk.out]); (rw [htk.out] at hcv2); clear hIo hg')
          go_roundw
          case rel => exact ⟨k + 1, by omega, by go_num, by rw [← hdrop.out]; exact HR.out, HF.out⟩
          case measure => simp [intOf]; omega
        · obtain rfl : k = z0.length := by omega
          rw [List.drop_length] at hr
          have HF := hid hf; clear hf
          go_wp2_with (go_at_call 18; (with_reducible refine (Left_calls hr).mono ?_); rintro e w' ⟨rfl, rfl⟩)
          go_ret
          exact ⟨rfl, HF.out⟩
end Go.Proofs.Ytifhjdjjekeegaa
