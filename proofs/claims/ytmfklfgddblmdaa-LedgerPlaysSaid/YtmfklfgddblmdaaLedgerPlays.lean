/- LedgerPlays, walked: every row of beginnings and ends, as the document says. -/
import Derived.Test.YtmfklfgddblmdaaLedgerKnown
import Derived.Test.YtmfklfgddblmdaaLedgerRef
import Derived.Test.YtmfklfgddblmdaaTypes
import Derived.OpenShut
import Derived.Deep.QuietTactic
import Derived.BigQuiet
import Derived.Deep.RegionHeld3
namespace Go.Proofs.Ytmfklfgddblmdaa
open Go.RowKit Go.ChangeShapes
theorem at_cell (s : Lg) (i : Int) (h0 : 0 ≤ i) (h4 : i < 4) : s.cells[i.toNat]? = some (.bool (s.at_ i)) := by
  have c5 : i = 0 ∨ i = 1 ∨ i = 2 ∨ i = 3 := by omega
  rcases c5 with rfl | rfl | rfl | rfl <;> rfl
theorem at_big (s : Lg) (i : Int) (h4 : ¬ i < 4) : s.at_ i = false := by
  unfold Lg.at_; rw [if_neg (by omega), if_neg (by omega), if_neg (by omega), if_neg (by omega)]
set_option maxRecDepth 100000 in
set_option maxHeartbeats 8000000 in
theorem LedgerPlays_walk (a0 : Option Addr) (c0 : Nat) (z0 : List (Bool × Int × Unit)) (w : World) (h1 : SlK c31 w a0 c0 z0) :
    Calls Try.prog 3 #[.slice a0 z0.length c0] w fun e w' => e = .returned (.bool true) ∧ Below w.heap.size w w' := by
  have hle := h1.le
  have hsm := h1.small
  by_cases hlen : z0.length > 100
  · go_enter Try.func3, Try.ntmps3
    go_wp2_with (go_at_call 5; (with_reducible refine (known_calls _).mono ?_); rintro e w1 ⟨rfl, f1⟩)
    go_ret
    exact ⟨rfl, f1⟩
  go_enter Try.func3, Try.ntmps3
  go_wp2_with (first
      | (go_at_call 5; (with_reducible refine (known_calls _).mono ?_); rintro e w1 ⟨rfl, f1⟩)
      | (go_at_call 6; (with_reducible refine (LNew_calls _).mono ?_); rintro e w2 ⟨b, hb0, rfl, h2, f2⟩))
  generalize hwz : w2.alloc (Obj.cells _ 29) = wz
  have h3 : IsRl wz w2.heap.size lgNew := hwz ▸ Blk.new w2 lgNew.cells 29
  have h4 : IsLg wz b lgNew := hwz ▸ h2.alloc _
  have f3 : Below w.heap.size w wz := hwz ▸ (below_frm0 f1 f2).alloc (Nat.le_trans f1.size f2.size) _
  have hbr := h2.lt
  have hb : w.heap.size ≤ b := Nat.le_trans f1.size hb0
  clear h2 f2 f1 hb0 hwz
  generalize w2.heap.size = r at *
  have hrb : w.heap.size ≤ r := by omega
  have hne : b ≠ r := by omega
  generalize lgNew = s0 at *
  go_loopw [5] (fun i wr => ∃ (k : Nat) (s : Lg), k ≤ z0.length ∧ i = .int .i64 k ∧ IsLg wr b s ∧ IsRl wr r s ∧ Below w.heap.size w wr) (fun i _ => z0.length - (intOf i).toNat)
  case atStart => exact ⟨0, s0, by omega, rfl, h4, h3, f3⟩
  case round =>
    clear h3 h4 f3
    obtain ⟨k, s, hk, rfl, hs, hr, hf⟩ := hrel
    by_cases hlt : k < z0.length
    · obtain ⟨ba, off, rfl, hba, hc⟩ := h1.at_ (by omega)
      obtain ⟨x, hx⟩ : ∃ x, z0[k]? = some x := ⟨z0[k], List.getElem?_eq_getElem hlt⟩
      obtain ⟨cs, hkx, hcx⟩ := hc k x hx
      rw [cells31] at hcx
      obtain ⟨_, g0, g1, y1⟩ := k31 hkx
      have q0 : wr.cell? ⟨ba, off + k * 2, none⟩ = _ := (hf.cell (p := ⟨ba, _, none⟩) hba).trans (hcx 0 _ g0)
      have q1 : wr.cell? ⟨ba, off + k * 2 + 1, none⟩ = _ := (hf.cell (p := ⟨ba, _, none⟩) hba).trans (hcx 1 _ g1)
      have b1 := bounds_u8 y1
      clear hc hcx hkx g0 g1 y1 h1 hx
      obtain ⟨en, ii, _⟩ := x
      dsimp only at *
      have HS := hid hs; clear hs
      have HR := hid hr; clear hr
      have HF := hid hf; clear hf
      have hnb : wr.heap.size ≠ b := Ne.symm (Nat.ne_of_lt HS.out.lt)
      have hnr : wr.heap.size ≠ r := Ne.symm (Nat.ne_of_lt HR.out.lt)
      go_wp2_with (fail)
      generalize hwa : wr.alloc (Obj.cells #[Value.bool en, Value.int .u8 ii] 31) = wa
      have g1 : IsLg wa.drew b s := hwa ▸ (HS.out.alloc _).drew
      have g2 : IsRl wa.drew r s := hwa ▸ (HR.out.alloc _).drew
      have g3 : Below w.heap.size w wa.drew := hwa ▸ (HF.out.alloc HF.out.size _).drew
      have g4 : Blk wa.drew wr.heap.size [Value.bool en, Value.int .u8 ii] 31 := hwa ▸ (Blk.new _ _ _).drew
      clear HS HR HF hwa q0 q1
      generalize wr.heap.size = sb at *
      have HS := hid g1; clear g1
      have HR := hid g2; clear g2
      have HF := hid g3; clear g3
      have H3 := hid g4; clear g4
      have nb0 := b1.1
      cases en
      · have q0 : wa.cell? ⟨sb, 0, none⟩ = some (.bool false) := H3.out.cell 0
        have q1 : wa.cell? ⟨sb, 1, none⟩ = some (.int .u8 ii) := H3.out.cell 1
        refine wp_region_held_drew (S := fun wx => wx.cell? ⟨sb, 0, none⟩ = some (.bool false) ∧ wx.cell? ⟨sb, 1, none⟩ = some (.int .u8 ii)) (by kernel_rfl) (by (try dsimp only); go_keep) (fun hHeld => ?_)
        refine wpAnyH_take (i := 0) (oi := ⟨some 26, _, _, _, _, _⟩) (v := ?v1) rfl (by kernel_rfl) (by kernel_rfl) (by kernel_rfl) (fun _ _ _ h => h) (Or.inl ⟨by rfl, ?y1⟩) (by assumption) ?r1
        case y1 => (intro wx hSx; (try dsimp only at hSx); go_simp; (try with_reducible rfl))
        try simp only [Act.put, List.setIfInBounds_toArray, List.set_cons_zero, List.set_cons_succ]
        refine wpAnyH_take (i := 1) (oi := ⟨some 27, _, _, _, _, _⟩) (v := ?v2) rfl (by kernel_rfl) (by kernel_rfl) (by kernel_rfl) (fun _ _ _ h => h) (Or.inl ⟨by rfl, ?y2⟩) (by assumption) ?r2
        case y2 => (intro wx hSx; (try dsimp only at hSx); go_simp; (try with_reducible rfl))
        try simp only [Act.put, List.setIfInBounds_toArray, List.set_cons_zero, List.set_cons_succ]
        refine wpAnyH_take (i := 2) (oi := ⟨some 28, _, _, _, _, _⟩) (v := ?v3) rfl (by kernel_rfl) (by kernel_rfl) (by kernel_rfl) (fun _ _ _ h => h) (Or.inl ⟨by rfl, ?y3⟩) (by assumption) ?r3
        case y3 => (intro wx hSx; (try dsimp only at hSx); go_simp; (try with_reducible rfl))
        try simp only [Act.put, List.setIfInBounds_toArray, List.set_cons_zero, List.set_cons_succ]
        refine wpAnyH_take (i := 3) (oi := ⟨some 29, _, _, _, _, _⟩) (v := undef) rfl (by kernel_rfl) (by kernel_rfl) (by kernel_rfl) (fun _ _ _ h => h) (Or.inr ⟨by rfl, rfl⟩) (by assumption) ?_
        try simp only [Act.put, List.setIfInBounds_toArray, List.set_cons_zero, List.set_cons_succ]
        refine wpAnyH_take (i := 4) (oi := ⟨some 30, _, _, _, _, _⟩) (v := undef) rfl (by kernel_rfl) (by kernel_rfl) (by kernel_rfl) (fun _ _ _ h => h) (Or.inr ⟨by rfl, rfl⟩) (by assumption) ?_
        try simp only [Act.put, List.setIfInBounds_toArray, List.set_cons_zero, List.set_cons_succ]
        refine wpAnyH_take (i := 5) (oi := ⟨some 31, _, _, _, _, _⟩) (v := undef) rfl (by kernel_rfl) (by kernel_rfl) (by kernel_rfl) (fun _ _ _ h => h) (Or.inr ⟨by rfl, rfl⟩) (by assumption) ?_
        try simp only [Act.put, List.setIfInBounds_toArray, List.set_cons_zero, List.set_cons_succ]
        refine wpAnyH_take (i := 7) (oi := ⟨some 33, _, _, _, _, _⟩) (v := undef) rfl (by kernel_rfl) (by kernel_rfl) (by kernel_rfl) (fun _ _ _ h => h) (Or.inr ⟨by rfl, rfl⟩) (by assumption) ?_
        try simp only [Act.put, List.setIfInBounds_toArray, List.set_cons_zero, List.set_cons_succ]
        refine wpAnyH_take (i := 8) (oi := ⟨some 34, _, _, _, _, _⟩) (v := undef) rfl (by kernel_rfl) (by kernel_rfl) (by kernel_rfl) (fun _ _ _ h => h) (Or.inr ⟨by rfl, rfl⟩) (by assumption) ?_
        try simp only [Act.put, List.setIfInBounds_toArray, List.set_cons_zero, List.set_cons_succ]
        refine wpAnyH_take (i := 9) (oi := ⟨some 35, _, _, _, _, _⟩) (v := undef) rfl (by kernel_rfl) (by kernel_rfl) (by kernel_rfl) (fun _ _ _ h => h) (Or.inr ⟨by rfl, rfl⟩) (by assumption) ?_
        try simp only [Act.put, List.setIfInBounds_toArray, List.set_cons_zero, List.set_cons_succ]
        refine wpAnyH_take (i := 6) (oi := ⟨some 32, _, _, _, _, _⟩) (v := undef) rfl (by kernel_rfl) (by kernel_rfl) (by kernel_rfl) (fun _ _ _ h => h) (Or.inr ⟨by rfl, rfl⟩) (by assumption) ?_
        try simp only [Act.put, List.setIfInBounds_toArray, List.set_cons_zero, List.set_cons_succ]
        refine wpAnyH_take (i := 10) (oi := ⟨some 36, _, _, _, _, _⟩) (v := undef) rfl (by kernel_rfl) (by kernel_rfl) (by kernel_rfl) (fun _ _ _ h => h) (Or.inr ⟨by rfl, rfl⟩) (by assumption) ?_
        try simp only [Act.put, List.setIfInBounds_toArray, List.set_cons_zero, List.set_cons_succ]
        refine wpAnyH_take (i := 11) (oi := ⟨some 37, _, _, _, _, _⟩) (v := undef) rfl (by kernel_rfl) (by kernel_rfl) (by kernel_rfl) (fun _ _ _ h => h) (Or.inr ⟨by rfl, rfl⟩) (by assumption) ?_
        try simp only [Act.put, List.setIfInBounds_toArray, List.set_cons_zero, List.set_cons_succ]
        refine wpAnyH_take (i := 12) (oi := ⟨some 38, _, _, _, _, _⟩) (v := ?v4) rfl (by kernel_rfl) (by kernel_rfl) (by kernel_rfl) (fun _ _ _ h => h) (Or.inl ⟨by rfl, ?y4⟩) (by assumption) ?r4
        case y4 => (intro wx hSx; (try dsimp only at hSx); go_simp; (try with_reducible rfl))
        try simp only [Act.put, List.setIfInBounds_toArray, List.set_cons_zero, List.set_cons_succ]
        refine wpAnyH_take (i := 13) (oi := ⟨some 39, _, _, _, _, _⟩) (v := ?v5) rfl (by kernel_rfl) (by kernel_rfl) (by kernel_rfl) (fun _ _ _ h => h) (Or.inl ⟨by rfl, ?y5⟩) (by assumption) ?r5
        case y5 => (intro wx hSx; (try dsimp only at hSx); go_simp; (try with_reducible rfl))
        try simp only [Act.put, List.setIfInBounds_toArray, List.set_cons_zero, List.set_cons_succ]
        refine wpAnyH_take (i := 14) (oi := ⟨some 40, _, _, _, _, _⟩) (v := ?v6) rfl (by kernel_rfl) (by kernel_rfl) (by kernel_rfl) (fun _ _ _ h => h) (Or.inl ⟨by rfl, ?y6⟩) (by assumption) ?r6
        case y6 => (intro wx hSx; (try dsimp only at hSx); go_simp; (try with_reducible rfl))
        try simp only [Act.put, List.setIfInBounds_toArray, List.set_cons_zero, List.set_cons_succ]
        refine wpAnyH_take (i := 15) (oi := ⟨some 41, _, _, _, _, _⟩) (v := ?v7) rfl (by kernel_rfl) (by kernel_rfl) (by kernel_rfl) (fun _ _ _ h => h) (Or.inl ⟨by rfl, ?y7⟩) (by assumption) ?r7
        case y7 => (intro wx hSx; (try dsimp only at hSx); go_simp; (try with_reducible rfl))
        try simp only [Act.put, List.setIfInBounds_toArray, List.set_cons_zero, List.set_cons_succ]
        refine wpAnyH_take (i := 16) (oi := ⟨some 42, _, _, _, _, _⟩) (v := ?v8) rfl (by kernel_rfl) (by kernel_rfl) (by kernel_rfl) (fun _ _ _ h => h) (Or.inl ⟨by rfl, ?y8⟩) (by assumption) ?r8
        case y8 => (intro wx hSx; (try dsimp only at hSx); go_simp; (try with_reducible rfl))
        try simp only [Act.put, List.setIfInBounds_toArray, List.set_cons_zero, List.set_cons_succ]
        refine wpAnyH_take (i := 17) (oi := ⟨some 43, _, _, _, _, _⟩) (v := ?v9) rfl (by kernel_rfl) (by kernel_rfl) (by kernel_rfl) (fun _ _ _ h => h) (Or.inl ⟨by rfl, ?y9⟩) (by assumption) ?r9
        case y9 => (intro wx hSx; (try dsimp only at hSx); go_simp; (try with_reducible rfl))
        try simp only [Act.put, List.setIfInBounds_toArray, List.set_cons_zero, List.set_cons_succ]
        refine wpAnyH_take (i := 18) (oi := ⟨some 44, _, _, _, _, _⟩) (v := ?v10) rfl (by kernel_rfl) (by kernel_rfl) (by kernel_rfl) (fun _ _ _ h => h) (Or.inl ⟨by rfl, ?y10⟩) (by assumption) ?r10
        case y10 => (intro wx hSx; (try dsimp only at hSx); go_simp; (try with_reducible rfl))
        try simp only [Act.put, List.setIfInBounds_toArray, List.set_cons_zero, List.set_cons_succ]
        refine wpAnyH_take (i := 19) (oi := ⟨some 45, _, _, _, _, _⟩) (v := ?v11) rfl (by kernel_rfl) (by kernel_rfl) (by kernel_rfl) (fun _ _ _ h => h) (Or.inl ⟨by rfl, ?y11⟩) (by assumption) ?r11
        case y11 => (intro wx hSx; (try dsimp only at hSx); go_simp; (try with_reducible rfl))
        try simp only [Act.put, List.setIfInBounds_toArray, List.set_cons_zero, List.set_cons_succ]
        refine wpAnyH_take (i := 20) (oi := ⟨some 46, _, _, _, _, _⟩) (v := ?v12) rfl (by kernel_rfl) (by kernel_rfl) (by kernel_rfl) (fun _ _ _ h => h) (Or.inl ⟨by rfl, ?y12⟩) (by assumption) ?r12
        case y12 => (intro wx hSx; (try dsimp only at hSx); go_simp; (try with_reducible rfl))
        try simp only [Act.put, List.setIfInBounds_toArray, List.set_cons_zero, List.set_cons_succ]
        refine wpAnyH_take (i := 22) (oi := ⟨some 48, _, _, _, _, _⟩) (v := ?v13) rfl (by kernel_rfl) (by kernel_rfl) (by kernel_rfl) (fun _ _ _ h => h) (Or.inl ⟨by rfl, ?y13⟩) (by assumption) ?r13
        case y13 => (intro wx hSx; (try dsimp only at hSx); go_simp; (try with_reducible rfl))
        try simp only [Act.put, List.setIfInBounds_toArray, List.set_cons_zero, List.set_cons_succ]
        refine wpAnyH_take (i := 23) (oi := ⟨some 49, _, _, _, _, _⟩) (v := ?v14) rfl (by kernel_rfl) (by kernel_rfl) (by kernel_rfl) (fun _ _ _ h => h) (Or.inl ⟨by rfl, ?y14⟩) (by assumption) ?r14
        case y14 => (intro wx hSx; (try dsimp only at hSx); go_simp; (try with_reducible rfl))
        try simp only [Act.put, List.setIfInBounds_toArray, List.set_cons_zero, List.set_cons_succ]
        refine wpAnyH_take (i := 24) (oi := ⟨some 50, _, _, _, _, _⟩) (v := ?v15) rfl (by kernel_rfl) (by kernel_rfl) (by kernel_rfl) (fun _ _ _ h => h) (Or.inl ⟨by rfl, ?y15⟩) (by assumption) ?r15
        case y15 => (intro wx hSx; (try dsimp only at hSx); go_simp; (try with_reducible rfl))
        try simp only [Act.put, List.setIfInBounds_toArray, List.set_cons_zero, List.set_cons_succ]
        refine wpAnyH_ready (rs := [21]) (by kernel_rfl) (by simp) ?_
        refine AllReadyH.cons (o := ⟨some 47, _, _, _, _, _⟩) rfl (fun K hK => ?_) AllReadyH.nil
        go_simp
        go_wp2_with ((first
          | (go_at_call 9; (with_reducible refine (Begin_calls b _ _ HS.out ii nb0).mono ?_); rintro e w' ⟨rfl, h', f'⟩; have q1' : w'.cell? ⟨sb, 1, none⟩ = some (.int .u8 ii) := (H3.out.frm f' hnb).cell 1; have q0' : w'.cell? ⟨sb, 0, none⟩ = some (.bool false) := (H3.out.frm f' hnb).cell 0; have n0_ := hid (HR.out.frm f' (Ne.symm hne)); have n1_ := hid (H3.out.frm f' hnb); have nf_ := hid (below_frm1 HF.out f' hb); clear HF f' HS HR H3; have HF := nf_; clear nf_; have HS := hid h'; clear h'; have HR := n0_; clear n0_; have H3 := n1_; clear n1_)
          | (go_at_call 10; (with_reducible refine (RBegin_calls r _ _ HR.out ii nb0).mono ?_); rintro e w' ⟨rfl, h', f'⟩; have q1' : w'.cell? ⟨sb, 1, none⟩ = some (.int .u8 ii) := (H3.out.frm f' hnr).cell 1; have q0' : w'.cell? ⟨sb, 0, none⟩ = some (.bool false) := (H3.out.frm f' hnr).cell 0; have n0_ := hid (HS.out.frm f' hne); have n1_ := hid (H3.out.frm f' hnr); have nf_ := hid (below_frm1 HF.out f' hrb); clear HF f' HR HS H3; have HF := nf_; clear nf_; have HR := hid h'; clear h'; have HS := n0_; clear n0_; have H3 := n1_; clear n1_)))
        refine hK.out _ _ ?_ (fun hHeld2 => ?_)
        · ((try dsimp only); go_keep)
        clear hK K hHeld; have hHeld := hHeld2; clear hHeld2
        try simp only [Act.put, List.setIfInBounds_toArray, List.set_cons_zero, List.set_cons_succ]
        refine wpAnyH_ready (rs := [25]) (by kernel_rfl) (by simp) ?_
        refine AllReadyH.cons (o := ⟨some 51, _, _, _, _, _⟩) rfl (fun K hK => ?_) AllReadyH.nil
        go_simp
        go_wp2_with ((first
          | (go_at_call 9; (with_reducible refine (Begin_calls b _ _ HS.out ii nb0).mono ?_); rintro e w' ⟨rfl, h', f'⟩; have q1' : w'.cell? ⟨sb, 1, none⟩ = some (.int .u8 ii) := (H3.out.frm f' hnb).cell 1; have q0' : w'.cell? ⟨sb, 0, none⟩ = some (.bool false) := (H3.out.frm f' hnb).cell 0; have n0_ := hid (HR.out.frm f' (Ne.symm hne)); have n1_ := hid (H3.out.frm f' hnb); have nf_ := hid (below_frm1 HF.out f' hb); clear HF f' HS HR H3; have HF := nf_; clear nf_; have HS := hid h'; clear h'; have HR := n0_; clear n0_; have H3 := n1_; clear n1_)
          | (go_at_call 10; (with_reducible refine (RBegin_calls r _ _ HR.out ii nb0).mono ?_); rintro e w' ⟨rfl, h', f'⟩; have q1' : w'.cell? ⟨sb, 1, none⟩ = some (.int .u8 ii) := (H3.out.frm f' hnr).cell 1; have q0' : w'.cell? ⟨sb, 0, none⟩ = some (.bool false) := (H3.out.frm f' hnr).cell 0; have n0_ := hid (HS.out.frm f' hne); have n1_ := hid (H3.out.frm f' hnr); have nf_ := hid (below_frm1 HF.out f' hrb); clear HF f' HR HS H3; have HF := nf_; clear nf_; have HR := hid h'; clear h'; have HS := n0_; clear n0_; have H3 := n1_; clear n1_)))
        refine hK.out _ _ ?_ (fun hHeld2 => ?_)
        · ((try dsimp only); go_keep)
        clear hK K hHeld; have hHeld := hHeld2; clear hHeld2
        try simp only [Act.put, List.setIfInBounds_toArray, List.set_cons_zero, List.set_cons_succ]
        refine wpAnyH_take (i := 26) (oi := ⟨some 52, _, _, _, _, _⟩) (v := ?v16) rfl (by kernel_rfl) (by kernel_rfl) (by kernel_rfl) (fun _ _ _ h => h) (Or.inl ⟨by rfl, ?y16⟩) (by assumption) ?r16
        case y16 => (intro wx hSx; (try dsimp only at hSx); go_simp; (try with_reducible rfl))
        try simp only [Act.put, List.setIfInBounds_toArray, List.set_cons_zero, List.set_cons_succ]
        refine wpAnyH_take (i := 27) (oi := ⟨some 53, _, _, _, _, _⟩) (v := ?v17) rfl (by kernel_rfl) (by kernel_rfl) (by kernel_rfl) (fun _ _ _ h => h) (Or.inl ⟨by rfl, ?y17⟩) (by assumption) ?r17
        case y17 => (intro wx hSx; (try dsimp only at hSx); go_simp; (try with_reducible rfl))
        try simp only [Act.put, List.setIfInBounds_toArray, List.set_cons_zero, List.set_cons_succ]
        refine wpAnyH_take (i := 28) (oi := ⟨some 54, _, _, _, _, _⟩) (v := ?v18) rfl (by kernel_rfl) (by kernel_rfl) (by kernel_rfl) (fun _ _ _ h => h) (Or.inl ⟨by rfl, ?y18⟩) (by assumption) ?r18
        case y18 => (intro wx hSx; (try dsimp only at hSx); go_simp; (try with_reducible rfl))
        try simp only [Act.put, List.setIfInBounds_toArray, List.set_cons_zero, List.set_cons_succ]
        refine wpAnyH_done (by kernel_rfl) ?_ _
        generalize s.begun ii = s1 at *
        clear q0 q1 q0' q1' hHeld
        by_cases h4 : ii < 4
        · have d4 : decide (ii < 4) = true := decide_eq_true h4
          have m4 : ii.tmod 4 = ii := Int.tmod_eq_of_lt nb0 h4
          have xr : w'.cell? ⟨r, ii.toNat, none⟩ = some (.bool (s1.at_ ii)) := (HR.out.cell ii.toNat).trans (at_cell s1 ii nb0 h4)
          go_wp2_with (fail)
          refine wp_region_held_drew (S := fun wx => wx.cell? ⟨sb, 1, none⟩ = some (.int .u8 ii) ∧ wx.cell? ⟨r, ii.toNat, none⟩ = some (.bool (s1.at_ ii))) (by kernel_rfl) (by (try dsimp only); exact ⟨H3.out.cell 1, xr⟩) (fun hHeld => ?_)
          refine wpAnyH_take (i := 0) (oi := ⟨some 55, _, _, _, _, _⟩) (v := ?v19) rfl (by kernel_rfl) (by kernel_rfl) (by kernel_rfl) (fun _ _ _ h => h) (Or.inl ⟨by rfl, ?y19⟩) (by assumption) ?r19
          case y19 => (intro wx hSx; (try dsimp only at hSx); go_simp; (try with_reducible rfl))
          try simp only [Act.put, List.setIfInBounds_toArray, List.set_cons_zero, List.set_cons_succ]
          refine wpAnyH_take (i := 1) (oi := ⟨some 56, _, _, _, _, _⟩) (v := ?v20) rfl (by kernel_rfl) (by kernel_rfl) (by kernel_rfl) (fun _ _ _ h => h) (Or.inl ⟨by rfl, ?y20⟩) (by assumption) ?r20
          case y20 => (intro wx hSx; (try dsimp only at hSx); go_simp; (try with_reducible rfl))
          try simp only [Act.put, List.setIfInBounds_toArray, List.set_cons_zero, List.set_cons_succ]
          refine wpAnyH_take (i := 2) (oi := ⟨some 57, _, _, _, _, _⟩) (v := ?v21) rfl (by kernel_rfl) (by kernel_rfl) (by kernel_rfl) (fun _ _ _ h => h) (Or.inl ⟨by rfl, ?y21⟩) (by assumption) ?r21
          case y21 => (intro wx hSx; (try dsimp only at hSx); go_simp; (try with_reducible rfl))
          try simp only [Act.put, List.setIfInBounds_toArray, List.set_cons_zero, List.set_cons_succ]
          refine wpAnyH_take (i := 3) (oi := ⟨some 58, _, _, _, _, _⟩) (v := ?v22) rfl (by kernel_rfl) (by kernel_rfl) (by kernel_rfl) (fun _ _ _ h => h) (Or.inl ⟨by rfl, ?y22⟩) (by assumption) ?r22
          case y22 => (intro wx hSx; (try dsimp only at hSx); go_simp; (try with_reducible rfl))
          try simp only [Act.put, List.setIfInBounds_toArray, List.set_cons_zero, List.set_cons_succ]
          refine wpAnyH_take (i := 4) (oi := ⟨some 59, _, _, _, _, _⟩) (v := ?v23) rfl (by kernel_rfl) (by kernel_rfl) (by kernel_rfl) (fun _ _ _ h => h) (Or.inl ⟨by rfl, ?y23⟩) (by assumption) ?r23
          case y23 => (intro wx hSx; (try dsimp only at hSx); go_simp; (try with_reducible rfl))
          try simp only [Act.put, List.setIfInBounds_toArray, List.set_cons_zero, List.set_cons_succ]
          refine wpAnyH_take (i := 5) (oi := ⟨some 60, _, _, _, _, _⟩) (v := ?v24) rfl (by kernel_rfl) (by kernel_rfl) (by kernel_rfl) (fun _ _ _ h => h) (Or.inl ⟨by rfl, ?y24⟩) (by assumption) ?r24
          case y24 => (intro wx hSx; (try dsimp only at hSx); go_simp; (try with_reducible rfl))
          try simp only [Act.put, List.setIfInBounds_toArray, List.set_cons_zero, List.set_cons_succ]
          refine wpAnyH_take (i := 6) (oi := ⟨some 61, _, _, _, _, _⟩) (v := ?v25) rfl (by kernel_rfl) (by kernel_rfl) (by kernel_rfl) (fun _ _ _ h => h) (Or.inl ⟨by rfl, ?y25⟩) (by assumption) ?r25
          case y25 => (intro wx hSx; (try dsimp only at hSx); go_simp; (try with_reducible rfl))
          try simp only [Act.put, List.setIfInBounds_toArray, List.set_cons_zero, List.set_cons_succ]
          refine wpAnyH_take (i := 7) (oi := ⟨some 62, _, _, _, _, _⟩) (v := ?v26) rfl (by kernel_rfl) (by kernel_rfl) (by kernel_rfl) (fun _ _ _ h => h) (Or.inl ⟨by rfl, ?y26⟩) (by assumption) ?r26
          case y26 => (intro wx hSx; (try dsimp only at hSx); go_simp; (try with_reducible rfl))
          try simp only [Act.put, List.setIfInBounds_toArray, List.set_cons_zero, List.set_cons_succ]
          refine wpAnyH_take (i := 8) (oi := ⟨some 63, _, _, _, _, _⟩) (v := ?v27) rfl (by kernel_rfl) (by kernel_rfl) (by kernel_rfl) (fun _ _ _ h => h) (Or.inl ⟨by rfl, ?y27⟩) (by assumption) ?r27
          case y27 => (intro wx hSx; (try dsimp only at hSx); go_simp; (try with_reducible rfl))
          try simp only [Act.put, List.setIfInBounds_toArray, List.set_cons_zero, List.set_cons_succ]
          refine wpAnyH_take (i := 9) (oi := ⟨some 64, _, _, _, _, _⟩) (v := ?v28) rfl (by kernel_rfl) (by kernel_rfl) (by kernel_rfl) (fun _ _ _ h => h) (Or.inl ⟨by rfl, ?y28⟩) (by assumption) ?r28
          case y28 => (intro wx hSx; (try dsimp only at hSx); go_simp; (try with_reducible rfl))
          try simp only [Act.put, List.setIfInBounds_toArray, List.set_cons_zero, List.set_cons_succ]
          refine wpAnyH_take (i := 10) (oi := ⟨some 65, _, _, _, _, _⟩) (v := ?v29) rfl (by kernel_rfl) (by kernel_rfl) (by kernel_rfl) (fun _ _ _ h => h) (Or.inl ⟨by rfl, ?y29⟩) (by assumption) ?r29
          case y29 => (intro wx hSx; (try dsimp only at hSx); go_simp; (try with_reducible rfl))
          try simp only [Act.put, List.setIfInBounds_toArray, List.set_cons_zero, List.set_cons_succ]
          refine wpAnyH_take (i := 11) (oi := ⟨some 66, _, _, _, _, _⟩) (v := ?v30) rfl (by kernel_rfl) (by kernel_rfl) (by kernel_rfl) (fun _ _ _ h => h) (Or.inl ⟨by rfl, ?y30⟩) (by assumption) ?r30
          case y30 => (intro wx hSx; (try dsimp only at hSx); go_simp; (try with_reducible rfl))
          try simp only [Act.put, List.setIfInBounds_toArray, List.set_cons_zero, List.set_cons_succ]
          refine wpAnyH_take (i := 12) (oi := ⟨some 67, _, _, _, _, _⟩) (v := ?v31) rfl (by kernel_rfl) (by kernel_rfl) (by kernel_rfl) (fun _ _ _ h => h) (Or.inl ⟨by rfl, ?y31⟩) (by assumption) ?r31
          case y31 => (intro wx hSx; (try dsimp only at hSx); go_simp; (try with_reducible rfl))
          try simp only [Act.put, List.setIfInBounds_toArray, List.set_cons_zero, List.set_cons_succ]
          refine wpAnyH_take (i := 13) (oi := ⟨some 7, _, _, _, _, _⟩) (v := ?v32) rfl (by kernel_rfl) (by kernel_rfl) (by kernel_rfl) (fun _ _ _ h => h) (Or.inl ⟨by rfl, ?y32⟩) (by assumption) ?r32
          case y32 => (intro wx hSx; (try dsimp only at hSx); go_simp; (try with_reducible rfl))
          try simp only [Act.put, List.setIfInBounds_toArray, List.set_cons_zero, List.set_cons_succ]
          refine wpAnyH_done (by kernel_rfl) ?_ _
          clear hHeld xr d4 m4
          have G1 := hid HS.out.drew.drew; have G2 := hid HR.out.drew.drew; have G3 := hid HF.out.drew.drew; have G4 := hid H3.out.drew.drew
          clear HS HR HF H3
          have HS := G1; have HR := G2; have HF := G3; have H3 := G4; clear G1 G2 G3 G4
          go_wp2_with (fail)
          generalize w'.drew = we at *
          have x0 : we.drew.cell? ⟨r, 0, none⟩ = some (.bool s1.i0) := (HR.out).cell 0; have x1 : we.drew.cell? ⟨r, 1, none⟩ = some (.bool s1.i1) := (HR.out).cell 1; have x2 : we.drew.cell? ⟨r, 2, none⟩ = some (.bool s1.i2) := (HR.out).cell 2; have x3 : we.drew.cell? ⟨r, 3, none⟩ = some (.bool s1.i3) := (HR.out).cell 3; have x4 : we.drew.cell? ⟨r, 4, none⟩ = some (.bool s1.e0) := (HR.out).cell 4; have x5 : we.drew.cell? ⟨r, 5, none⟩ = some (.bool s1.e1) := (HR.out).cell 5; have x6 : we.drew.cell? ⟨r, 6, none⟩ = some (.bool s1.e2) := (HR.out).cell 6; have x7 : we.drew.cell? ⟨r, 7, none⟩ = some (.bool s1.e3) := (HR.out).cell 7; have x8 : we.drew.cell? ⟨r, 8, none⟩ = some (.int .i64 s1.worst) := (HR.out).cell 8; have q1' : we.drew.cell? ⟨sb, 1, none⟩ = some (.int .u8 ii) := H3.out.cell 1
          go_region_held3 (fun wx => wx.cell? ⟨r, 0, none⟩ = some (.bool s1.i0) ∧ wx.cell? ⟨r, 1, none⟩ = some (.bool s1.i1) ∧ wx.cell? ⟨r, 2, none⟩ = some (.bool s1.i2) ∧ wx.cell? ⟨r, 3, none⟩ = some (.bool s1.i3) ∧ wx.cell? ⟨r, 4, none⟩ = some (.bool s1.e0) ∧ wx.cell? ⟨r, 5, none⟩ = some (.bool s1.e1) ∧ wx.cell? ⟨r, 6, none⟩ = some (.bool s1.e2) ∧ wx.cell? ⟨r, 7, none⟩ = some (.bool s1.e3) ∧ wx.cell? ⟨r, 8, none⟩ = some (.int .i64 s1.worst) ∧ wx.cell? ⟨sb, 1, none⟩ = some (.int .u8 ii)) (go_keep) (first
            | (go_at_call 11; (with_reducible refine (In_calls b _ _ HS.out ii nb0).mono ?_); rintro e w' ⟨rfl, rfl⟩)
            | (go_at_call 12; (with_reducible refine (Len_calls b _ _ HS.out).mono ?_); rintro e w' ⟨rfl, rfl⟩)
            | (go_at_call 13; (with_reducible refine (RLen_calls r _ _ HR.out).mono ?_); rintro e w' ⟨rfl, rfl⟩)
            | (go_at_call 14; (with_reducible refine (Worst_calls b _ _ HS.out).mono ?_); rintro e w' ⟨rfl, rfl⟩)
            | (go_at_call 15; (with_reducible refine (Mask_calls b _ _ HS.out).mono ?_); rintro e w' ⟨rfl, f'⟩; have x0' : w'.cell? ⟨r, 0, none⟩ = some (.bool s1.i0) := (HR.out.frm f' (fun h => h)).cell 0; have x1' : w'.cell? ⟨r, 1, none⟩ = some (.bool s1.i1) := (HR.out.frm f' (fun h => h)).cell 1; have x2' : w'.cell? ⟨r, 2, none⟩ = some (.bool s1.i2) := (HR.out.frm f' (fun h => h)).cell 2; have x3' : w'.cell? ⟨r, 3, none⟩ = some (.bool s1.i3) := (HR.out.frm f' (fun h => h)).cell 3; have x4' : w'.cell? ⟨r, 4, none⟩ = some (.bool s1.e0) := (HR.out.frm f' (fun h => h)).cell 4; have x5' : w'.cell? ⟨r, 5, none⟩ = some (.bool s1.e1) := (HR.out.frm f' (fun h => h)).cell 5; have x6' : w'.cell? ⟨r, 6, none⟩ = some (.bool s1.e2) := (HR.out.frm f' (fun h => h)).cell 6; have x7' : w'.cell? ⟨r, 7, none⟩ = some (.bool s1.e3) := (HR.out.frm f' (fun h => h)).cell 7; have x8' : w'.cell? ⟨r, 8, none⟩ = some (.int .i64 s1.worst) := (HR.out.frm f' (fun h => h)).cell 8; have q1' : w'.cell? ⟨sb, 1, none⟩ = some (.int .u8 ii) := (H3.out.frm f' (fun h => h)).cell 1; have nf_ := hid (below_frm0 HF.out f'); have n0_ := hid (HS.out.frm f' (fun h => h)); have n1_ := hid (HR.out.frm f' (fun h => h)); have n2_ := hid (H3.out.frm f' (fun h => h)); clear HF HS HR H3 f'; have HF := nf_; have HS := n0_; have HR := n1_; have H3 := n2_; clear nf_ n0_ n1_ n2_)
            | (go_at_call 17; (with_reducible refine (Ever_calls b _ _ HS.out).mono ?_); rintro e w' ⟨rfl, f'⟩; have x0' : w'.cell? ⟨r, 0, none⟩ = some (.bool s1.i0) := (HR.out.frm f' (fun h => h)).cell 0; have x1' : w'.cell? ⟨r, 1, none⟩ = some (.bool s1.i1) := (HR.out.frm f' (fun h => h)).cell 1; have x2' : w'.cell? ⟨r, 2, none⟩ = some (.bool s1.i2) := (HR.out.frm f' (fun h => h)).cell 2; have x3' : w'.cell? ⟨r, 3, none⟩ = some (.bool s1.i3) := (HR.out.frm f' (fun h => h)).cell 3; have x4' : w'.cell? ⟨r, 4, none⟩ = some (.bool s1.e0) := (HR.out.frm f' (fun h => h)).cell 4; have x5' : w'.cell? ⟨r, 5, none⟩ = some (.bool s1.e1) := (HR.out.frm f' (fun h => h)).cell 5; have x6' : w'.cell? ⟨r, 6, none⟩ = some (.bool s1.e2) := (HR.out.frm f' (fun h => h)).cell 6; have x7' : w'.cell? ⟨r, 7, none⟩ = some (.bool s1.e3) := (HR.out.frm f' (fun h => h)).cell 7; have x8' : w'.cell? ⟨r, 8, none⟩ = some (.int .i64 s1.worst) := (HR.out.frm f' (fun h => h)).cell 8; have q1' : w'.cell? ⟨sb, 1, none⟩ = some (.int .u8 ii) := (H3.out.frm f' (fun h => h)).cell 1; have nf_ := hid (below_frm0 HF.out f'); have n0_ := hid (HS.out.frm f' (fun h => h)); have n1_ := hid (HR.out.frm f' (fun h => h)); have n2_ := hid (H3.out.frm f' (fun h => h)); clear HF HS HR H3 f'; have HF := nf_; have HS := n0_; have HR := n1_; have H3 := n2_; clear nf_ n0_ n1_ n2_)
            | (go_at_call 16; (with_reducible refine (mask_calls _ _ _ _ _).mono ?_); rintro e w' ⟨rfl, f'⟩; have x0' : w'.cell? ⟨r, 0, none⟩ = some (.bool s1.i0) := (HR.out.frm f' (fun h => h)).cell 0; have x1' : w'.cell? ⟨r, 1, none⟩ = some (.bool s1.i1) := (HR.out.frm f' (fun h => h)).cell 1; have x2' : w'.cell? ⟨r, 2, none⟩ = some (.bool s1.i2) := (HR.out.frm f' (fun h => h)).cell 2; have x3' : w'.cell? ⟨r, 3, none⟩ = some (.bool s1.i3) := (HR.out.frm f' (fun h => h)).cell 3; have x4' : w'.cell? ⟨r, 4, none⟩ = some (.bool s1.e0) := (HR.out.frm f' (fun h => h)).cell 4; have x5' : w'.cell? ⟨r, 5, none⟩ = some (.bool s1.e1) := (HR.out.frm f' (fun h => h)).cell 5; have x6' : w'.cell? ⟨r, 6, none⟩ = some (.bool s1.e2) := (HR.out.frm f' (fun h => h)).cell 6; have x7' : w'.cell? ⟨r, 7, none⟩ = some (.bool s1.e3) := (HR.out.frm f' (fun h => h)).cell 7; have x8' : w'.cell? ⟨r, 8, none⟩ = some (.int .i64 s1.worst) := (HR.out.frm f' (fun h => h)).cell 8; have q1' : w'.cell? ⟨sb, 1, none⟩ = some (.int .u8 ii) := (H3.out.frm f' (fun h => h)).cell 1; have nf_ := hid (below_frm0 HF.out f'); have n0_ := hid (HS.out.frm f' (fun h => h)); have n1_ := hid (HR.out.frm f' (fun h => h)); have n2_ := hid (H3.out.frm f' (fun h => h)); clear HF HS HR H3 f'; have HF := nf_; have HS := n0_; have HR := n1_; have H3 := n2_; clear nf_ n0_ n1_ n2_))
          clear q1' x0 x1 x2 x3 x4 x5 x6 x7 x8
          go_wp2_with (fail)
          go_roundw
          case rel => exact ⟨k + 1, s1, by omega, by go_num, HS.out, HR.out, HF.out⟩
          case measure => simp [intOf]; omega
        · have d4 : decide (ii < 4) = false := decide_eq_false h4
          have hat := at_big s1 ii h4
          go_wp2_with (fail)
          refine wp_region_held_drew (S := fun wx => wx.cell? ⟨sb, 1, none⟩ = some (.int .u8 ii)) (by kernel_rfl) (by (try dsimp only); exact H3.out.cell 1) (fun hHeld => ?_)
          refine wpAnyH_take (i := 0) (oi := ⟨some 55, _, _, _, _, _⟩) (v := ?v33) rfl (by kernel_rfl) (by kernel_rfl) (by kernel_rfl) (fun _ _ _ h => h) (Or.inl ⟨by rfl, ?y33⟩) (by assumption) ?r33
          case y33 => (intro wx hSx; (try dsimp only at hSx); go_simp; (try with_reducible rfl))
          try simp only [Act.put, List.setIfInBounds_toArray, List.set_cons_zero, List.set_cons_succ]
          refine wpAnyH_take (i := 1) (oi := ⟨some 56, _, _, _, _, _⟩) (v := ?v34) rfl (by kernel_rfl) (by kernel_rfl) (by kernel_rfl) (fun _ _ _ h => h) (Or.inl ⟨by rfl, ?y34⟩) (by assumption) ?r34
          case y34 => (intro wx hSx; (try dsimp only at hSx); go_simp; (try with_reducible rfl))
          try simp only [Act.put, List.setIfInBounds_toArray, List.set_cons_zero, List.set_cons_succ]
          refine wpAnyH_take (i := 2) (oi := ⟨some 57, _, _, _, _, _⟩) (v := ?v35) rfl (by kernel_rfl) (by kernel_rfl) (by kernel_rfl) (fun _ _ _ h => h) (Or.inl ⟨by rfl, ?y35⟩) (by assumption) ?r35
          case y35 => (intro wx hSx; (try dsimp only at hSx); go_simp; (try with_reducible rfl))
          try simp only [Act.put, List.setIfInBounds_toArray, List.set_cons_zero, List.set_cons_succ]
          refine wpAnyH_take (i := 3) (oi := ⟨some 58, _, _, _, _, _⟩) (v := ?v36) rfl (by kernel_rfl) (by kernel_rfl) (by kernel_rfl) (fun _ _ _ h => h) (Or.inl ⟨by rfl, ?y36⟩) (by assumption) ?r36
          case y36 => (intro wx hSx; (try dsimp only at hSx); go_simp; (try with_reducible rfl))
          try simp only [Act.put, List.setIfInBounds_toArray, List.set_cons_zero, List.set_cons_succ]
          refine wpAnyH_take (i := 4) (oi := ⟨some 59, _, _, _, _, _⟩) (v := undef) rfl (by kernel_rfl) (by kernel_rfl) (by kernel_rfl) (fun _ _ _ h => h) (Or.inr ⟨by rfl, rfl⟩) (by assumption) ?_
          try simp only [Act.put, List.setIfInBounds_toArray, List.set_cons_zero, List.set_cons_succ]
          refine wpAnyH_take (i := 5) (oi := ⟨some 60, _, _, _, _, _⟩) (v := undef) rfl (by kernel_rfl) (by kernel_rfl) (by kernel_rfl) (fun _ _ _ h => h) (Or.inr ⟨by rfl, rfl⟩) (by assumption) ?_
          try simp only [Act.put, List.setIfInBounds_toArray, List.set_cons_zero, List.set_cons_succ]
          refine wpAnyH_take (i := 6) (oi := ⟨some 61, _, _, _, _, _⟩) (v := undef) rfl (by kernel_rfl) (by kernel_rfl) (by kernel_rfl) (fun _ _ _ h => h) (Or.inr ⟨by rfl, rfl⟩) (by assumption) ?_
          try simp only [Act.put, List.setIfInBounds_toArray, List.set_cons_zero, List.set_cons_succ]
          refine wpAnyH_take (i := 7) (oi := ⟨some 62, _, _, _, _, _⟩) (v := undef) rfl (by kernel_rfl) (by kernel_rfl) (by kernel_rfl) (fun _ _ _ h => h) (Or.inr ⟨by rfl, rfl⟩) (by assumption) ?_
          try simp only [Act.put, List.setIfInBounds_toArray, List.set_cons_zero, List.set_cons_succ]
          refine wpAnyH_take (i := 8) (oi := ⟨some 63, _, _, _, _, _⟩) (v := undef) rfl (by kernel_rfl) (by kernel_rfl) (by kernel_rfl) (fun _ _ _ h => h) (Or.inr ⟨by rfl, rfl⟩) (by assumption) ?_
          try simp only [Act.put, List.setIfInBounds_toArray, List.set_cons_zero, List.set_cons_succ]
          refine wpAnyH_take (i := 9) (oi := ⟨some 64, _, _, _, _, _⟩) (v := undef) rfl (by kernel_rfl) (by kernel_rfl) (by kernel_rfl) (fun _ _ _ h => h) (Or.inr ⟨by rfl, rfl⟩) (by assumption) ?_
          try simp only [Act.put, List.setIfInBounds_toArray, List.set_cons_zero, List.set_cons_succ]
          refine wpAnyH_take (i := 10) (oi := ⟨some 65, _, _, _, _, _⟩) (v := undef) rfl (by kernel_rfl) (by kernel_rfl) (by kernel_rfl) (fun _ _ _ h => h) (Or.inr ⟨by rfl, rfl⟩) (by assumption) ?_
          try simp only [Act.put, List.setIfInBounds_toArray, List.set_cons_zero, List.set_cons_succ]
          refine wpAnyH_take (i := 11) (oi := ⟨some 66, _, _, _, _, _⟩) (v := undef) rfl (by kernel_rfl) (by kernel_rfl) (by kernel_rfl) (fun _ _ _ h => h) (Or.inr ⟨by rfl, rfl⟩) (by assumption) ?_
          try simp only [Act.put, List.setIfInBounds_toArray, List.set_cons_zero, List.set_cons_succ]
          refine wpAnyH_take (i := 12) (oi := ⟨some 67, _, _, _, _, _⟩) (v := ?v37) rfl (by kernel_rfl) (by kernel_rfl) (by kernel_rfl) (fun _ _ _ h => h) (Or.inl ⟨by rfl, ?y37⟩) (by assumption) ?r37
          case y37 => (intro wx hSx; (try dsimp only at hSx); go_simp; (try with_reducible rfl))
          try simp only [Act.put, List.setIfInBounds_toArray, List.set_cons_zero, List.set_cons_succ]
          refine wpAnyH_take (i := 13) (oi := ⟨some 7, _, _, _, _, _⟩) (v := ?v38) rfl (by kernel_rfl) (by kernel_rfl) (by kernel_rfl) (fun _ _ _ h => h) (Or.inl ⟨by rfl, ?y38⟩) (by assumption) ?r38
          case y38 => (intro wx hSx; (try dsimp only at hSx); go_simp; (try with_reducible rfl))
          try simp only [Act.put, List.setIfInBounds_toArray, List.set_cons_zero, List.set_cons_succ]
          refine wpAnyH_done (by kernel_rfl) ?_ _
          clear hHeld d4
          have G1 := hid HS.out.drew.drew; have G2 := hid HR.out.drew.drew; have G3 := hid HF.out.drew.drew; have G4 := hid H3.out.drew.drew
          clear HS HR HF H3
          have HS := G1; have HR := G2; have HF := G3; have H3 := G4; clear G1 G2 G3 G4
          go_wp2_with (fail)
          generalize w'.drew = we at *
          have x0 : we.drew.cell? ⟨r, 0, none⟩ = some (.bool s1.i0) := (HR.out).cell 0; have x1 : we.drew.cell? ⟨r, 1, none⟩ = some (.bool s1.i1) := (HR.out).cell 1; have x2 : we.drew.cell? ⟨r, 2, none⟩ = some (.bool s1.i2) := (HR.out).cell 2; have x3 : we.drew.cell? ⟨r, 3, none⟩ = some (.bool s1.i3) := (HR.out).cell 3; have x4 : we.drew.cell? ⟨r, 4, none⟩ = some (.bool s1.e0) := (HR.out).cell 4; have x5 : we.drew.cell? ⟨r, 5, none⟩ = some (.bool s1.e1) := (HR.out).cell 5; have x6 : we.drew.cell? ⟨r, 6, none⟩ = some (.bool s1.e2) := (HR.out).cell 6; have x7 : we.drew.cell? ⟨r, 7, none⟩ = some (.bool s1.e3) := (HR.out).cell 7; have x8 : we.drew.cell? ⟨r, 8, none⟩ = some (.int .i64 s1.worst) := (HR.out).cell 8; have q1' : we.drew.cell? ⟨sb, 1, none⟩ = some (.int .u8 ii) := H3.out.cell 1
          go_region_held3 (fun wx => wx.cell? ⟨r, 0, none⟩ = some (.bool s1.i0) ∧ wx.cell? ⟨r, 1, none⟩ = some (.bool s1.i1) ∧ wx.cell? ⟨r, 2, none⟩ = some (.bool s1.i2) ∧ wx.cell? ⟨r, 3, none⟩ = some (.bool s1.i3) ∧ wx.cell? ⟨r, 4, none⟩ = some (.bool s1.e0) ∧ wx.cell? ⟨r, 5, none⟩ = some (.bool s1.e1) ∧ wx.cell? ⟨r, 6, none⟩ = some (.bool s1.e2) ∧ wx.cell? ⟨r, 7, none⟩ = some (.bool s1.e3) ∧ wx.cell? ⟨r, 8, none⟩ = some (.int .i64 s1.worst) ∧ wx.cell? ⟨sb, 1, none⟩ = some (.int .u8 ii)) (go_keep) (first
            | (go_at_call 11; (with_reducible refine (In_calls b _ _ HS.out ii nb0).mono ?_); rintro e w' ⟨rfl, rfl⟩)
            | (go_at_call 12; (with_reducible refine (Len_calls b _ _ HS.out).mono ?_); rintro e w' ⟨rfl, rfl⟩)
            | (go_at_call 13; (with_reducible refine (RLen_calls r _ _ HR.out).mono ?_); rintro e w' ⟨rfl, rfl⟩)
            | (go_at_call 14; (with_reducible refine (Worst_calls b _ _ HS.out).mono ?_); rintro e w' ⟨rfl, rfl⟩)
            | (go_at_call 15; (with_reducible refine (Mask_calls b _ _ HS.out).mono ?_); rintro e w' ⟨rfl, f'⟩; have x0' : w'.cell? ⟨r, 0, none⟩ = some (.bool s1.i0) := (HR.out.frm f' (fun h => h)).cell 0; have x1' : w'.cell? ⟨r, 1, none⟩ = some (.bool s1.i1) := (HR.out.frm f' (fun h => h)).cell 1; have x2' : w'.cell? ⟨r, 2, none⟩ = some (.bool s1.i2) := (HR.out.frm f' (fun h => h)).cell 2; have x3' : w'.cell? ⟨r, 3, none⟩ = some (.bool s1.i3) := (HR.out.frm f' (fun h => h)).cell 3; have x4' : w'.cell? ⟨r, 4, none⟩ = some (.bool s1.e0) := (HR.out.frm f' (fun h => h)).cell 4; have x5' : w'.cell? ⟨r, 5, none⟩ = some (.bool s1.e1) := (HR.out.frm f' (fun h => h)).cell 5; have x6' : w'.cell? ⟨r, 6, none⟩ = some (.bool s1.e2) := (HR.out.frm f' (fun h => h)).cell 6; have x7' : w'.cell? ⟨r, 7, none⟩ = some (.bool s1.e3) := (HR.out.frm f' (fun h => h)).cell 7; have x8' : w'.cell? ⟨r, 8, none⟩ = some (.int .i64 s1.worst) := (HR.out.frm f' (fun h => h)).cell 8; have q1' : w'.cell? ⟨sb, 1, none⟩ = some (.int .u8 ii) := (H3.out.frm f' (fun h => h)).cell 1; have nf_ := hid (below_frm0 HF.out f'); have n0_ := hid (HS.out.frm f' (fun h => h)); have n1_ := hid (HR.out.frm f' (fun h => h)); have n2_ := hid (H3.out.frm f' (fun h => h)); clear HF HS HR H3 f'; have HF := nf_; have HS := n0_; have HR := n1_; have H3 := n2_; clear nf_ n0_ n1_ n2_)
            | (go_at_call 17; (with_reducible refine (Ever_calls b _ _ HS.out).mono ?_); rintro e w' ⟨rfl, f'⟩; have x0' : w'.cell? ⟨r, 0, none⟩ = some (.bool s1.i0) := (HR.out.frm f' (fun h => h)).cell 0; have x1' : w'.cell? ⟨r, 1, none⟩ = some (.bool s1.i1) := (HR.out.frm f' (fun h => h)).cell 1; have x2' : w'.cell? ⟨r, 2, none⟩ = some (.bool s1.i2) := (HR.out.frm f' (fun h => h)).cell 2; have x3' : w'.cell? ⟨r, 3, none⟩ = some (.bool s1.i3) := (HR.out.frm f' (fun h => h)).cell 3; have x4' : w'.cell? ⟨r, 4, none⟩ = some (.bool s1.e0) := (HR.out.frm f' (fun h => h)).cell 4; have x5' : w'.cell? ⟨r, 5, none⟩ = some (.bool s1.e1) := (HR.out.frm f' (fun h => h)).cell 5; have x6' : w'.cell? ⟨r, 6, none⟩ = some (.bool s1.e2) := (HR.out.frm f' (fun h => h)).cell 6; have x7' : w'.cell? ⟨r, 7, none⟩ = some (.bool s1.e3) := (HR.out.frm f' (fun h => h)).cell 7; have x8' : w'.cell? ⟨r, 8, none⟩ = some (.int .i64 s1.worst) := (HR.out.frm f' (fun h => h)).cell 8; have q1' : w'.cell? ⟨sb, 1, none⟩ = some (.int .u8 ii) := (H3.out.frm f' (fun h => h)).cell 1; have nf_ := hid (below_frm0 HF.out f'); have n0_ := hid (HS.out.frm f' (fun h => h)); have n1_ := hid (HR.out.frm f' (fun h => h)); have n2_ := hid (H3.out.frm f' (fun h => h)); clear HF HS HR H3 f'; have HF := nf_; have HS := n0_; have HR := n1_; have H3 := n2_; clear nf_ n0_ n1_ n2_)
            | (go_at_call 16; (with_reducible refine (mask_calls _ _ _ _ _).mono ?_); rintro e w' ⟨rfl, f'⟩; have x0' : w'.cell? ⟨r, 0, none⟩ = some (.bool s1.i0) := (HR.out.frm f' (fun h => h)).cell 0; have x1' : w'.cell? ⟨r, 1, none⟩ = some (.bool s1.i1) := (HR.out.frm f' (fun h => h)).cell 1; have x2' : w'.cell? ⟨r, 2, none⟩ = some (.bool s1.i2) := (HR.out.frm f' (fun h => h)).cell 2; have x3' : w'.cell? ⟨r, 3, none⟩ = some (.bool s1.i3) := (HR.out.frm f' (fun h => h)).cell 3; have x4' : w'.cell? ⟨r, 4, none⟩ = some (.bool s1.e0) := (HR.out.frm f' (fun h => h)).cell 4; have x5' : w'.cell? ⟨r, 5, none⟩ = some (.bool s1.e1) := (HR.out.frm f' (fun h => h)).cell 5; have x6' : w'.cell? ⟨r, 6, none⟩ = some (.bool s1.e2) := (HR.out.frm f' (fun h => h)).cell 6; have x7' : w'.cell? ⟨r, 7, none⟩ = some (.bool s1.e3) := (HR.out.frm f' (fun h => h)).cell 7; have x8' : w'.cell? ⟨r, 8, none⟩ = some (.int .i64 s1.worst) := (HR.out.frm f' (fun h => h)).cell 8; have q1' : w'.cell? ⟨sb, 1, none⟩ = some (.int .u8 ii) := (H3.out.frm f' (fun h => h)).cell 1; have nf_ := hid (below_frm0 HF.out f'); have n0_ := hid (HS.out.frm f' (fun h => h)); have n1_ := hid (HR.out.frm f' (fun h => h)); have n2_ := hid (H3.out.frm f' (fun h => h)); clear HF HS HR H3 f'; have HF := nf_; have HS := n0_; have HR := n1_; have H3 := n2_; clear nf_ n0_ n1_ n2_))
          clear q1' x0 x1 x2 x3 x4 x5 x6 x7 x8
          go_wp2_with (fail)
          go_roundw
          case rel => exact ⟨k + 1, s1, by omega, by go_num, HS.out, HR.out, HF.out⟩
          case measure => simp [intOf]; omega
      · have q0 : wa.cell? ⟨sb, 0, none⟩ = some (.bool true) := H3.out.cell 0
        have q1 : wa.cell? ⟨sb, 1, none⟩ = some (.int .u8 ii) := H3.out.cell 1
        refine wp_region_held_drew (S := fun wx => wx.cell? ⟨sb, 0, none⟩ = some (.bool true) ∧ wx.cell? ⟨sb, 1, none⟩ = some (.int .u8 ii)) (by kernel_rfl) (by (try dsimp only); go_keep) (fun hHeld => ?_)
        refine wpAnyH_take (i := 0) (oi := ⟨some 26, _, _, _, _, _⟩) (v := ?v39) rfl (by kernel_rfl) (by kernel_rfl) (by kernel_rfl) (fun _ _ _ h => h) (Or.inl ⟨by rfl, ?y39⟩) (by assumption) ?r39
        case y39 => (intro wx hSx; (try dsimp only at hSx); go_simp; (try with_reducible rfl))
        try simp only [Act.put, List.setIfInBounds_toArray, List.set_cons_zero, List.set_cons_succ]
        refine wpAnyH_take (i := 1) (oi := ⟨some 27, _, _, _, _, _⟩) (v := ?v40) rfl (by kernel_rfl) (by kernel_rfl) (by kernel_rfl) (fun _ _ _ h => h) (Or.inl ⟨by rfl, ?y40⟩) (by assumption) ?r40
        case y40 => (intro wx hSx; (try dsimp only at hSx); go_simp; (try with_reducible rfl))
        try simp only [Act.put, List.setIfInBounds_toArray, List.set_cons_zero, List.set_cons_succ]
        refine wpAnyH_take (i := 2) (oi := ⟨some 28, _, _, _, _, _⟩) (v := ?v41) rfl (by kernel_rfl) (by kernel_rfl) (by kernel_rfl) (fun _ _ _ h => h) (Or.inl ⟨by rfl, ?y41⟩) (by assumption) ?r41
        case y41 => (intro wx hSx; (try dsimp only at hSx); go_simp; (try with_reducible rfl))
        try simp only [Act.put, List.setIfInBounds_toArray, List.set_cons_zero, List.set_cons_succ]
        refine wpAnyH_take (i := 3) (oi := ⟨some 29, _, _, _, _, _⟩) (v := ?v42) rfl (by kernel_rfl) (by kernel_rfl) (by kernel_rfl) (fun _ _ _ h => h) (Or.inl ⟨by rfl, ?y42⟩) (by assumption) ?r42
        case y42 => (intro wx hSx; (try dsimp only at hSx); go_simp; (try with_reducible rfl))
        try simp only [Act.put, List.setIfInBounds_toArray, List.set_cons_zero, List.set_cons_succ]
        refine wpAnyH_take (i := 4) (oi := ⟨some 30, _, _, _, _, _⟩) (v := ?v43) rfl (by kernel_rfl) (by kernel_rfl) (by kernel_rfl) (fun _ _ _ h => h) (Or.inl ⟨by rfl, ?y43⟩) (by assumption) ?r43
        case y43 => (intro wx hSx; (try dsimp only at hSx); go_simp; (try with_reducible rfl))
        try simp only [Act.put, List.setIfInBounds_toArray, List.set_cons_zero, List.set_cons_succ]
        refine wpAnyH_take (i := 5) (oi := ⟨some 31, _, _, _, _, _⟩) (v := ?v44) rfl (by kernel_rfl) (by kernel_rfl) (by kernel_rfl) (fun _ _ _ h => h) (Or.inl ⟨by rfl, ?y44⟩) (by assumption) ?r44
        case y44 => (intro wx hSx; (try dsimp only at hSx); go_simp; (try with_reducible rfl))
        try simp only [Act.put, List.setIfInBounds_toArray, List.set_cons_zero, List.set_cons_succ]
        refine wpAnyH_take (i := 7) (oi := ⟨some 33, _, _, _, _, _⟩) (v := ?v45) rfl (by kernel_rfl) (by kernel_rfl) (by kernel_rfl) (fun _ _ _ h => h) (Or.inl ⟨by rfl, ?y45⟩) (by assumption) ?r45
        case y45 => (intro wx hSx; (try dsimp only at hSx); go_simp; (try with_reducible rfl))
        try simp only [Act.put, List.setIfInBounds_toArray, List.set_cons_zero, List.set_cons_succ]
        refine wpAnyH_take (i := 8) (oi := ⟨some 34, _, _, _, _, _⟩) (v := ?v46) rfl (by kernel_rfl) (by kernel_rfl) (by kernel_rfl) (fun _ _ _ h => h) (Or.inl ⟨by rfl, ?y46⟩) (by assumption) ?r46
        case y46 => (intro wx hSx; (try dsimp only at hSx); go_simp; (try with_reducible rfl))
        try simp only [Act.put, List.setIfInBounds_toArray, List.set_cons_zero, List.set_cons_succ]
        refine wpAnyH_take (i := 9) (oi := ⟨some 35, _, _, _, _, _⟩) (v := ?v47) rfl (by kernel_rfl) (by kernel_rfl) (by kernel_rfl) (fun _ _ _ h => h) (Or.inl ⟨by rfl, ?y47⟩) (by assumption) ?r47
        case y47 => (intro wx hSx; (try dsimp only at hSx); go_simp; (try with_reducible rfl))
        try simp only [Act.put, List.setIfInBounds_toArray, List.set_cons_zero, List.set_cons_succ]
        refine wpAnyH_ready (rs := [6]) (by kernel_rfl) (by simp) ?_
        refine AllReadyH.cons (o := ⟨some 32, _, _, _, _, _⟩) rfl (fun K hK => ?_) AllReadyH.nil
        go_simp
        go_wp2_with ((first
          | (go_at_call 7; (with_reducible refine (End_calls b _ _ HS.out ii nb0).mono ?_); rintro e w' ⟨rfl, h', f'⟩; have q1' : w'.cell? ⟨sb, 1, none⟩ = some (.int .u8 ii) := (H3.out.frm f' hnb).cell 1; have q0' : w'.cell? ⟨sb, 0, none⟩ = some (.bool true) := (H3.out.frm f' hnb).cell 0; have n0_ := hid (HR.out.frm f' (Ne.symm hne)); have n1_ := hid (H3.out.frm f' hnb); have nf_ := hid (below_frm1 HF.out f' hb); clear HF f' HS HR H3; have HF := nf_; clear nf_; have HS := hid h'; clear h'; have HR := n0_; clear n0_; have H3 := n1_; clear n1_)
          | (go_at_call 8; (with_reducible refine (REnd_calls r _ _ HR.out ii nb0).mono ?_); rintro e w' ⟨rfl, h', f'⟩; have q1' : w'.cell? ⟨sb, 1, none⟩ = some (.int .u8 ii) := (H3.out.frm f' hnr).cell 1; have q0' : w'.cell? ⟨sb, 0, none⟩ = some (.bool true) := (H3.out.frm f' hnr).cell 0; have n0_ := hid (HS.out.frm f' hne); have n1_ := hid (H3.out.frm f' hnr); have nf_ := hid (below_frm1 HF.out f' hrb); clear HF f' HR HS H3; have HF := nf_; clear nf_; have HR := hid h'; clear h'; have HS := n0_; clear n0_; have H3 := n1_; clear n1_)))
        refine hK.out _ _ ?_ (fun hHeld2 => ?_)
        · ((try dsimp only); go_keep)
        clear hK K hHeld; have hHeld := hHeld2; clear hHeld2
        try simp only [Act.put, List.setIfInBounds_toArray, List.set_cons_zero, List.set_cons_succ]
        refine wpAnyH_ready (rs := [10]) (by kernel_rfl) (by simp) ?_
        refine AllReadyH.cons (o := ⟨some 36, _, _, _, _, _⟩) rfl (fun K hK => ?_) AllReadyH.nil
        go_simp
        go_wp2_with ((first
          | (go_at_call 7; (with_reducible refine (End_calls b _ _ HS.out ii nb0).mono ?_); rintro e w' ⟨rfl, h', f'⟩; have q1' : w'.cell? ⟨sb, 1, none⟩ = some (.int .u8 ii) := (H3.out.frm f' hnb).cell 1; have q0' : w'.cell? ⟨sb, 0, none⟩ = some (.bool true) := (H3.out.frm f' hnb).cell 0; have n0_ := hid (HR.out.frm f' (Ne.symm hne)); have n1_ := hid (H3.out.frm f' hnb); have nf_ := hid (below_frm1 HF.out f' hb); clear HF f' HS HR H3; have HF := nf_; clear nf_; have HS := hid h'; clear h'; have HR := n0_; clear n0_; have H3 := n1_; clear n1_)
          | (go_at_call 8; (with_reducible refine (REnd_calls r _ _ HR.out ii nb0).mono ?_); rintro e w' ⟨rfl, h', f'⟩; have q1' : w'.cell? ⟨sb, 1, none⟩ = some (.int .u8 ii) := (H3.out.frm f' hnr).cell 1; have q0' : w'.cell? ⟨sb, 0, none⟩ = some (.bool true) := (H3.out.frm f' hnr).cell 0; have n0_ := hid (HS.out.frm f' hne); have n1_ := hid (H3.out.frm f' hnr); have nf_ := hid (below_frm1 HF.out f' hrb); clear HF f' HR HS H3; have HF := nf_; clear nf_; have HR := hid h'; clear h'; have HS := n0_; clear n0_; have H3 := n1_; clear n1_)))
        refine hK.out _ _ ?_ (fun hHeld2 => ?_)
        · ((try dsimp only); go_keep)
        clear hK K hHeld; have hHeld := hHeld2; clear hHeld2
        try simp only [Act.put, List.setIfInBounds_toArray, List.set_cons_zero, List.set_cons_succ]
        refine wpAnyH_take (i := 11) (oi := ⟨some 37, _, _, _, _, _⟩) (v := ?v48) rfl (by kernel_rfl) (by kernel_rfl) (by kernel_rfl) (fun _ _ _ h => h) (Or.inl ⟨by rfl, ?y48⟩) (by assumption) ?r48
        case y48 => (intro wx hSx; (try dsimp only at hSx); go_simp; (try with_reducible rfl))
        try simp only [Act.put, List.setIfInBounds_toArray, List.set_cons_zero, List.set_cons_succ]
        refine wpAnyH_take (i := 12) (oi := ⟨some 38, _, _, _, _, _⟩) (v := ?v49) rfl (by kernel_rfl) (by kernel_rfl) (by kernel_rfl) (fun _ _ _ h => h) (Or.inl ⟨by rfl, ?y49⟩) (by assumption) ?r49
        case y49 => (intro wx hSx; (try dsimp only at hSx); go_simp; (try with_reducible rfl))
        try simp only [Act.put, List.setIfInBounds_toArray, List.set_cons_zero, List.set_cons_succ]
        refine wpAnyH_take (i := 13) (oi := ⟨some 39, _, _, _, _, _⟩) (v := ?v50) rfl (by kernel_rfl) (by kernel_rfl) (by kernel_rfl) (fun _ _ _ h => h) (Or.inl ⟨by rfl, ?y50⟩) (by assumption) ?r50
        case y50 => (intro wx hSx; (try dsimp only at hSx); go_simp; (try with_reducible rfl))
        try simp only [Act.put, List.setIfInBounds_toArray, List.set_cons_zero, List.set_cons_succ]
        refine wpAnyH_take (i := 14) (oi := ⟨some 40, _, _, _, _, _⟩) (v := ?v51) rfl (by kernel_rfl) (by kernel_rfl) (by kernel_rfl) (fun _ _ _ h => h) (Or.inl ⟨by rfl, ?y51⟩) (by assumption) ?r51
        case y51 => (intro wx hSx; (try dsimp only at hSx); go_simp; (try with_reducible rfl))
        try simp only [Act.put, List.setIfInBounds_toArray, List.set_cons_zero, List.set_cons_succ]
        refine wpAnyH_take (i := 15) (oi := ⟨some 41, _, _, _, _, _⟩) (v := ?v52) rfl (by kernel_rfl) (by kernel_rfl) (by kernel_rfl) (fun _ _ _ h => h) (Or.inl ⟨by rfl, ?y52⟩) (by assumption) ?r52
        case y52 => (intro wx hSx; (try dsimp only at hSx); go_simp; (try with_reducible rfl))
        try simp only [Act.put, List.setIfInBounds_toArray, List.set_cons_zero, List.set_cons_succ]
        refine wpAnyH_take (i := 16) (oi := ⟨some 42, _, _, _, _, _⟩) (v := ?v53) rfl (by kernel_rfl) (by kernel_rfl) (by kernel_rfl) (fun _ _ _ h => h) (Or.inl ⟨by rfl, ?y53⟩) (by assumption) ?r53
        case y53 => (intro wx hSx; (try dsimp only at hSx); go_simp; (try with_reducible rfl))
        try simp only [Act.put, List.setIfInBounds_toArray, List.set_cons_zero, List.set_cons_succ]
        refine wpAnyH_take (i := 17) (oi := ⟨some 43, _, _, _, _, _⟩) (v := ?v54) rfl (by kernel_rfl) (by kernel_rfl) (by kernel_rfl) (fun _ _ _ h => h) (Or.inl ⟨by rfl, ?y54⟩) (by assumption) ?r54
        case y54 => (intro wx hSx; (try dsimp only at hSx); go_simp; (try with_reducible rfl))
        try simp only [Act.put, List.setIfInBounds_toArray, List.set_cons_zero, List.set_cons_succ]
        refine wpAnyH_take (i := 18) (oi := ⟨some 44, _, _, _, _, _⟩) (v := undef) rfl (by kernel_rfl) (by kernel_rfl) (by kernel_rfl) (fun _ _ _ h => h) (Or.inr ⟨by rfl, rfl⟩) (by assumption) ?_
        try simp only [Act.put, List.setIfInBounds_toArray, List.set_cons_zero, List.set_cons_succ]
        refine wpAnyH_take (i := 19) (oi := ⟨some 45, _, _, _, _, _⟩) (v := undef) rfl (by kernel_rfl) (by kernel_rfl) (by kernel_rfl) (fun _ _ _ h => h) (Or.inr ⟨by rfl, rfl⟩) (by assumption) ?_
        try simp only [Act.put, List.setIfInBounds_toArray, List.set_cons_zero, List.set_cons_succ]
        refine wpAnyH_take (i := 20) (oi := ⟨some 46, _, _, _, _, _⟩) (v := undef) rfl (by kernel_rfl) (by kernel_rfl) (by kernel_rfl) (fun _ _ _ h => h) (Or.inr ⟨by rfl, rfl⟩) (by assumption) ?_
        try simp only [Act.put, List.setIfInBounds_toArray, List.set_cons_zero, List.set_cons_succ]
        refine wpAnyH_take (i := 21) (oi := ⟨some 47, _, _, _, _, _⟩) (v := undef) rfl (by kernel_rfl) (by kernel_rfl) (by kernel_rfl) (fun _ _ _ h => h) (Or.inr ⟨by rfl, rfl⟩) (by assumption) ?_
        try simp only [Act.put, List.setIfInBounds_toArray, List.set_cons_zero, List.set_cons_succ]
        refine wpAnyH_take (i := 22) (oi := ⟨some 48, _, _, _, _, _⟩) (v := undef) rfl (by kernel_rfl) (by kernel_rfl) (by kernel_rfl) (fun _ _ _ h => h) (Or.inr ⟨by rfl, rfl⟩) (by assumption) ?_
        try simp only [Act.put, List.setIfInBounds_toArray, List.set_cons_zero, List.set_cons_succ]
        refine wpAnyH_take (i := 23) (oi := ⟨some 49, _, _, _, _, _⟩) (v := undef) rfl (by kernel_rfl) (by kernel_rfl) (by kernel_rfl) (fun _ _ _ h => h) (Or.inr ⟨by rfl, rfl⟩) (by assumption) ?_
        try simp only [Act.put, List.setIfInBounds_toArray, List.set_cons_zero, List.set_cons_succ]
        refine wpAnyH_take (i := 24) (oi := ⟨some 50, _, _, _, _, _⟩) (v := undef) rfl (by kernel_rfl) (by kernel_rfl) (by kernel_rfl) (fun _ _ _ h => h) (Or.inr ⟨by rfl, rfl⟩) (by assumption) ?_
        try simp only [Act.put, List.setIfInBounds_toArray, List.set_cons_zero, List.set_cons_succ]
        refine wpAnyH_take (i := 25) (oi := ⟨some 51, _, _, _, _, _⟩) (v := undef) rfl (by kernel_rfl) (by kernel_rfl) (by kernel_rfl) (fun _ _ _ h => h) (Or.inr ⟨by rfl, rfl⟩) (by assumption) ?_
        try simp only [Act.put, List.setIfInBounds_toArray, List.set_cons_zero, List.set_cons_succ]
        refine wpAnyH_take (i := 26) (oi := ⟨some 52, _, _, _, _, _⟩) (v := undef) rfl (by kernel_rfl) (by kernel_rfl) (by kernel_rfl) (fun _ _ _ h => h) (Or.inr ⟨by rfl, rfl⟩) (by assumption) ?_
        try simp only [Act.put, List.setIfInBounds_toArray, List.set_cons_zero, List.set_cons_succ]
        refine wpAnyH_take (i := 27) (oi := ⟨some 53, _, _, _, _, _⟩) (v := ?v55) rfl (by kernel_rfl) (by kernel_rfl) (by kernel_rfl) (fun _ _ _ h => h) (Or.inl ⟨by rfl, ?y55⟩) (by assumption) ?r55
        case y55 => (intro wx hSx; (try dsimp only at hSx); go_simp; (try with_reducible rfl))
        try simp only [Act.put, List.setIfInBounds_toArray, List.set_cons_zero, List.set_cons_succ]
        refine wpAnyH_take (i := 28) (oi := ⟨some 54, _, _, _, _, _⟩) (v := ?v56) rfl (by kernel_rfl) (by kernel_rfl) (by kernel_rfl) (fun _ _ _ h => h) (Or.inl ⟨by rfl, ?y56⟩) (by assumption) ?r56
        case y56 => (intro wx hSx; (try dsimp only at hSx); go_simp; (try with_reducible rfl))
        try simp only [Act.put, List.setIfInBounds_toArray, List.set_cons_zero, List.set_cons_succ]
        refine wpAnyH_done (by kernel_rfl) ?_ _
        generalize s.ended ii = s1 at *
        clear q0 q1 q0' q1' hHeld
        by_cases h4 : ii < 4
        · have d4 : decide (ii < 4) = true := decide_eq_true h4
          have m4 : ii.tmod 4 = ii := Int.tmod_eq_of_lt nb0 h4
          have xr : w'.cell? ⟨r, ii.toNat, none⟩ = some (.bool (s1.at_ ii)) := (HR.out.cell ii.toNat).trans (at_cell s1 ii nb0 h4)
          go_wp2_with (fail)
          refine wp_region_held_drew (S := fun wx => wx.cell? ⟨sb, 1, none⟩ = some (.int .u8 ii) ∧ wx.cell? ⟨r, ii.toNat, none⟩ = some (.bool (s1.at_ ii))) (by kernel_rfl) (by (try dsimp only); exact ⟨H3.out.cell 1, xr⟩) (fun hHeld => ?_)
          refine wpAnyH_take (i := 0) (oi := ⟨some 55, _, _, _, _, _⟩) (v := ?v57) rfl (by kernel_rfl) (by kernel_rfl) (by kernel_rfl) (fun _ _ _ h => h) (Or.inl ⟨by rfl, ?y57⟩) (by assumption) ?r57
          case y57 => (intro wx hSx; (try dsimp only at hSx); go_simp; (try with_reducible rfl))
          try simp only [Act.put, List.setIfInBounds_toArray, List.set_cons_zero, List.set_cons_succ]
          refine wpAnyH_take (i := 1) (oi := ⟨some 56, _, _, _, _, _⟩) (v := ?v58) rfl (by kernel_rfl) (by kernel_rfl) (by kernel_rfl) (fun _ _ _ h => h) (Or.inl ⟨by rfl, ?y58⟩) (by assumption) ?r58
          case y58 => (intro wx hSx; (try dsimp only at hSx); go_simp; (try with_reducible rfl))
          try simp only [Act.put, List.setIfInBounds_toArray, List.set_cons_zero, List.set_cons_succ]
          refine wpAnyH_take (i := 2) (oi := ⟨some 57, _, _, _, _, _⟩) (v := ?v59) rfl (by kernel_rfl) (by kernel_rfl) (by kernel_rfl) (fun _ _ _ h => h) (Or.inl ⟨by rfl, ?y59⟩) (by assumption) ?r59
          case y59 => (intro wx hSx; (try dsimp only at hSx); go_simp; (try with_reducible rfl))
          try simp only [Act.put, List.setIfInBounds_toArray, List.set_cons_zero, List.set_cons_succ]
          refine wpAnyH_take (i := 3) (oi := ⟨some 58, _, _, _, _, _⟩) (v := ?v60) rfl (by kernel_rfl) (by kernel_rfl) (by kernel_rfl) (fun _ _ _ h => h) (Or.inl ⟨by rfl, ?y60⟩) (by assumption) ?r60
          case y60 => (intro wx hSx; (try dsimp only at hSx); go_simp; (try with_reducible rfl))
          try simp only [Act.put, List.setIfInBounds_toArray, List.set_cons_zero, List.set_cons_succ]
          refine wpAnyH_take (i := 4) (oi := ⟨some 59, _, _, _, _, _⟩) (v := ?v61) rfl (by kernel_rfl) (by kernel_rfl) (by kernel_rfl) (fun _ _ _ h => h) (Or.inl ⟨by rfl, ?y61⟩) (by assumption) ?r61
          case y61 => (intro wx hSx; (try dsimp only at hSx); go_simp; (try with_reducible rfl))
          try simp only [Act.put, List.setIfInBounds_toArray, List.set_cons_zero, List.set_cons_succ]
          refine wpAnyH_take (i := 5) (oi := ⟨some 60, _, _, _, _, _⟩) (v := ?v62) rfl (by kernel_rfl) (by kernel_rfl) (by kernel_rfl) (fun _ _ _ h => h) (Or.inl ⟨by rfl, ?y62⟩) (by assumption) ?r62
          case y62 => (intro wx hSx; (try dsimp only at hSx); go_simp; (try with_reducible rfl))
          try simp only [Act.put, List.setIfInBounds_toArray, List.set_cons_zero, List.set_cons_succ]
          refine wpAnyH_take (i := 6) (oi := ⟨some 61, _, _, _, _, _⟩) (v := ?v63) rfl (by kernel_rfl) (by kernel_rfl) (by kernel_rfl) (fun _ _ _ h => h) (Or.inl ⟨by rfl, ?y63⟩) (by assumption) ?r63
          case y63 => (intro wx hSx; (try dsimp only at hSx); go_simp; (try with_reducible rfl))
          try simp only [Act.put, List.setIfInBounds_toArray, List.set_cons_zero, List.set_cons_succ]
          refine wpAnyH_take (i := 7) (oi := ⟨some 62, _, _, _, _, _⟩) (v := ?v64) rfl (by kernel_rfl) (by kernel_rfl) (by kernel_rfl) (fun _ _ _ h => h) (Or.inl ⟨by rfl, ?y64⟩) (by assumption) ?r64
          case y64 => (intro wx hSx; (try dsimp only at hSx); go_simp; (try with_reducible rfl))
          try simp only [Act.put, List.setIfInBounds_toArray, List.set_cons_zero, List.set_cons_succ]
          refine wpAnyH_take (i := 8) (oi := ⟨some 63, _, _, _, _, _⟩) (v := ?v65) rfl (by kernel_rfl) (by kernel_rfl) (by kernel_rfl) (fun _ _ _ h => h) (Or.inl ⟨by rfl, ?y65⟩) (by assumption) ?r65
          case y65 => (intro wx hSx; (try dsimp only at hSx); go_simp; (try with_reducible rfl))
          try simp only [Act.put, List.setIfInBounds_toArray, List.set_cons_zero, List.set_cons_succ]
          refine wpAnyH_take (i := 9) (oi := ⟨some 64, _, _, _, _, _⟩) (v := ?v66) rfl (by kernel_rfl) (by kernel_rfl) (by kernel_rfl) (fun _ _ _ h => h) (Or.inl ⟨by rfl, ?y66⟩) (by assumption) ?r66
          case y66 => (intro wx hSx; (try dsimp only at hSx); go_simp; (try with_reducible rfl))
          try simp only [Act.put, List.setIfInBounds_toArray, List.set_cons_zero, List.set_cons_succ]
          refine wpAnyH_take (i := 10) (oi := ⟨some 65, _, _, _, _, _⟩) (v := ?v67) rfl (by kernel_rfl) (by kernel_rfl) (by kernel_rfl) (fun _ _ _ h => h) (Or.inl ⟨by rfl, ?y67⟩) (by assumption) ?r67
          case y67 => (intro wx hSx; (try dsimp only at hSx); go_simp; (try with_reducible rfl))
          try simp only [Act.put, List.setIfInBounds_toArray, List.set_cons_zero, List.set_cons_succ]
          refine wpAnyH_take (i := 11) (oi := ⟨some 66, _, _, _, _, _⟩) (v := ?v68) rfl (by kernel_rfl) (by kernel_rfl) (by kernel_rfl) (fun _ _ _ h => h) (Or.inl ⟨by rfl, ?y68⟩) (by assumption) ?r68
          case y68 => (intro wx hSx; (try dsimp only at hSx); go_simp; (try with_reducible rfl))
          try simp only [Act.put, List.setIfInBounds_toArray, List.set_cons_zero, List.set_cons_succ]
          refine wpAnyH_take (i := 12) (oi := ⟨some 67, _, _, _, _, _⟩) (v := ?v69) rfl (by kernel_rfl) (by kernel_rfl) (by kernel_rfl) (fun _ _ _ h => h) (Or.inl ⟨by rfl, ?y69⟩) (by assumption) ?r69
          case y69 => (intro wx hSx; (try dsimp only at hSx); go_simp; (try with_reducible rfl))
          try simp only [Act.put, List.setIfInBounds_toArray, List.set_cons_zero, List.set_cons_succ]
          refine wpAnyH_take (i := 13) (oi := ⟨some 7, _, _, _, _, _⟩) (v := ?v70) rfl (by kernel_rfl) (by kernel_rfl) (by kernel_rfl) (fun _ _ _ h => h) (Or.inl ⟨by rfl, ?y70⟩) (by assumption) ?r70
          case y70 => (intro wx hSx; (try dsimp only at hSx); go_simp; (try with_reducible rfl))
          try simp only [Act.put, List.setIfInBounds_toArray, List.set_cons_zero, List.set_cons_succ]
          refine wpAnyH_done (by kernel_rfl) ?_ _
          clear hHeld xr d4 m4
          have G1 := hid HS.out.drew.drew; have G2 := hid HR.out.drew.drew; have G3 := hid HF.out.drew.drew; have G4 := hid H3.out.drew.drew
          clear HS HR HF H3
          have HS := G1; have HR := G2; have HF := G3; have H3 := G4; clear G1 G2 G3 G4
          go_wp2_with (fail)
          generalize w'.drew = we at *
          have x0 : we.drew.cell? ⟨r, 0, none⟩ = some (.bool s1.i0) := (HR.out).cell 0; have x1 : we.drew.cell? ⟨r, 1, none⟩ = some (.bool s1.i1) := (HR.out).cell 1; have x2 : we.drew.cell? ⟨r, 2, none⟩ = some (.bool s1.i2) := (HR.out).cell 2; have x3 : we.drew.cell? ⟨r, 3, none⟩ = some (.bool s1.i3) := (HR.out).cell 3; have x4 : we.drew.cell? ⟨r, 4, none⟩ = some (.bool s1.e0) := (HR.out).cell 4; have x5 : we.drew.cell? ⟨r, 5, none⟩ = some (.bool s1.e1) := (HR.out).cell 5; have x6 : we.drew.cell? ⟨r, 6, none⟩ = some (.bool s1.e2) := (HR.out).cell 6; have x7 : we.drew.cell? ⟨r, 7, none⟩ = some (.bool s1.e3) := (HR.out).cell 7; have x8 : we.drew.cell? ⟨r, 8, none⟩ = some (.int .i64 s1.worst) := (HR.out).cell 8; have q1' : we.drew.cell? ⟨sb, 1, none⟩ = some (.int .u8 ii) := H3.out.cell 1
          go_region_held3 (fun wx => wx.cell? ⟨r, 0, none⟩ = some (.bool s1.i0) ∧ wx.cell? ⟨r, 1, none⟩ = some (.bool s1.i1) ∧ wx.cell? ⟨r, 2, none⟩ = some (.bool s1.i2) ∧ wx.cell? ⟨r, 3, none⟩ = some (.bool s1.i3) ∧ wx.cell? ⟨r, 4, none⟩ = some (.bool s1.e0) ∧ wx.cell? ⟨r, 5, none⟩ = some (.bool s1.e1) ∧ wx.cell? ⟨r, 6, none⟩ = some (.bool s1.e2) ∧ wx.cell? ⟨r, 7, none⟩ = some (.bool s1.e3) ∧ wx.cell? ⟨r, 8, none⟩ = some (.int .i64 s1.worst) ∧ wx.cell? ⟨sb, 1, none⟩ = some (.int .u8 ii)) (go_keep) (first
            | (go_at_call 11; (with_reducible refine (In_calls b _ _ HS.out ii nb0).mono ?_); rintro e w' ⟨rfl, rfl⟩)
            | (go_at_call 12; (with_reducible refine (Len_calls b _ _ HS.out).mono ?_); rintro e w' ⟨rfl, rfl⟩)
            | (go_at_call 13; (with_reducible refine (RLen_calls r _ _ HR.out).mono ?_); rintro e w' ⟨rfl, rfl⟩)
            | (go_at_call 14; (with_reducible refine (Worst_calls b _ _ HS.out).mono ?_); rintro e w' ⟨rfl, rfl⟩)
            | (go_at_call 15; (with_reducible refine (Mask_calls b _ _ HS.out).mono ?_); rintro e w' ⟨rfl, f'⟩; have x0' : w'.cell? ⟨r, 0, none⟩ = some (.bool s1.i0) := (HR.out.frm f' (fun h => h)).cell 0; have x1' : w'.cell? ⟨r, 1, none⟩ = some (.bool s1.i1) := (HR.out.frm f' (fun h => h)).cell 1; have x2' : w'.cell? ⟨r, 2, none⟩ = some (.bool s1.i2) := (HR.out.frm f' (fun h => h)).cell 2; have x3' : w'.cell? ⟨r, 3, none⟩ = some (.bool s1.i3) := (HR.out.frm f' (fun h => h)).cell 3; have x4' : w'.cell? ⟨r, 4, none⟩ = some (.bool s1.e0) := (HR.out.frm f' (fun h => h)).cell 4; have x5' : w'.cell? ⟨r, 5, none⟩ = some (.bool s1.e1) := (HR.out.frm f' (fun h => h)).cell 5; have x6' : w'.cell? ⟨r, 6, none⟩ = some (.bool s1.e2) := (HR.out.frm f' (fun h => h)).cell 6; have x7' : w'.cell? ⟨r, 7, none⟩ = some (.bool s1.e3) := (HR.out.frm f' (fun h => h)).cell 7; have x8' : w'.cell? ⟨r, 8, none⟩ = some (.int .i64 s1.worst) := (HR.out.frm f' (fun h => h)).cell 8; have q1' : w'.cell? ⟨sb, 1, none⟩ = some (.int .u8 ii) := (H3.out.frm f' (fun h => h)).cell 1; have nf_ := hid (below_frm0 HF.out f'); have n0_ := hid (HS.out.frm f' (fun h => h)); have n1_ := hid (HR.out.frm f' (fun h => h)); have n2_ := hid (H3.out.frm f' (fun h => h)); clear HF HS HR H3 f'; have HF := nf_; have HS := n0_; have HR := n1_; have H3 := n2_; clear nf_ n0_ n1_ n2_)
            | (go_at_call 17; (with_reducible refine (Ever_calls b _ _ HS.out).mono ?_); rintro e w' ⟨rfl, f'⟩; have x0' : w'.cell? ⟨r, 0, none⟩ = some (.bool s1.i0) := (HR.out.frm f' (fun h => h)).cell 0; have x1' : w'.cell? ⟨r, 1, none⟩ = some (.bool s1.i1) := (HR.out.frm f' (fun h => h)).cell 1; have x2' : w'.cell? ⟨r, 2, none⟩ = some (.bool s1.i2) := (HR.out.frm f' (fun h => h)).cell 2; have x3' : w'.cell? ⟨r, 3, none⟩ = some (.bool s1.i3) := (HR.out.frm f' (fun h => h)).cell 3; have x4' : w'.cell? ⟨r, 4, none⟩ = some (.bool s1.e0) := (HR.out.frm f' (fun h => h)).cell 4; have x5' : w'.cell? ⟨r, 5, none⟩ = some (.bool s1.e1) := (HR.out.frm f' (fun h => h)).cell 5; have x6' : w'.cell? ⟨r, 6, none⟩ = some (.bool s1.e2) := (HR.out.frm f' (fun h => h)).cell 6; have x7' : w'.cell? ⟨r, 7, none⟩ = some (.bool s1.e3) := (HR.out.frm f' (fun h => h)).cell 7; have x8' : w'.cell? ⟨r, 8, none⟩ = some (.int .i64 s1.worst) := (HR.out.frm f' (fun h => h)).cell 8; have q1' : w'.cell? ⟨sb, 1, none⟩ = some (.int .u8 ii) := (H3.out.frm f' (fun h => h)).cell 1; have nf_ := hid (below_frm0 HF.out f'); have n0_ := hid (HS.out.frm f' (fun h => h)); have n1_ := hid (HR.out.frm f' (fun h => h)); have n2_ := hid (H3.out.frm f' (fun h => h)); clear HF HS HR H3 f'; have HF := nf_; have HS := n0_; have HR := n1_; have H3 := n2_; clear nf_ n0_ n1_ n2_)
            | (go_at_call 16; (with_reducible refine (mask_calls _ _ _ _ _).mono ?_); rintro e w' ⟨rfl, f'⟩; have x0' : w'.cell? ⟨r, 0, none⟩ = some (.bool s1.i0) := (HR.out.frm f' (fun h => h)).cell 0; have x1' : w'.cell? ⟨r, 1, none⟩ = some (.bool s1.i1) := (HR.out.frm f' (fun h => h)).cell 1; have x2' : w'.cell? ⟨r, 2, none⟩ = some (.bool s1.i2) := (HR.out.frm f' (fun h => h)).cell 2; have x3' : w'.cell? ⟨r, 3, none⟩ = some (.bool s1.i3) := (HR.out.frm f' (fun h => h)).cell 3; have x4' : w'.cell? ⟨r, 4, none⟩ = some (.bool s1.e0) := (HR.out.frm f' (fun h => h)).cell 4; have x5' : w'.cell? ⟨r, 5, none⟩ = some (.bool s1.e1) := (HR.out.frm f' (fun h => h)).cell 5; have x6' : w'.cell? ⟨r, 6, none⟩ = some (.bool s1.e2) := (HR.out.frm f' (fun h => h)).cell 6; have x7' : w'.cell? ⟨r, 7, none⟩ = some (.bool s1.e3) := (HR.out.frm f' (fun h => h)).cell 7; have x8' : w'.cell? ⟨r, 8, none⟩ = some (.int .i64 s1.worst) := (HR.out.frm f' (fun h => h)).cell 8; have q1' : w'.cell? ⟨sb, 1, none⟩ = some (.int .u8 ii) := (H3.out.frm f' (fun h => h)).cell 1; have nf_ := hid (below_frm0 HF.out f'); have n0_ := hid (HS.out.frm f' (fun h => h)); have n1_ := hid (HR.out.frm f' (fun h => h)); have n2_ := hid (H3.out.frm f' (fun h => h)); clear HF HS HR H3 f'; have HF := nf_; have HS := n0_; have HR := n1_; have H3 := n2_; clear nf_ n0_ n1_ n2_))
          clear q1' x0 x1 x2 x3 x4 x5 x6 x7 x8
          go_wp2_with (fail)
          go_roundw
          case rel => exact ⟨k + 1, s1, by omega, by go_num, HS.out, HR.out, HF.out⟩
          case measure => simp [intOf]; omega
        · have d4 : decide (ii < 4) = false := decide_eq_false h4
          have hat := at_big s1 ii h4
          go_wp2_with (fail)
          refine wp_region_held_drew (S := fun wx => wx.cell? ⟨sb, 1, none⟩ = some (.int .u8 ii)) (by kernel_rfl) (by (try dsimp only); exact H3.out.cell 1) (fun hHeld => ?_)
          refine wpAnyH_take (i := 0) (oi := ⟨some 55, _, _, _, _, _⟩) (v := ?v71) rfl (by kernel_rfl) (by kernel_rfl) (by kernel_rfl) (fun _ _ _ h => h) (Or.inl ⟨by rfl, ?y71⟩) (by assumption) ?r71
          case y71 => (intro wx hSx; (try dsimp only at hSx); go_simp; (try with_reducible rfl))
          try simp only [Act.put, List.setIfInBounds_toArray, List.set_cons_zero, List.set_cons_succ]
          refine wpAnyH_take (i := 1) (oi := ⟨some 56, _, _, _, _, _⟩) (v := ?v72) rfl (by kernel_rfl) (by kernel_rfl) (by kernel_rfl) (fun _ _ _ h => h) (Or.inl ⟨by rfl, ?y72⟩) (by assumption) ?r72
          case y72 => (intro wx hSx; (try dsimp only at hSx); go_simp; (try with_reducible rfl))
          try simp only [Act.put, List.setIfInBounds_toArray, List.set_cons_zero, List.set_cons_succ]
          refine wpAnyH_take (i := 2) (oi := ⟨some 57, _, _, _, _, _⟩) (v := ?v73) rfl (by kernel_rfl) (by kernel_rfl) (by kernel_rfl) (fun _ _ _ h => h) (Or.inl ⟨by rfl, ?y73⟩) (by assumption) ?r73
          case y73 => (intro wx hSx; (try dsimp only at hSx); go_simp; (try with_reducible rfl))
          try simp only [Act.put, List.setIfInBounds_toArray, List.set_cons_zero, List.set_cons_succ]
          refine wpAnyH_take (i := 3) (oi := ⟨some 58, _, _, _, _, _⟩) (v := ?v74) rfl (by kernel_rfl) (by kernel_rfl) (by kernel_rfl) (fun _ _ _ h => h) (Or.inl ⟨by rfl, ?y74⟩) (by assumption) ?r74
          case y74 => (intro wx hSx; (try dsimp only at hSx); go_simp; (try with_reducible rfl))
          try simp only [Act.put, List.setIfInBounds_toArray, List.set_cons_zero, List.set_cons_succ]
          refine wpAnyH_take (i := 4) (oi := ⟨some 59, _, _, _, _, _⟩) (v := undef) rfl (by kernel_rfl) (by kernel_rfl) (by kernel_rfl) (fun _ _ _ h => h) (Or.inr ⟨by rfl, rfl⟩) (by assumption) ?_
          try simp only [Act.put, List.setIfInBounds_toArray, List.set_cons_zero, List.set_cons_succ]
          refine wpAnyH_take (i := 5) (oi := ⟨some 60, _, _, _, _, _⟩) (v := undef) rfl (by kernel_rfl) (by kernel_rfl) (by kernel_rfl) (fun _ _ _ h => h) (Or.inr ⟨by rfl, rfl⟩) (by assumption) ?_
          try simp only [Act.put, List.setIfInBounds_toArray, List.set_cons_zero, List.set_cons_succ]
          refine wpAnyH_take (i := 6) (oi := ⟨some 61, _, _, _, _, _⟩) (v := undef) rfl (by kernel_rfl) (by kernel_rfl) (by kernel_rfl) (fun _ _ _ h => h) (Or.inr ⟨by rfl, rfl⟩) (by assumption) ?_
          try simp only [Act.put, List.setIfInBounds_toArray, List.set_cons_zero, List.set_cons_succ]
          refine wpAnyH_take (i := 7) (oi := ⟨some 62, _, _, _, _, _⟩) (v := undef) rfl (by kernel_rfl) (by kernel_rfl) (by kernel_rfl) (fun _ _ _ h => h) (Or.inr ⟨by rfl, rfl⟩) (by assumption) ?_
          try simp only [Act.put, List.setIfInBounds_toArray, List.set_cons_zero, List.set_cons_succ]
          refine wpAnyH_take (i := 8) (oi := ⟨some 63, _, _, _, _, _⟩) (v := undef) rfl (by kernel_rfl) (by kernel_rfl) (by kernel_rfl) (fun _ _ _ h => h) (Or.inr ⟨by rfl, rfl⟩) (by assumption) ?_
          try simp only [Act.put, List.setIfInBounds_toArray, List.set_cons_zero, List.set_cons_succ]
          refine wpAnyH_take (i := 9) (oi := ⟨some 64, _, _, _, _, _⟩) (v := undef) rfl (by kernel_rfl) (by kernel_rfl) (by kernel_rfl) (fun _ _ _ h => h) (Or.inr ⟨by rfl, rfl⟩) (by assumption) ?_
          try simp only [Act.put, List.setIfInBounds_toArray, List.set_cons_zero, List.set_cons_succ]
          refine wpAnyH_take (i := 10) (oi := ⟨some 65, _, _, _, _, _⟩) (v := undef) rfl (by kernel_rfl) (by kernel_rfl) (by kernel_rfl) (fun _ _ _ h => h) (Or.inr ⟨by rfl, rfl⟩) (by assumption) ?_
          try simp only [Act.put, List.setIfInBounds_toArray, List.set_cons_zero, List.set_cons_succ]
          refine wpAnyH_take (i := 11) (oi := ⟨some 66, _, _, _, _, _⟩) (v := undef) rfl (by kernel_rfl) (by kernel_rfl) (by kernel_rfl) (fun _ _ _ h => h) (Or.inr ⟨by rfl, rfl⟩) (by assumption) ?_
          try simp only [Act.put, List.setIfInBounds_toArray, List.set_cons_zero, List.set_cons_succ]
          refine wpAnyH_take (i := 12) (oi := ⟨some 67, _, _, _, _, _⟩) (v := ?v75) rfl (by kernel_rfl) (by kernel_rfl) (by kernel_rfl) (fun _ _ _ h => h) (Or.inl ⟨by rfl, ?y75⟩) (by assumption) ?r75
          case y75 => (intro wx hSx; (try dsimp only at hSx); go_simp; (try with_reducible rfl))
          try simp only [Act.put, List.setIfInBounds_toArray, List.set_cons_zero, List.set_cons_succ]
          refine wpAnyH_take (i := 13) (oi := ⟨some 7, _, _, _, _, _⟩) (v := ?v76) rfl (by kernel_rfl) (by kernel_rfl) (by kernel_rfl) (fun _ _ _ h => h) (Or.inl ⟨by rfl, ?y76⟩) (by assumption) ?r76
          case y76 => (intro wx hSx; (try dsimp only at hSx); go_simp; (try with_reducible rfl))
          try simp only [Act.put, List.setIfInBounds_toArray, List.set_cons_zero, List.set_cons_succ]
          refine wpAnyH_done (by kernel_rfl) ?_ _
          clear hHeld d4
          have G1 := hid HS.out.drew.drew; have G2 := hid HR.out.drew.drew; have G3 := hid HF.out.drew.drew; have G4 := hid H3.out.drew.drew
          clear HS HR HF H3
          have HS := G1; have HR := G2; have HF := G3; have H3 := G4; clear G1 G2 G3 G4
          go_wp2_with (fail)
          generalize w'.drew = we at *
          have x0 : we.drew.cell? ⟨r, 0, none⟩ = some (.bool s1.i0) := (HR.out).cell 0; have x1 : we.drew.cell? ⟨r, 1, none⟩ = some (.bool s1.i1) := (HR.out).cell 1; have x2 : we.drew.cell? ⟨r, 2, none⟩ = some (.bool s1.i2) := (HR.out).cell 2; have x3 : we.drew.cell? ⟨r, 3, none⟩ = some (.bool s1.i3) := (HR.out).cell 3; have x4 : we.drew.cell? ⟨r, 4, none⟩ = some (.bool s1.e0) := (HR.out).cell 4; have x5 : we.drew.cell? ⟨r, 5, none⟩ = some (.bool s1.e1) := (HR.out).cell 5; have x6 : we.drew.cell? ⟨r, 6, none⟩ = some (.bool s1.e2) := (HR.out).cell 6; have x7 : we.drew.cell? ⟨r, 7, none⟩ = some (.bool s1.e3) := (HR.out).cell 7; have x8 : we.drew.cell? ⟨r, 8, none⟩ = some (.int .i64 s1.worst) := (HR.out).cell 8; have q1' : we.drew.cell? ⟨sb, 1, none⟩ = some (.int .u8 ii) := H3.out.cell 1
          go_region_held3 (fun wx => wx.cell? ⟨r, 0, none⟩ = some (.bool s1.i0) ∧ wx.cell? ⟨r, 1, none⟩ = some (.bool s1.i1) ∧ wx.cell? ⟨r, 2, none⟩ = some (.bool s1.i2) ∧ wx.cell? ⟨r, 3, none⟩ = some (.bool s1.i3) ∧ wx.cell? ⟨r, 4, none⟩ = some (.bool s1.e0) ∧ wx.cell? ⟨r, 5, none⟩ = some (.bool s1.e1) ∧ wx.cell? ⟨r, 6, none⟩ = some (.bool s1.e2) ∧ wx.cell? ⟨r, 7, none⟩ = some (.bool s1.e3) ∧ wx.cell? ⟨r, 8, none⟩ = some (.int .i64 s1.worst) ∧ wx.cell? ⟨sb, 1, none⟩ = some (.int .u8 ii)) (go_keep) (first
            | (go_at_call 11; (with_reducible refine (In_calls b _ _ HS.out ii nb0).mono ?_); rintro e w' ⟨rfl, rfl⟩)
            | (go_at_call 12; (with_reducible refine (Len_calls b _ _ HS.out).mono ?_); rintro e w' ⟨rfl, rfl⟩)
            | (go_at_call 13; (with_reducible refine (RLen_calls r _ _ HR.out).mono ?_); rintro e w' ⟨rfl, rfl⟩)
            | (go_at_call 14; (with_reducible refine (Worst_calls b _ _ HS.out).mono ?_); rintro e w' ⟨rfl, rfl⟩)
            | (go_at_call 15; (with_reducible refine (Mask_calls b _ _ HS.out).mono ?_); rintro e w' ⟨rfl, f'⟩; have x0' : w'.cell? ⟨r, 0, none⟩ = some (.bool s1.i0) := (HR.out.frm f' (fun h => h)).cell 0; have x1' : w'.cell? ⟨r, 1, none⟩ = some (.bool s1.i1) := (HR.out.frm f' (fun h => h)).cell 1; have x2' : w'.cell? ⟨r, 2, none⟩ = some (.bool s1.i2) := (HR.out.frm f' (fun h => h)).cell 2; have x3' : w'.cell? ⟨r, 3, none⟩ = some (.bool s1.i3) := (HR.out.frm f' (fun h => h)).cell 3; have x4' : w'.cell? ⟨r, 4, none⟩ = some (.bool s1.e0) := (HR.out.frm f' (fun h => h)).cell 4; have x5' : w'.cell? ⟨r, 5, none⟩ = some (.bool s1.e1) := (HR.out.frm f' (fun h => h)).cell 5; have x6' : w'.cell? ⟨r, 6, none⟩ = some (.bool s1.e2) := (HR.out.frm f' (fun h => h)).cell 6; have x7' : w'.cell? ⟨r, 7, none⟩ = some (.bool s1.e3) := (HR.out.frm f' (fun h => h)).cell 7; have x8' : w'.cell? ⟨r, 8, none⟩ = some (.int .i64 s1.worst) := (HR.out.frm f' (fun h => h)).cell 8; have q1' : w'.cell? ⟨sb, 1, none⟩ = some (.int .u8 ii) := (H3.out.frm f' (fun h => h)).cell 1; have nf_ := hid (below_frm0 HF.out f'); have n0_ := hid (HS.out.frm f' (fun h => h)); have n1_ := hid (HR.out.frm f' (fun h => h)); have n2_ := hid (H3.out.frm f' (fun h => h)); clear HF HS HR H3 f'; have HF := nf_; have HS := n0_; have HR := n1_; have H3 := n2_; clear nf_ n0_ n1_ n2_)
            | (go_at_call 17; (with_reducible refine (Ever_calls b _ _ HS.out).mono ?_); rintro e w' ⟨rfl, f'⟩; have x0' : w'.cell? ⟨r, 0, none⟩ = some (.bool s1.i0) := (HR.out.frm f' (fun h => h)).cell 0; have x1' : w'.cell? ⟨r, 1, none⟩ = some (.bool s1.i1) := (HR.out.frm f' (fun h => h)).cell 1; have x2' : w'.cell? ⟨r, 2, none⟩ = some (.bool s1.i2) := (HR.out.frm f' (fun h => h)).cell 2; have x3' : w'.cell? ⟨r, 3, none⟩ = some (.bool s1.i3) := (HR.out.frm f' (fun h => h)).cell 3; have x4' : w'.cell? ⟨r, 4, none⟩ = some (.bool s1.e0) := (HR.out.frm f' (fun h => h)).cell 4; have x5' : w'.cell? ⟨r, 5, none⟩ = some (.bool s1.e1) := (HR.out.frm f' (fun h => h)).cell 5; have x6' : w'.cell? ⟨r, 6, none⟩ = some (.bool s1.e2) := (HR.out.frm f' (fun h => h)).cell 6; have x7' : w'.cell? ⟨r, 7, none⟩ = some (.bool s1.e3) := (HR.out.frm f' (fun h => h)).cell 7; have x8' : w'.cell? ⟨r, 8, none⟩ = some (.int .i64 s1.worst) := (HR.out.frm f' (fun h => h)).cell 8; have q1' : w'.cell? ⟨sb, 1, none⟩ = some (.int .u8 ii) := (H3.out.frm f' (fun h => h)).cell 1; have nf_ := hid (below_frm0 HF.out f'); have n0_ := hid (HS.out.frm f' (fun h => h)); have n1_ := hid (HR.out.frm f' (fun h => h)); have n2_ := hid (H3.out.frm f' (fun h => h)); clear HF HS HR H3 f'; have HF := nf_; have HS := n0_; have HR := n1_; have H3 := n2_; clear nf_ n0_ n1_ n2_)
            | (go_at_call 16; (with_reducible refine (mask_calls _ _ _ _ _).mono ?_); rintro e w' ⟨rfl, f'⟩; have x0' : w'.cell? ⟨r, 0, none⟩ = some (.bool s1.i0) := (HR.out.frm f' (fun h => h)).cell 0; have x1' : w'.cell? ⟨r, 1, none⟩ = some (.bool s1.i1) := (HR.out.frm f' (fun h => h)).cell 1; have x2' : w'.cell? ⟨r, 2, none⟩ = some (.bool s1.i2) := (HR.out.frm f' (fun h => h)).cell 2; have x3' : w'.cell? ⟨r, 3, none⟩ = some (.bool s1.i3) := (HR.out.frm f' (fun h => h)).cell 3; have x4' : w'.cell? ⟨r, 4, none⟩ = some (.bool s1.e0) := (HR.out.frm f' (fun h => h)).cell 4; have x5' : w'.cell? ⟨r, 5, none⟩ = some (.bool s1.e1) := (HR.out.frm f' (fun h => h)).cell 5; have x6' : w'.cell? ⟨r, 6, none⟩ = some (.bool s1.e2) := (HR.out.frm f' (fun h => h)).cell 6; have x7' : w'.cell? ⟨r, 7, none⟩ = some (.bool s1.e3) := (HR.out.frm f' (fun h => h)).cell 7; have x8' : w'.cell? ⟨r, 8, none⟩ = some (.int .i64 s1.worst) := (HR.out.frm f' (fun h => h)).cell 8; have q1' : w'.cell? ⟨sb, 1, none⟩ = some (.int .u8 ii) := (H3.out.frm f' (fun h => h)).cell 1; have nf_ := hid (below_frm0 HF.out f'); have n0_ := hid (HS.out.frm f' (fun h => h)); have n1_ := hid (HR.out.frm f' (fun h => h)); have n2_ := hid (H3.out.frm f' (fun h => h)); clear HF HS HR H3 f'; have HF := nf_; have HS := n0_; have HR := n1_; have H3 := n2_; clear nf_ n0_ n1_ n2_))
          clear q1' x0 x1 x2 x3 x4 x5 x6 x7 x8
          go_wp2_with (fail)
          go_roundw
          case rel => exact ⟨k + 1, s1, by omega, by go_num, HS.out, HR.out, HF.out⟩
          case measure => simp [intOf]; omega
    · go_wp2
      go_ret
      exact ⟨rfl, hf⟩
end Go.Proofs.Ytmfklfgddblmdaa
