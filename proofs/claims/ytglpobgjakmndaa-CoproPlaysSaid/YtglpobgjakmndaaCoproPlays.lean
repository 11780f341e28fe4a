/- CoproPlays, walked: every row of calls: epoch, view, peers as the document says; nothing ever goes down. -/
import Derived.Test.YtglpobgjakmndaaCoproKnown
import Derived.Test.YtglpobgjakmndaaCoproRef
import Derived.Test.YtglpobgjakmndaaTypes
import Derived.Deep.QuietTactic
import Derived.BigQuiet
import Derived.Deep.RegionHeld3
namespace Go.Proofs.Ytglpobgjakmndaa
open Go.RowKit Go.ChangeShapes
/-- What the numbers of a coprocessor of this law keep to. -/
structure Good (id : Int) (s : Cp) : Prop where
  id : s.id = id
  e0 : 0 ≤ s.epoch
  e1 : s.epoch ≤ 200
  p0 : 0 ≤ s.p0
  p1 : 0 ≤ s.p1
  p2 : 0 ≤ s.p2
  p3 : 0 ≤ s.p3
theorem good_new (i : Int) : Good i (cpNew i) := ⟨rfl, by show (0 : Int) ≤ 1; decide, by show (1 : Int) ≤ 200; decide, by show (0 : Int) ≤ 1; decide, by show (0 : Int) ≤ 1; decide, by show (0 : Int) ≤ 1; decide, by show (0 : Int) ≤ 1; decide⟩
theorem good_next {i : Int} {s : Cp} (h : Good i s) : Good i s.next ∧ s.epoch ≤ s.next.epoch ∧ s.next.view = s.view := by
  obtain ⟨h1, h2, h3, h4, h5, h6, h7⟩ := h
  unfold Cp.next Cp.ends
  by_cases c : (s.halted || decide (s.epoch ≥ 200)) = true
  · rw [if_pos c]; exact ⟨⟨h1, h2, h3, h4, h5, h6, h7⟩, Int.le_refl _, rfl⟩
  · rw [if_neg c]
    have : ¬ s.epoch ≥ 200 := fun h => c (by rw [decide_eq_true h]; simp)
    exact ⟨⟨h1, by show 0 ≤ s.epoch + 1; omega, by show s.epoch + 1 ≤ 200; omega, h4, h5, h6, h7⟩, by show s.epoch ≤ s.epoch + 1; omega, rfl⟩
theorem good_raise {i : Int} {s : Cp} (h : Good i s) (v : Int) : Good i (s.raise v) ∧ (s.raise v).epoch = s.epoch ∧ s.view ≤ (s.raise v).view := by
  obtain ⟨h1, h2, h3, h4, h5, h6, h7⟩ := h
  unfold Cp.raise
  split
  · exact ⟨⟨h1, h2, h3, h4, h5, h6, h7⟩, rfl, Int.le_refl _⟩
  · exact ⟨⟨h1, h2, h3, h4, h5, h6, h7⟩, rfl, by show s.view ≤ max s.view _; omega⟩
theorem good_met {i : Int} {s : Cp} (h : Good i s) (j e : Int) (he : 0 ≤ e) : Good i (s.met j e) ∧ (s.met j e).epoch = s.epoch ∧ (s.met j e).view = s.view := by
  obtain ⟨h1, h2, h3, h4, h5, h6, h7⟩ := h
  unfold Cp.met
  split
  · unfold Cp.set
    (repeat' split) <;> exact ⟨⟨h1, h2, h3, by first | exact h4 | exact he, by first | exact h5 | exact he, by first | exact h6 | exact he, by first | exact h7 | exact he⟩, rfl, rfl⟩
  · exact ⟨⟨h1, h2, h3, h4, h5, h6, h7⟩, rfl, rfl⟩
set_option maxHeartbeats 4000000 in
set_option maxRecDepth 100000 in
theorem CoproPlays_walk (id : Int) (a1 : Option Addr) (c1 : Nat) (z1 : List (Int × Int × Int × Int × Unit)) (m : Int) (w : World) (w0 : (Lit.int .u8 id).wf = true) (h1 : SlK c42 w a1 c1 z1) (w2 : (Lit.int .u8 m).wf = true) :
    Calls Try.prog 6 #[.int .u8 id, .slice a1 z1.length c1, .int .u8 m] w fun e w' => e = .returned (.bool true) ∧ Below w.heap.size w w' := by
  have hle := h1.le
  have hsm := h1.small
  have hid0 := bounds_u8 w0
  have hm := bounds_u8 w2
  clear w0 w2
  by_cases hlen : z1.length > 80
  · go_enter Try.func6, Try.ntmps6
    go_wp2_with (go_at_call 7; (with_reducible refine (known_calls _).mono ?_); rintro e w1 ⟨rfl, f1⟩)
    go_ret
    exact ⟨rfl, f1⟩
  by_cases hid4 : id ≥ 4
  · go_enter Try.func6, Try.ntmps6
    go_wp2_with (go_at_call 7; (with_reducible refine (known_calls _).mono ?_); rintro e w1 ⟨rfl, f1⟩)
    go_ret
    exact ⟨rfl, f1⟩
  go_enter Try.func6, Try.ntmps6
  go_wp2_with (first
      | (go_at_call 7; (with_reducible refine (known_calls _).mono ?_); rintro e w1 ⟨rfl, f1⟩)
      | (go_at_call 8; (with_reducible refine (New_calls id _).mono ?_); rintro e w2 ⟨b, hb0, rfl, h2, f2⟩)
      | (go_at_call 17; (with_reducible refine (RNew_calls id _).mono ?_); rintro e w3 ⟨r, hr0, rfl, h3, f3⟩))
  have hb : w.heap.size ≤ b := Nat.le_trans f1.size hb0
  have hbr : b < r := Nat.lt_of_lt_of_le h2.lt hr0
  have h4 := h2.frm f3 (fun h => h)
  have f4 := below_frm0 (below_frm0 f1 f2) f3
  have hg := good_new id
  generalize cpNew id = s0 at *
  clear f1 f2 f3 hb0 h2 hr0
  have hrb : w.heap.size ≤ r := by omega
  go_loopw [9] (fun i wr => ∃ (k : Int) (s : Cp), 0 ≤ k ∧ k ≤ m ∧ i = .int .i64 k ∧ IsCp wr b s ∧ IsRc wr r s ∧ Good id s ∧ Below w.heap.size w wr) (fun i _ => (m - intOf i).toNat)
  case atStart => exact ⟨0, s0, by omega, by omega, rfl, h4, h3, hg, f4⟩
  case round =>
    clear h4 h3 hg f4
    obtain ⟨k, s, hk0, hk, rfl, hs, hr, hg, hf⟩ := hrel
    have HS := hid hs; clear hs
    have HR := hid hr; clear hr
    have HF := hid hf; clear hf
    have HG := hid hg; clear hg
    by_cases hlt : k < m
    · have HE := hid HG.out.e0
      have hne : b ≠ r := by omega
      cases hends : s.ends
      all_goals
        have HN := hid hends; clear hends
        go_wp2_with (first
          | (go_at_call 15; (with_reducible refine (Next_calls b _ _ HS.out HE.out).mono ?_); rintro e w' ⟨rfl, h', f'⟩; rw [HN.out]; have r2 := hid (HR.out.frm f' (Ne.symm hne)); have f2 := hid (below_frm1 HF.out f' hb); clear HF f' HS HR; have HF := f2; clear f2; have HS := hid h'; clear h'; have HR := r2; clear r2)
          | (go_at_call 18; (with_reducible refine (RNext_calls r _ _ HR.out HE.out).mono ?_); rintro e w' ⟨rfl, h', f'⟩; rw [HN.out]; have r2 := hid (HS.out.frm f' hne); have f2 := hid (below_frm1 HF.out f' hrb); clear HF f' HS HR; have HF := f2; clear f2; have HR := hid h'; clear h'; have HS := r2; clear r2))
        go_roundw
        case rel => exact ⟨k + 1, s.next, by omega, by omega, by go_num, HS.out, HR.out, (good_next HG.out).1, HF.out⟩
        case measure => simp [intOf]; omega
    · go_wp2
      obtain ⟨wo, rfl⟩ : ∃ wo : World, wo = wr := ⟨_, rfl⟩
      go_loopw [10] (fun i wr => ∃ (k : Nat) (s : Cp), k ≤ z1.length ∧ i = .int .i64 k ∧ IsCp wr b s ∧ IsRc wr r s ∧ Good id s ∧ Below w.heap.size w wr) (fun i _ => z1.length - (intOf i).toNat)
      case atStart => exact ⟨0, s, by omega, rfl, HS.out, HR.out, HG.out, HF.out⟩
      case round =>
        clear HS HR HF HG
        obtain ⟨k2, s, hk2, rfl, hs, hr, hg, hf⟩ := hrel
        by_cases hlt2 : k2 < z1.length
        · obtain ⟨ba, off, rfl, hba, hc⟩ := h1.at_ (by omega)
          obtain ⟨x, hx⟩ : ∃ x, z1[k2]? = some x := ⟨z1[k2], List.getElem?_eq_getElem hlt2⟩
          obtain ⟨cs, hkx, hcx⟩ := hc k2 x hx
          rw [cells42] at hcx
          obtain ⟨_, g0, y0, g1, y1, g2, y2, g3, y3⟩ := k42 hkx
          have q0 : wr.cell? ⟨ba, off + k2 * 4, none⟩ = _ := (hf.cell (p := ⟨ba, _, none⟩) hba).trans (hcx 0 _ g0)
          have q1 : wr.cell? ⟨ba, off + k2 * 4 + 1, none⟩ = _ := (hf.cell (p := ⟨ba, _, none⟩) hba).trans (hcx 1 _ g1)
          have q2 : wr.cell? ⟨ba, off + k2 * 4 + 2, none⟩ = _ := (hf.cell (p := ⟨ba, _, none⟩) hba).trans (hcx 2 _ g2)
          have q3 : wr.cell? ⟨ba, off + k2 * 4 + 3, none⟩ = _ := (hf.cell (p := ⟨ba, _, none⟩) hba).trans (hcx 3 _ g3)
          have b1 := bounds_u32 y1
          have b2 := bounds_u8 y2
          have b3 := bounds_u8 y3
          clear hc hcx hkx g0 g1 g2 g3 y0 y1 y2 y3 h1 hx
          obtain ⟨wh, vi, ii, ep, _⟩ := x
          dsimp only at *
          have HS := hid hs; clear hs
          have HR := hid hr; clear hr
          have HF := hid hf; clear hf
          have HG := hid hg; clear hg
          --GEN
          have hne : b ≠ r := by omega
          have hnb : wr.heap.size ≠ b := Ne.symm (Nat.ne_of_lt HS.out.lt)
          have hnr : wr.heap.size ≠ r := Ne.symm (Nat.ne_of_lt HR.out.lt)
          go_wp2_with (fail)
          generalize hwa : wr.alloc (Obj.cells #[Value.int .i64 wh, Value.int .u32 vi, Value.int .u8 ii, Value.int .u8 ep] 42) = wa
          have g1 : IsCp wa b s := hwa ▸ HS.out.alloc _
          have g2 : IsRc wa r s := hwa ▸ HR.out.alloc _
          have g3 : Below w.heap.size w wa := hwa ▸ HF.out.alloc HF.out.size _
          have g4 : Blk wa wr.heap.size [Value.int .i64 wh, Value.int .u32 vi, Value.int .u8 ii, Value.int .u8 ep] 42 := hwa ▸ Blk.new _ _ _
          clear HS HR HF hwa q0 q1 q2 q3
          generalize wr.heap.size = sb at *
          have HS := hid g1; clear g1
          have HR := hid g2; clear g2
          have HF := hid g3; clear g3
          have H3 := hid g4; clear g4
          have HE := hid HG.out.e0
          have q0 : wa.cell? ⟨sb, 0, none⟩ = some (.int .i64 wh) := H3.out.cell 0
          have q1 : wa.cell? ⟨sb, 1, none⟩ = some (.int .u32 vi) := H3.out.cell 1
          have q2 : wa.cell? ⟨sb, 2, none⟩ = some (.int .u8 ii) := H3.out.cell 2
          have q3 : wa.cell? ⟨sb, 3, none⟩ = some (.int .u8 ep) := H3.out.cell 3
          by_cases hw0 : wh ≤ 0
          · cases hends : s.ends
            all_goals
              have HN := hid hends; clear hends
              go_wp2_with (first
                | (go_at_call 13; (with_reducible refine (Epoch_calls b _ _ HS.out).mono ?_); rintro e w' ⟨rfl, rfl⟩)
                | (go_at_call 12; (with_reducible refine (View_calls b _ _ HS.out).mono ?_); rintro e w' ⟨rfl, rfl⟩)
                | (go_at_call 15; (with_reducible refine (Next_calls b _ _ HS.out HE.out).mono ?_); rintro e w' ⟨rfl, h', f'⟩; rw [HN.out]; have n0_ := hid (HR.out.frm f' (Ne.symm hne)); have n1_ := hid (H3.out.frm f' hnb); have nf_ := hid (below_frm1 HF.out f' hb); clear HF f' HS HR H3; have HF := nf_; clear nf_; have HS := hid h'; clear h'; have HR := n0_; clear n0_; have H3 := n1_; clear n1_)
                | (go_at_call 18; (with_reducible refine (RNext_calls r _ _ HR.out HE.out).mono ?_); rintro e w' ⟨rfl, h', f'⟩; rw [HN.out]; have n0_ := hid (HS.out.frm f' hne); have n1_ := hid (H3.out.frm f' hnr); have nf_ := hid (below_frm1 HF.out f' hrb); clear HF f' HR HS H3; have HF := nf_; clear nf_; have HR := hid h'; clear h'; have HS := n0_; clear n0_; have H3 := n1_; clear n1_))
              have G' := hid (And.intro (good_next HG.out).1 (And.intro (good_next HG.out).2.1 (Int.le_of_eq (good_next HG.out).2.2.symm)))
              generalize s.next = s' at *
              have hI : s'.id = id := G'.out.1.id
              have d1 : decide (s'.epoch < s.epoch) = false := by have := G'.out.2.1; have := G'.out.2.2; exact decide_eq_false (by omega)
              have d2 : decide (s'.view < s.view) = false := by have := G'.out.2.1; have := G'.out.2.2; exact decide_eq_false (by omega)
              have t1 := HR.out.cell 1
              have t2 := HR.out.cell 2
              have t7 := HR.out.cell 7
              simp only [Cp.cells, List.getElem?_cons_succ, List.getElem?_cons_zero] at t1 t2 t7
              go_quiet (first
              | (go_at_call 13; exact quiet_same (Epoch_calls b _ _ (HS.out.drewN _)))
              | (go_at_call 12; exact quiet_same (View_calls b _ _ (HS.out.drewN _)))
              | (go_at_call 16; exact quiet_same (Halted_calls b _ _ (HS.out.drewN _)))
              | (go_at_call 14; exact quiet_same (Id_calls b _ _ (HS.out.drewN _))))
              go_wp2
              rw [hI]
              clear hI
              have Z1 := hid (HS.out.drewN nq)
              have Z2 := hid (HR.out.drewN nq)
              have Z3 := hid (below_drewN HF.out nq)
              clear HS HR HF H3 t1 t2 t7
              generalize Go.World.drewN _ nq = wz at *
              go_loopw [14] (fun i wi => ∃ q : Int, 0 ≤ q ∧ q ≤ 6 ∧ i = .int .u8 q ∧ wi = wz) (fun i _ => (6 - intOf i).toNat)
              case atStart => exact ⟨0, by omega, by omega, rfl, rfl⟩
              case round =>
                obtain ⟨q, hq0, hq, rfl, rfl⟩ := hrel
                by_cases hlt6 : q < 6
                · go_wp2_with (first | (go_at_call 10; (with_reducible refine (Peer_calls b _ _ Z1.out q hq0).mono ?_); rintro e w' ⟨rfl, rfl⟩) | (go_at_call 21; (with_reducible refine (RPeer_calls r _ _ Z2.out q hq0).mono ?_); rintro e w' ⟨rfl, rfl⟩))
                  go_roundw
                  case rel => first | exact ⟨q + 1, by omega, by omega, by go_num, rfl⟩ | exact ⟨q + 1, by omega, by omega, by go_num, trivial⟩
                  case measure => simp [intOf]; omega
                · go_wp2
                  go_roundw
                  case rel => exact ⟨k2 + 1, s', by omega, by go_num, Z1.out, Z2.out, G'.out.1, Z3.out⟩
                  case measure => simp [intOf]; omega
          · by_cases hw1 : wh = 1
            · subst hw1
              go_wp2_with (first
                | (go_at_call 13; (with_reducible refine (Epoch_calls b _ _ HS.out).mono ?_); rintro e w' ⟨rfl, rfl⟩)
                | (go_at_call 12; (with_reducible refine (View_calls b _ _ HS.out).mono ?_); rintro e w' ⟨rfl, rfl⟩)
                | (go_at_call 11; (with_reducible refine (Raise_calls b _ _ HS.out vi).mono ?_); rintro e w' ⟨rfl, h', f'⟩; have q1' : w'.cell? ⟨sb, 1, none⟩ = some (.int .u32 vi) := (H3.out.frm f' hnb).cell 1; have n0_ := hid (HR.out.frm f' (Ne.symm hne)); have n1_ := hid (H3.out.frm f' hnb); have nf_ := hid (below_frm1 HF.out f' hb); clear HF f' HS HR H3; have HF := nf_; clear nf_; have HS := hid h'; clear h'; have HR := n0_; clear n0_; have H3 := n1_; clear n1_)
                | (go_at_call 19; (with_reducible refine (RRaise_calls r _ _ HR.out vi).mono ?_); rintro e w' ⟨rfl, h', f'⟩; have n0_ := hid (HS.out.frm f' hne); have n1_ := hid (H3.out.frm f' hnr); have nf_ := hid (below_frm1 HF.out f' hrb); clear HF f' HR HS H3; have HF := nf_; clear nf_; have HR := hid h'; clear h'; have HS := n0_; clear n0_; have H3 := n1_; clear n1_))
              have G' := hid (And.intro (good_raise HG.out vi).1 (And.intro (Int.le_of_eq (good_raise HG.out vi).2.1.symm) (good_raise HG.out vi).2.2))
              generalize s.raise vi = s' at *
              have hI : s'.id = id := G'.out.1.id
              have d1 : decide (s'.epoch < s.epoch) = false := by have := G'.out.2.1; have := G'.out.2.2; exact decide_eq_false (by omega)
              have d2 : decide (s'.view < s.view) = false := by have := G'.out.2.1; have := G'.out.2.2; exact decide_eq_false (by omega)
              have t1 := HR.out.cell 1
              have t2 := HR.out.cell 2
              have t7 := HR.out.cell 7
              simp only [Cp.cells, List.getElem?_cons_succ, List.getElem?_cons_zero] at t1 t2 t7
              go_quiet (first
              | (go_at_call 13; exact quiet_same (Epoch_calls b _ _ (HS.out.drewN _)))
              | (go_at_call 12; exact quiet_same (View_calls b _ _ (HS.out.drewN _)))
              | (go_at_call 16; exact quiet_same (Halted_calls b _ _ (HS.out.drewN _)))
              | (go_at_call 14; exact quiet_same (Id_calls b _ _ (HS.out.drewN _))))
              go_wp2
              rw [hI]
              clear hI
              have Z1 := hid (HS.out.drewN nq)
              have Z2 := hid (HR.out.drewN nq)
              have Z3 := hid (below_drewN HF.out nq)
              clear HS HR HF H3 t1 t2 t7
              generalize Go.World.drewN _ nq = wz at *
              go_loopw [14] (fun i wi => ∃ q : Int, 0 ≤ q ∧ q ≤ 6 ∧ i = .int .u8 q ∧ wi = wz) (fun i _ => (6 - intOf i).toNat)
              case atStart => exact ⟨0, by omega, by omega, rfl, rfl⟩
              case round =>
                obtain ⟨q, hq0, hq, rfl, rfl⟩ := hrel
                by_cases hlt6 : q < 6
                · go_wp2_with (first | (go_at_call 10; (with_reducible refine (Peer_calls b _ _ Z1.out q hq0).mono ?_); rintro e w' ⟨rfl, rfl⟩) | (go_at_call 21; (with_reducible refine (RPeer_calls r _ _ Z2.out q hq0).mono ?_); rintro e w' ⟨rfl, rfl⟩))
                  go_roundw
                  case rel => first | exact ⟨q + 1, by omega, by omega, by go_num, rfl⟩ | exact ⟨q + 1, by omega, by omega, by go_num, trivial⟩
                  case measure => simp [intOf]; omega
                · go_wp2
                  go_roundw
                  case rel => exact ⟨k2 + 1, s', by omega, by go_num, Z1.out, Z2.out, G'.out.1, Z3.out⟩
                  case measure => simp [intOf]; omega
            · have hw1b : (wh == 1) = false := beq_eq_false_iff_ne.2 hw1
              clear hw1
              go_wp2_with (first
                | (go_at_call 13; (with_reducible refine (Epoch_calls b _ _ HS.out).mono ?_); rintro e w' ⟨rfl, rfl⟩)
                | (go_at_call 12; (with_reducible refine (View_calls b _ _ HS.out).mono ?_); rintro e w' ⟨rfl, rfl⟩))
              have Y1 := hid HS.out.drew
              have Y2 := hid HR.out.drew
              have Y3 := hid HF.out.drew
              have Y4 := hid H3.out.drew
              clear HS HR HF H3
              have HS := Y1; clear Y1
              have HR := Y2; clear Y2
              have HF := Y3; clear Y3
              have H3 := Y4; clear Y4
              go_region_held3 (fun wx => wx.cell? ⟨sb, 2, none⟩ = some (.int .u8 ii) ∧ wx.cell? ⟨sb, 3, none⟩ = some (.int .u8 ep)) (go_keep) (first
                | (go_at_call 9; (with_reducible refine (Meet_calls b _ _ HS.out ii ep (by omega)).mono ?_); rintro e w' ⟨rfl, h', f'⟩; have q2' : w'.cell? ⟨sb, 2, none⟩ = some (.int .u8 ii) := (H3.out.frm f' hnb).cell 2; have q3' : w'.cell? ⟨sb, 3, none⟩ = some (.int .u8 ep) := (H3.out.frm f' hnb).cell 3; have n0_ := hid (HR.out.frm f' (Ne.symm hne)); have n1_ := hid (H3.out.frm f' hnb); have nf_ := hid (below_frm1 HF.out f' hb); clear HF f' HS HR H3; have HF := nf_; clear nf_; have HS := hid h'; clear h'; have HR := n0_; clear n0_; have H3 := n1_; clear n1_)
                | (go_at_call 20; (with_reducible refine (RMeet_calls r _ _ HR.out ii ep (by omega) HG.out.p0 HG.out.p1 HG.out.p2 HG.out.p3).mono ?_); rintro e w' ⟨rfl, h', f'⟩; have q2' : w'.cell? ⟨sb, 2, none⟩ = some (.int .u8 ii) := (H3.out.frm f' hnr).cell 2; have q3' : w'.cell? ⟨sb, 3, none⟩ = some (.int .u8 ep) := (H3.out.frm f' hnr).cell 3; have n0_ := hid (HS.out.frm f' hne); have n1_ := hid (H3.out.frm f' hnr); have nf_ := hid (below_frm1 HF.out f' hrb); clear HF f' HR HS H3; have HF := nf_; clear nf_; have HR := hid h'; clear h'; have HS := n0_; clear n0_; have H3 := n1_; clear n1_))
              go_wp2
              have G' := hid (And.intro (good_met HG.out ii ep b3.1).1 (And.intro (Int.le_of_eq (good_met HG.out ii ep b3.1).2.1.symm) (Int.le_of_eq (good_met HG.out ii ep b3.1).2.2.symm)))
              generalize (s.met ii ep) = s' at *
              have hI : s'.id = id := G'.out.1.id
              have d1 : decide (s'.epoch < s.epoch) = false := by have := G'.out.2.1; have := G'.out.2.2; exact decide_eq_false (by omega)
              have d2 : decide (s'.view < s.view) = false := by have := G'.out.2.1; have := G'.out.2.2; exact decide_eq_false (by omega)
              have t1 := HR.out.cell 1
              have t2 := HR.out.cell 2
              have t7 := HR.out.cell 7
              simp only [Cp.cells, List.getElem?_cons_succ, List.getElem?_cons_zero] at t1 t2 t7
              go_quiet (first
              | (go_at_call 13; exact quiet_same (Epoch_calls b _ _ (HS.out.drewN _)))
              | (go_at_call 12; exact quiet_same (View_calls b _ _ (HS.out.drewN _)))
              | (go_at_call 16; exact quiet_same (Halted_calls b _ _ (HS.out.drewN _)))
              | (go_at_call 14; exact quiet_same (Id_calls b _ _ (HS.out.drewN _))))
              go_wp2
              rw [hI]
              clear hI
              have Z1 := hid (HS.out.drewN nq)
              have Z2 := hid (HR.out.drewN nq)
              have Z3 := hid (below_drewN HF.out nq)
              clear HS HR HF H3 t1 t2 t7
              generalize Go.World.drewN _ nq = wz at *
              go_loopw [14] (fun i wi => ∃ q : Int, 0 ≤ q ∧ q ≤ 6 ∧ i = .int .u8 q ∧ wi = wz) (fun i _ => (6 - intOf i).toNat)
              case atStart => exact ⟨0, by omega, by omega, rfl, rfl⟩
              case round =>
                obtain ⟨q, hq0, hq, rfl, rfl⟩ := hrel
                by_cases hlt6 : q < 6
                · go_wp2_with (first | (go_at_call 10; (with_reducible refine (Peer_calls b _ _ Z1.out q hq0).mono ?_); rintro e w' ⟨rfl, rfl⟩) | (go_at_call 21; (with_reducible refine (RPeer_calls r _ _ Z2.out q hq0).mono ?_); rintro e w' ⟨rfl, rfl⟩))
                  go_roundw
                  case rel => first | exact ⟨q + 1, by omega, by omega, by go_num, rfl⟩ | exact ⟨q + 1, by omega, by omega, by go_num, trivial⟩
                  case measure => simp [intOf]; omega
                · go_wp2
                  go_roundw
                  case rel => exact ⟨k2 + 1, s', by omega, by go_num, Z1.out, Z2.out, G'.out.1, Z3.out⟩
                  case measure => simp [intOf]; omega
        · go_wp2
          go_ret
          exact ⟨rfl, hf⟩
end Go.Proofs.Ytglpobgjakmndaa
