/- CoproCounts, walked: it counts up to its end; there it halts, for good. -/
import Derived.Test.YtglpobgjakmndaaCoproKnown
import Derived.Test.YtglpobgjakmndaaArgs
namespace Go.Proofs.Ytglpobgjakmndaa
open Go.RowKit Go.ChangeShapes
/-- Behind j calls of Next. -/
def cnt (j : Int) : Cp := ⟨1, min (j + 1) 200, 0, 1, 1, 1, 1, decide (j ≥ 200)⟩
theorem cnt_next (j : Int) (h : 0 ≤ j) : (cnt j).next = cnt (j + 1) ∧ (cnt j).ends = decide (j ≥ 199) := by
  unfold cnt Cp.next Cp.ends
  by_cases h1 : j ≥ 200
  · simp only [decide_eq_true h1, Bool.true_or, if_true]
    refine ⟨?_, (decide_eq_true (by omega)).symm⟩
    rw [decide_eq_true (show j + 1 ≥ 200 by omega), show min (j + 1) 200 = 200 by omega, show min (j + 1 + 1) 200 = 200 by omega]
  · by_cases h2 : j ≥ 199
    · simp only [decide_eq_false h1, decide_eq_true (show min (j + 1) 200 ≥ 200 by omega), Bool.false_or, if_true]
      refine ⟨?_, (decide_eq_true h2).symm⟩
      rw [decide_eq_true (show j + 1 ≥ 200 by omega), show min (j + 1) 200 = 200 by omega, show min (j + 1 + 1) 200 = 200 by omega]
    · simp only [decide_eq_false h1, decide_eq_false (show ¬ min (j + 1) 200 ≥ 200 by omega), Bool.false_or]
      refine ⟨?_, (decide_eq_false h2).symm⟩
      rw [if_neg (by decide), decide_eq_false (show ¬ j + 1 ≥ 200 by omega), show min (j + 1) 200 + 1 = min (j + 1 + 1) 200 by omega]
set_option maxHeartbeats 2000000 in
theorem CoproCounts_walk (n v : Int) (w : World) (w0 : (Lit.int .u8 n).wf = true) (w1 : (Lit.int .u32 v).wf = true) :
    Calls Try.prog 5 #[.int .u8 n, .int .u32 v] w fun e w' => e = .returned (.bool true) ∧ Below w.heap.size w w' := by
  have hn := bounds_u8 w0
  have hv := bounds_u32 w1
  clear w0 w1
  go_enter Try.func5, Try.ntmps5
  go_wp2_with (first
      | (go_at_call 7; (with_reducible refine (known_calls _).mono ?_); rintro e w1 ⟨rfl, f1⟩)
      | (go_at_call 8; (with_reducible refine (New_calls 1 _).mono ?_); rintro e w2 ⟨b, hb0, rfl, h1, f2⟩))
  have hb : w.heap.size ≤ b := Nat.le_trans f1.size hb0
  have f3 := below_frm0 f1 f2
  clear f1 f2 hb0
  go_loopw [6] (fun i wr => ∃ (j : Int), 0 ≤ j ∧ j ≤ n ∧ i = .int .i64 (j + 1) ∧ IsCp wr b (cnt j) ∧ Below w.heap.size w wr) (fun i _ => (n + 1 - intOf i).toNat)
  case atStart => exact ⟨0, by omega, by omega, rfl, h1, f3⟩
  case round =>
    obtain ⟨j, hj0, hj, rfl, hs, hf⟩ := hrel
    have HS := hid hs; clear hs
    have HF := hid hf; clear hf
    by_cases hlt : j + 1 ≤ n
    · obtain ⟨N1, N2⟩ := cnt_next j hj0
      have N1' := hid N1; clear N1
      have hep : (cnt j).epoch = min (j + 1) 200 := rfl
      have hep2 : (cnt (j + 1)).epoch = min (j + 1 + 1) 200 := rfl
      have hh2 : (cnt (j + 1)).halted = decide (j + 1 ≥ 200) := rfl
      have hem : (if 200 < j + 1 + 1 then 200 else j + 1 + 1) = min (j + 1 + 1) 200 := by split <;> omega
      have hpos : 0 ≤ (cnt j).epoch := by rw [hep]; omega
      by_cases h199 : j ≥ 199
      · rw [decide_eq_true h199] at N2
        rw [decide_eq_true (show j + 1 ≥ 200 by omega)] at hh2
        rw [show min (j + 1 + 1) 200 = 200 by omega] at hem hep2
        have N2' := hid N2; clear N2
        have HP := hid hep2; clear hep2
        have HH := hid hh2; clear hh2
        have HQ := hid hpos; clear hpos hep
        go_wp2_with (first
          | (go_at_call 15; (with_reducible refine (Next_calls b _ _ HS.out HQ.out).mono ?_); rintro e w' ⟨rfl, h', f'⟩; rw [N2'.out]; rw [N1'.out] at h'; have f2 := hid (below_frm1 HF.out f' hb); clear HF f' HS; have HF := f2; clear f2; have HS := hid h'; clear h')
          | (go_at_call 16; (with_reducible refine (Halted_calls b _ _ HS.out).mono ?_); rintro e w' ⟨rfl, rfl⟩; rw [HH.out])
          | (go_at_call 13; (with_reducible refine (Epoch_calls b _ _ HS.out).mono ?_); rintro e w' ⟨rfl, rfl⟩; rw [HP.out]))
        go_roundw
        case rel => exact ⟨j + 1, by omega, by omega, by go_num, HS.out, HF.out⟩
        case measure => simp [intOf]; omega
      · rw [decide_eq_false h199] at N2
        rw [decide_eq_false (show ¬ j + 1 ≥ 200 by omega)] at hh2
        rw [show min (j + 1 + 1) 200 = j + 1 + 1 by omega] at hem hep2
        have N2' := hid N2; clear N2
        have HP := hid hep2; clear hep2
        have HH := hid hh2; clear hh2
        have HQ := hid hpos; clear hpos hep
        go_wp2_with (first
          | (go_at_call 15; (with_reducible refine (Next_calls b _ _ HS.out HQ.out).mono ?_); rintro e w' ⟨rfl, h', f'⟩; rw [N2'.out]; rw [N1'.out] at h'; have f2 := hid (below_frm1 HF.out f' hb); clear HF f' HS; have HF := f2; clear f2; have HS := hid h'; clear h')
          | (go_at_call 16; (with_reducible refine (Halted_calls b _ _ HS.out).mono ?_); rintro e w' ⟨rfl, rfl⟩; rw [HH.out])
          | (go_at_call 13; (with_reducible refine (Epoch_calls b _ _ HS.out).mono ?_); rintro e w' ⟨rfl, rfl⟩; rw [HP.out]))
        go_roundw
        case rel => exact ⟨j + 1, by omega, by omega, by go_num, HS.out, HF.out⟩
        case measure => simp [intOf]; omega
    · obtain rfl : j = n := by omega
      by_cases h200 : j ≥ 200
      · have S0 : cnt j = ⟨1, min (j + 1) 200, 0, 1, 1, 1, 1, true⟩ := by unfold cnt; rw [decide_eq_true h200]
        have hs := HS.out; clear HS
        rw [S0] at hs; clear S0
        generalize min (j + 1) 200 = ep at *
        have N1 : Hid (Cp.raise ⟨1, ep, 0, 1, 1, 1, 1, true⟩ v = ⟨1, ep, 0, 1, 1, 1, 1, true⟩) := rfl
        have N2 : Hid (Cp.meets ⟨1, ep, 0, 1, 1, 1, 1, true⟩ 2 9 = false) := rfl
        have N3 : Hid (Cp.met ⟨1, ep, 0, 1, 1, 1, 1, true⟩ 2 9 = ⟨1, ep, 0, 1, 1, 1, 1, true⟩) := rfl
        have N4 : Hid (Cp.peer ⟨1, ep, 0, 1, 1, 1, 1, true⟩ 2 = 1) := rfl
        have HS := hid hs; clear hs
        go_wp2_with (first
          | (go_at_call 11; (with_reducible refine (Raise_calls b _ _ HS.out v).mono ?_); rintro e w' ⟨rfl, h', f'⟩; rw [N1.out] at h'; have f2 := hid (below_frm1 HF.out f' hb); clear HF f' HS; have HF := f2; clear f2; have HS := hid h'; clear h')
          | (go_at_call 9; (with_reducible refine (Meet_calls b _ _ HS.out 2 9 (by omega)).mono ?_); rintro e w' ⟨rfl, h', f'⟩; rw [N2.out]; rw [N3.out] at h'; have f2 := hid (below_frm1 HF.out f' hb); clear HF f' HS; have HF := f2; clear f2; have HS := hid h'; clear h')
          | (go_at_call 16; (with_reducible refine (Halted_calls b _ _ HS.out).mono ?_); rintro e w' ⟨rfl, rfl⟩)
          | (go_at_call 12; (with_reducible refine (View_calls b _ _ HS.out).mono ?_); rintro e w' ⟨rfl, rfl⟩)
          | (go_at_call 10; (with_reducible refine (Peer_calls b _ _ HS.out 2 (by omega)).mono ?_); rintro e w' ⟨rfl, rfl⟩; rw [N4.out]))
        go_ret
        exact ⟨rfl, HF.out⟩
      · have S0 : cnt j = ⟨1, min (j + 1) 200, 0, 1, 1, 1, 1, false⟩ := by unfold cnt; rw [decide_eq_false h200]
        have hs := HS.out; clear HS
        rw [S0] at hs; clear S0
        generalize min (j + 1) 200 = ep at *
        have N1 : Cp.raise ⟨1, ep, 0, 1, 1, 1, 1, false⟩ v = ⟨1, ep, min v 1048576, 1, 1, 1, 1, false⟩ := by
          show (⟨1, ep, max 0 (min v 1048576), 1, 1, 1, 1, false⟩ : Cp) = _
          rw [show max 0 (min v 1048576) = min v 1048576 by omega]
        have e1 : (if 1048576 < v then 1048576 else v) = min v 1048576 := by split <;> omega
        generalize min v 1048576 = m1 at *
        have N1' := hid N1; clear N1
        have N2 : Hid (Cp.meets ⟨1, ep, m1, 1, 1, 1, 1, false⟩ 2 9 = true) := rfl
        have N3 : Hid (Cp.met ⟨1, ep, m1, 1, 1, 1, 1, false⟩ 2 9 = ⟨1, ep, m1, 1, 1, 9, 1, false⟩) := rfl
        have N4 : Hid (Cp.peer ⟨1, ep, m1, 1, 1, 9, 1, false⟩ 2 = 9) := rfl
        have HS := hid hs; clear hs
        go_wp2_with (first
          | (go_at_call 11; (with_reducible refine (Raise_calls b _ _ HS.out v).mono ?_); rintro e w' ⟨rfl, h', f'⟩; rw [N1'.out] at h'; have f2 := hid (below_frm1 HF.out f' hb); clear HF f' HS; have HF := f2; clear f2; have HS := hid h'; clear h')
          | (go_at_call 9; (with_reducible refine (Meet_calls b _ _ HS.out 2 9 (by omega)).mono ?_); rintro e w' ⟨rfl, h', f'⟩; rw [N2.out]; rw [N3.out] at h'; have f2 := hid (below_frm1 HF.out f' hb); clear HF f' HS; have HF := f2; clear f2; have HS := hid h'; clear h')
          | (go_at_call 16; (with_reducible refine (Halted_calls b _ _ HS.out).mono ?_); rintro e w' ⟨rfl, rfl⟩)
          | (go_at_call 12; (with_reducible refine (View_calls b _ _ HS.out).mono ?_); rintro e w' ⟨rfl, rfl⟩)
          | (go_at_call 10; (with_reducible refine (Peer_calls b _ _ HS.out 2 (by omega)).mono ?_); rintro e w' ⟨rfl, rfl⟩; rw [N4.out]))
        go_ret
        exact ⟨rfl, HF.out⟩
end Go.Proofs.Ytglpobgjakmndaa
