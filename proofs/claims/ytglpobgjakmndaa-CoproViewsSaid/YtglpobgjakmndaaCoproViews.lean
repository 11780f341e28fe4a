/- CoproViews, walked: of all views that are raised the greatest stands. -/
import Derived.Test.YtglpobgjakmndaaCoproKnown
import Derived.Test.YtglpobgjakmndaaArgs
namespace Go.Proofs.Ytglpobgjakmndaa
open Go.RowKit Go.ChangeShapes
theorem getD_mem {zs : List Int} {k : Nat} (h : k < zs.length) : zs.getD k 0 ∈ zs := by
  rw [List.getD_eq_getElem?_getD, List.getElem?_eq_getElem h]; exact List.getElem_mem h
set_option maxHeartbeats 2000000 in
theorem CoproViews_walk (a0 : Option Addr) (c0 : Nat) (z0 : List Int) (w : World) (h0 : IsInts .u32 w a0 c0 z0) :
    Calls Try.prog 4 #[.slice a0 z0.length c0] w fun e w' => e = .returned (.bool true) ∧ Below w.heap.size w w' := by
  have hle := h0.le
  have hsm := h0.small
  by_cases hlen : z0.length > 60
  · go_enter Try.func4, Try.ntmps4
    go_wp2_with (go_at_call 7; (with_reducible refine (known_calls _).mono ?_); rintro e w1 ⟨rfl, f1⟩)
    go_ret
    exact ⟨rfl, f1⟩
  · go_enter Try.func4, Try.ntmps4
    go_wp2_with (first
      | (go_at_call 7; (with_reducible refine (known_calls _).mono ?_); rintro e w1 ⟨rfl, f1⟩)
      | (go_at_call 8; (with_reducible refine (New_calls 3 _).mono ?_); rintro e w2 ⟨b, hb0, rfl, h1, f2⟩))
    have hb : w.heap.size ≤ b := Nat.le_trans f1.size hb0
    have f3 := below_frm0 f1 f2
    clear f1 f2 hb0
    go_loopw [4, 5] (fun m i wr => ∃ (k : Nat) (mo : Int), k ≤ z0.length ∧ i = .int .i64 k ∧ m = .int .u32 mo ∧ IsCp wr b ⟨3, 1, mo, 1, 1, 1, 1, false⟩ ∧ Below w.heap.size w wr) (fun _ i _ => z0.length - (intOf i).toNat)
    case atStart => exact ⟨0, 0, by omega, rfl, rfl, h1, f3⟩
    case round =>
      obtain ⟨k, mo, hk, rfl, rfl, hs, hf⟩ := hrel
      by_cases hlt : k < z0.length
      · obtain ⟨ba, off, rfl, hba, hc⟩ := h0.at_ (by omega)
        have hck : wr.cell? ⟨ba, off + k, none⟩ = some (.int .u32 (z0.getD k 0)) := by rw [hf.cell (p := ⟨ba, off + k, none⟩) hba]; exact hc k hlt
        clear hc h0
        generalize z0.getD k 0 = x at *
        have HS := hid hs; clear hs
        have HF := hid hf; clear hf
        have hne : ba ≠ b := by omega
        have N1 : Hid (Cp.raise ⟨3, 1, mo, 1, 1, 1, 1, false⟩ x = ⟨3, 1, max mo (min x 1048576), 1, 1, 1, 1, false⟩) := rfl
        have e1 : (if 1048576 < x then 1048576 else x) = min x 1048576 := by split <;> omega
        generalize min x 1048576 = m1 at *
        have e2 : (if mo < m1 then m1 else mo) = max mo m1 := by split <;> omega
        generalize max mo m1 = V at *
        go_wp2_with (first
            | (go_at_call 11; (with_reducible refine (Raise_calls b _ _ HS.out x).mono ?_); rintro e w' ⟨rfl, h', f'⟩; rw [N1.out] at h'; have hck' : w'.cell? ⟨ba, off + k, none⟩ = some (.int .u32 x) := ((f'.cell (p := ⟨ba, off + k, none⟩) (World.block_lt_of_cell? _ _ hck) hne).trans hck); have f2 := hid (below_frm1 HF.out f' hb); clear HF f' HS hck; have HF := f2; clear f2; have HS := hid h'; clear h')
            | (go_at_call 12; (with_reducible refine (View_calls b _ _ HS.out).mono ?_); rintro e w' ⟨rfl, rfl⟩)
            | (go_at_call 13; (with_reducible refine (Epoch_calls b _ _ HS.out).mono ?_); rintro e w' ⟨rfl, rfl⟩))
        go_roundw
        case rel => exact ⟨k + 1, V, by omega, by go_num, rfl, HS.out, HF.out⟩
        case measure => simp [intOf]; omega
      · have HS := hid hs; clear hs
        go_wp2_with (go_at_call 14; (with_reducible refine (Id_calls b _ _ HS.out).mono ?_); rintro e w' ⟨rfl, rfl⟩)
        go_ret
        exact ⟨rfl, hf⟩
end Go.Proofs.Ytglpobgjakmndaa
