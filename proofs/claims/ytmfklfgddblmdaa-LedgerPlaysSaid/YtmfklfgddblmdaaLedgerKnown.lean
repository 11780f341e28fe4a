/- 'known' of layer 22 returns true. -/
import Derived.Test.YtmfklfgddblmdaaLedger
namespace Go.Proofs.Ytmfklfgddblmdaa
open Go.RowKit
attribute [local go_sem] Lg.begins Lg.begun Lg.at_ Lg.put Lg.out Lg.ended Lg.len cnt msk lgNew
set_option maxHeartbeats 4000000 in
theorem known_calls (w : World) : Calls Try.prog 5 #[] w fun e w' => e = .returned (.bool true) ∧ Below w.heap.size w w' := by
  go_enter Try.func5, Try.ntmps5
  go_wp2_with (first
    | (go_at_call 6; (with_reducible refine (LNew_calls _).mono ?_); rintro e w1 ⟨b, hb0, rfl, h1, f0⟩; have f1 := below_frm0 (Below.refl w.heap.size w) f0; clear f0; simp [lgNew] at h1)
    | (go_at_call 14; (with_reducible refine (Worst_calls b _ _ h1).mono ?_); rintro e w' ⟨rfl, rfl⟩)
    | (go_at_call 12; (with_reducible refine (Len_calls b _ _ h1).mono ?_); rintro e w' ⟨rfl, rfl⟩)
    | (go_at_call 15; (with_reducible refine (Mask_calls b _ _ h1).mono ?_); rintro e w' ⟨rfl, f'⟩; have h' := h1.frm f' (fun h => h); have f2 := below_frm0 f1 f'; clear f1 f' h1; have f1 := f2; clear f2; have h1 := h'; clear h')
    | (go_at_call 17; (with_reducible refine (Ever_calls b _ _ h1).mono ?_); rintro e w' ⟨rfl, f'⟩; have h' := h1.frm f' (fun h => h); have f2 := below_frm0 f1 f'; clear f1 f' h1; have f1 := f2; clear f2; have h1 := h'; clear h')
    | (go_at_call 9; (with_reducible refine (Begin_calls b _ _ h1 _ (by omega)).mono ?_); rintro e w' ⟨rfl, h', f'⟩; have f2 := below_frm1 f1 f' hb0; clear f1 f' h1; have f1 := f2; clear f2; have h1 := h'; clear h'; simp [Lg.begun, Lg.begins, Lg.at_, Lg.put, Lg.len, cnt] at h1)
    | (go_at_call 7; (with_reducible refine (End_calls b _ _ h1 _ (by omega)).mono ?_); rintro e w' ⟨rfl, h', f'⟩; have f2 := below_frm1 f1 f' hb0; clear f1 f' h1; have f1 := f2; clear f2; have h1 := h'; clear h'; simp [Lg.ended, Lg.at_, Lg.out] at h1))
  go_ret
  exact ⟨rfl, f1⟩
end Go.Proofs.Ytmfklfgddblmdaa
