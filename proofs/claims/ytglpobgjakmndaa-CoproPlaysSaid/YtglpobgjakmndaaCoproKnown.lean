/- 'known' of layer 5 returns true. -/
import Derived.Test.YtglpobgjakmndaaCopro
namespace Go.Proofs.Ytglpobgjakmndaa
open Go.RowKit
attribute [local go_sem] Cp.next Cp.ends Cp.meets Cp.met Cp.set Cp.peer Cp.raise cpNew
set_option maxHeartbeats 2000000 in
theorem known_calls (w : World) : Calls Try.prog 7 #[] w fun e w' => e = .returned (.bool true) ∧ Below w.heap.size w w' := by
  go_enter Try.func7, Try.ntmps7
  go_wp2_with (first
    | (go_at_call 8; (with_reducible refine (New_calls 2 _).mono ?_); rintro e w1 ⟨b, hb0, rfl, h1, f0⟩; have f1 := below_frm0 (Below.refl w.heap.size w) f0; clear f0; simp [cpNew] at h1)
    | (go_at_call 13; (with_reducible refine (Epoch_calls b _ _ h1).mono ?_); rintro e w' ⟨rfl, rfl⟩)
    | (go_at_call 10; (with_reducible refine (Peer_calls b _ _ h1 _ (by omega)).mono ?_); rintro e w' ⟨rfl, rfl⟩)
    | (go_at_call 15; (with_reducible refine (Next_calls b _ _ h1 (by simp)).mono ?_); rintro e w' ⟨rfl, h', f'⟩; have f2 := below_frm1 f1 f' hb0; clear f1 f' h1; have f1 := f2; clear f2; have h1 := h'; clear h'; simp [Cp.next, Cp.ends] at h1)
    | (go_at_call 9; (with_reducible refine (Meet_calls b _ _ h1 _ _ (by omega)).mono ?_); rintro e w' ⟨rfl, h', f'⟩; have f2 := below_frm1 f1 f' hb0; clear f1 f' h1; have f1 := f2; clear f2; have h1 := h'; clear h'; simp [Cp.met, Cp.meets, Cp.set, Cp.peer] at h1))
  go_ret
  exact ⟨rfl, f1⟩
end Go.Proofs.Ytglpobgjakmndaa
