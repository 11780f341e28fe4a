/- 'known' of layer 17 returns true. -/
import Derived.Test.YtcdnojmmkkfdnaaEstim
namespace Go.Proofs.Ytcdnojmmkkfdnaa
open Go.RowKit
attribute [local go_sem] Es.add Es.takes Es.set Es.at_ Es.cnt Es.top esNew
set_option maxHeartbeats 2000000 in
theorem known_calls (w : World) : Calls Try.prog 6 #[] w fun e w' => e = .returned (.bool true) ∧ Below w.heap.size w w' := by
  go_enter Try.func6, Try.ntmps6
  go_wp2_with (first
    | (go_at_call 7; (with_reducible refine (ENew_calls 1 2 _).mono ?_); rintro e w1 ⟨b, hb0, rfl, h1, f0⟩; have f1 := below_frm0 (Below.refl w.heap.size w) f0; clear f0; simp [esNew] at h1)
    | (go_at_call 12; (with_reducible refine (Has_calls b _ _ h1 _ (by omega)).mono ?_); rintro e w' ⟨rfl, rfl⟩)
    | (go_at_call 13; (with_reducible refine (Len_calls b _ _ h1).mono ?_); rintro e w' ⟨rfl, f'⟩; have h' := h1.frm f' (fun h => h); have f2 := below_frm0 f1 f'; clear f1 f' h1; have f1 := f2; clear f2; have h1 := h'; clear h')
    | (go_at_call 10; (with_reducible refine (Bound_calls b _ _ h1 (by constructor <;> simp)).mono ?_); rintro e w' ⟨rfl, f'⟩; have h' := h1.frm f' (fun h => h); have f2 := below_frm0 f1 f'; clear f1 f' h1; have f1 := f2; clear f2; have h1 := h'; clear h')
    | (go_at_call 8; (with_reducible refine (Add_calls b _ _ h1 _ _ _ (by omega) (by omega)).mono ?_); rintro e w' ⟨rfl, h', f'⟩; have f2 := below_frm1 f1 f' hb0; clear f1 f' h1; have f1 := f2; clear f2; have h1 := h'; clear h'; simp [Es.add, Es.takes, Es.set, Es.at_] at h1))
  go_ret
  exact ⟨rfl, f1⟩
end Go.Proofs.Ytcdnojmmkkfdnaa
