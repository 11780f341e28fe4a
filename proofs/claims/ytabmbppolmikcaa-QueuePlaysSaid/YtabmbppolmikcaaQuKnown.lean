/- 'known' of layer 19 returns true. -/
import Derived.Test.YtabmbppolmikcaaQuAll
namespace Go.Proofs.Ytabmbppolmikcaa
open Go.RowKit Go.ChangeShapes
set_option linter.unusedVariables false
set_option linter.unusedSimpArgs false
set_option maxRecDepth 100000
theorem HPut_calls (w : World) (c t y v : Int) : Calls Try.prog 9 #[.int .u8 c, .int .u32 t, .int .u8 y, .int .u16 v] w fun e w' =>
    e = .returned (.agg #[.int .u8 c, .int .u32 t, .int .u8 1, .int .u8 y, .int .u16 v]) ∧ Frm (fun _ => False) w w' := by
  go_enter Try.func9, Try.ntmps9
  go_wp2
  refine bodyPost_ret (results_cell_row (P := Try.prog) rfl _ _ w.heap.size TRq #[.int .u8 c, .int .u32 t, .int .u8 1, .int .u8 y, .int .u16 v] (0, 0) _ rfl (heap_alloc_new w _) Try.underlying33 rfl (by kernel_rfl)) rfl ?_
  exact ⟨rfl, (Frm.refl _ _).alloc _⟩
set_option maxHeartbeats 8000000 in
theorem known_calls (w : World) : Calls Try.prog 6 #[] w fun e w' => e = .returned (.bool true) ∧ Frm (fun _ => False) w w' := by
  have KO0 := hid (show RqOk ⟨1, 1, 1, 2, 3⟩ from ⟨by decide, by decide, by decide, by decide, by decide⟩); have KO1 := hid (show RqOk ⟨2, 1, 1, 2, 3⟩ from ⟨by decide, by decide, by decide, by decide, by decide⟩); have KO2 := hid (show RqOk ⟨1, 2, 1, 2, 3⟩ from ⟨by decide, by decide, by decide, by decide, by decide⟩); have KO3 := hid (show RqOk ⟨1, 2, 1, 4, 3⟩ from ⟨by decide, by decide, by decide, by decide, by decide⟩); have KO4 := hid (show RqOk ⟨0, 0, 0, 0, 0⟩ from ⟨by decide, by decide, by decide, by decide, by decide⟩)
  have KP0 := hid (show putB ([] : List Qe) ⟨1, 1, 1, 2, 3⟩ = true by decide); have KP1 := hid (show putB ([(⟨1, 1, 1, 2, 3⟩, 0)] : List Qe) ⟨2, 1, 1, 2, 3⟩ = true by decide); have KP2 := hid (show putB ([(⟨1, 1, 1, 2, 3⟩, 0), (⟨2, 1, 1, 2, 3⟩, 1)] : List Qe) ⟨1, 2, 1, 2, 3⟩ = true by decide); have KP3 := hid (show putB ([(⟨2, 1, 1, 2, 3⟩, 1), (⟨1, 2, 1, 2, 3⟩, 2)] : List Qe) ⟨1, 2, 1, 4, 3⟩ = false by decide); have KP4 := hid (show putB ([(⟨2, 1, 1, 2, 3⟩, 1), (⟨1, 2, 1, 2, 3⟩, 2)] : List Qe) ⟨0, 0, 0, 0, 0⟩ = false by decide)
  have KH := hid (show hasB ([(⟨2, 1, 1, 2, 3⟩, 1), (⟨1, 2, 1, 2, 3⟩, 2)] : List Qe) ⟨1, 2, 1, 2, 3⟩ = true by decide)
  go_enter Try.func6, Try.ntmps6
  go_wp2_with (first
    | (go_at_call 7; (with_reducible refine (QNew_calls w).mono ?_); rintro e w' ⟨rfl, hq, f'⟩; have HQ0 := hid hq; have HF := hid f'; clear hq f')
    | (go_at_call 9; (with_reducible refine (HPut_calls _ 1 1 2 3).mono ?_); rintro e w' ⟨rfl, f'⟩; have n_ := hid (HQ0.out.quiet f'); have m_ := hid (HF.out.trans f'); clear HQ0 HF f'; have HQ0 := n_; have HF := m_; clear n_ m_)
    | (go_at_call 8; (with_reducible refine (Put_yes HQ0.out (by decide) ⟨1, 1, 1, 2, 3⟩ KO0.out KP0.out).mono ?_); rintro e w' ⟨rfl, hq, f'⟩; have HQ1 := hid (show IsQ w' (w.heap.size + 1) w.heap.size ([(⟨1, 1, 1, 2, 3⟩, 0)] : List Qe) 1 from hq); have m_ := hid (HF.out.trans' f' (fun i hi e => by rcases e with e | e <;> omega)); clear HQ0 HF f' hq; have HF := m_; clear m_)
    | (go_at_call 9; (with_reducible refine (HPut_calls _ 2 1 2 3).mono ?_); rintro e w' ⟨rfl, f'⟩; have n_ := hid (HQ1.out.quiet f'); have m_ := hid (HF.out.trans f'); clear HQ1 HF f'; have HQ1 := n_; have HF := m_; clear n_ m_)
    | (go_at_call 8; (with_reducible refine (Put_yes HQ1.out (by decide) ⟨2, 1, 1, 2, 3⟩ KO1.out KP1.out).mono ?_); rintro e w' ⟨rfl, hq, f'⟩; have HQ2 := hid (show IsQ w' (w.heap.size + 1) w.heap.size ([(⟨1, 1, 1, 2, 3⟩, 0), (⟨2, 1, 1, 2, 3⟩, 1)] : List Qe) 2 from hq); have m_ := hid (HF.out.trans' f' (fun i hi e => by rcases e with e | e <;> omega)); clear HQ1 HF f' hq; have HF := m_; clear m_)
    | (go_at_call 9; (with_reducible refine (HPut_calls _ 1 2 2 3).mono ?_); rintro e w' ⟨rfl, f'⟩; have n_ := hid (HQ2.out.quiet f'); have m_ := hid (HF.out.trans f'); clear HQ2 HF f'; have HQ2 := n_; have HF := m_; clear n_ m_)
    | (go_at_call 8; (with_reducible refine (Put_yes HQ2.out (by decide) ⟨1, 2, 1, 2, 3⟩ KO2.out KP2.out).mono ?_); rintro e w' ⟨rfl, hq, f'⟩; have HQ3 := hid (show IsQ w' (w.heap.size + 1) w.heap.size ([(⟨2, 1, 1, 2, 3⟩, 1), (⟨1, 2, 1, 2, 3⟩, 2)] : List Qe) 3 from hq); have m_ := hid (HF.out.trans' f' (fun i hi e => by rcases e with e | e <;> omega)); clear HQ2 HF f' hq; have HF := m_; clear m_)
    | (go_at_call 9; (with_reducible refine (HPut_calls _ 1 2 4 3).mono ?_); rintro e w' ⟨rfl, f'⟩; have n_ := hid (HQ3.out.quiet f'); have m_ := hid (HF.out.trans f'); clear HQ3 HF f'; have HQ3 := n_; have HF := m_; clear n_ m_)
    | (go_at_call 8; (with_reducible refine (Put_no HQ3.out (by decide) ⟨1, 2, 1, 4, 3⟩ KO3.out KP3.out).mono ?_); rintro e w' ⟨rfl, hq, f'⟩; have HQ4 := hid hq; have m_ := hid (HF.out.trans f'); clear HQ3 HF f' hq; have HF := m_; clear m_)
    | (go_at_call 16; (with_reducible refine (First_some HQ4.out).mono ?_); rintro e w6 ⟨rfl, f'⟩; have HQ5 := hid (fun o => (HQ4.out.quiet f').quiet (qbox _ o)); have m_ := hid (fun o => (HF.out.trans f').trans (qbox _ o)); clear HQ4 HF f'; have HF5 := m_; clear m_)
    | (go_at_call 11; (with_reducible refine (QLen_calls (HQ5.out _)).mono ?_); rintro e w' ⟨rfl, rfl⟩; skip)
    | (go_at_call 9; (with_reducible refine (HPut_calls _ 1 2 2 3).mono ?_); rintro e w7 ⟨rfl, f'⟩; have HQ6 := hid ((HQ5.out _).quiet f'); have HF6 := hid ((HF5.out _).trans f'); clear HQ5 HF5 f')
    | (go_at_call 12; (with_reducible refine (QHas_calls HQ6.out ⟨1, 2, 1, 2, 3⟩ KO2.out true KH.out).mono ?_); rintro e w8 ⟨rfl, f'⟩; have HQ7 := hid (HQ6.out.quiet f'); have HF7 := hid (HF6.out.trans f'); clear HQ6 HF6 f')
    | (go_at_call 8; (with_reducible refine (Put_no HQ7.out (by decide) ⟨0, 0, 0, 0, 0⟩ KO4.out KP4.out).mono ?_); rintro e w9 ⟨rfl, hq, f'⟩; have HF8 := hid (HF7.out.trans f'); clear f' hq))
  go_ret
  exact ⟨rfl, HF8.out⟩
end Go.Proofs.Ytabmbppolmikcaa
