/- Votes: what every statement asks first. -/
import Derived.Test.YtkpeoenbeaapoaaDoorViews4
import Derived.Test.YtkpeoenbeaapoaaDoorHeld
namespace Go.Proofs.YtkpeoenbeaapoaaDoor
open Go.RowKit Go.ChangeShapes
set_option linter.unusedVariables false
set_option linter.unusedSimpArgs false
set_option maxRecDepth 100000
theorem VJoin_yes {w : World} {b : Nat} {f0 e0 v0 f1 e1 v1 f2 e2 v2 f3 e3 v3 : Int} (h : IsVs w b [(f0, e0, v0), (f1, e1, v1), (f2, e2, v2), (f3, e3, v3)]) (view : Int) (n : Nat) (l : Int) (hj : jAll view [v0, v1, v2, v3] = (n, l)) (hn : 2 ≤ n) :
    Calls Tryd.prog 10 #[.pointer (some ⟨b, 0, none⟩), .int .u32 view] w fun e w' => e = .returned (.tuple #[.int .u32 l, .bool true]) ∧ Frm (fun _ => False) w w' := by
  have := VJoin_calls h view n l hj
  rw [if_pos hn, decide_eq_true hn] at this
  exact this
theorem VJoin_no {w : World} {b : Nat} {f0 e0 v0 f1 e1 v1 f2 e2 v2 f3 e3 v3 : Int} (h : IsVs w b [(f0, e0, v0), (f1, e1, v1), (f2, e2, v2), (f3, e3, v3)]) (view : Int) (n : Nat) (l : Int) (hj : jAll view [v0, v1, v2, v3] = (n, l)) (hn : ¬ 2 ≤ n) :
    Calls Tryd.prog 10 #[.pointer (some ⟨b, 0, none⟩), .int .u32 view] w fun e w' => e = .returned (.tuple #[.int .u32 0, .bool false]) ∧ Frm (fun _ => False) w w' := by
  have := VJoin_calls h view n l hj
  rw [if_neg hn, decide_eq_false hn] at this
  exact this
theorem VFor_one {w : World} {b : Nat} {f0 e0 v0 f1 e1 v1 f2 e2 v2 f3 e3 v3 : Int} (h : IsVs w b [(f0, e0, v0), (f1, e1, v1), (f2, e2, v2), (f3, e3, v3)]) (view : Int) (hv0 : 0 ≤ view) (p : Vt) (hp : fF view [(f0, e0, v0), (f1, e1, v1), (f2, e2, v2), (f3, e3, v3)] = [p]) :
    Calls Tryd.prog 19 #[.pointer (some ⟨b, 0, none⟩), .int .u32 view] w fun e w' => (∃ oa oc, e = .returned (.slice oa 1 oc)) ∧ Frm (fun _ => False) w w' := by
  refine (VFor_calls h view hv0).mono ?_
  rintro e w' ⟨ov, rfl, ho, hf⟩
  obtain ⟨oa, oc, rfl⟩ := ho.slice
  rw [hp]
  exact ⟨⟨oa, oc, rfl⟩, hf⟩
set_option maxHeartbeats 8000000 in
theorem known_calls (w : World) : Calls Tryd.prog 6 #[] w fun e w' => e = .returned (.bool true) ∧ Frm (fun _ => False) w w' := by
  go_enter Tryd.func6, Tryd.ntmps6
  go_wp2_with (first
    | (go_at_call 7; (with_reducible refine (VNew_calls _).mono ?_); rintro e w1 ⟨rfl, hv, hf⟩; have HV := hid hv; have HF := hid hf; have HNB := hid (rfl : w1 = w1); clear hv hf HNB)
    | (go_at_call 9; (with_reducible refine (Vote_calls _ _ _).mono ?_); rintro e w2 ⟨rfl, f'⟩; have HV2 := hid (HV.out.frm f' (fun h => h)); have HF2 := hid (HF.out.trans f'); clear HV HF f'; have HV := HV2; have HF := HF2; clear HV2 HF2)
    | (go_at_call 8; (with_reducible refine (VAdd_bad (T := [((0 : Int), (0 : Int), (0 : Int)), (1, 1, 3), (2, 1, 5), (0, 0, 0)]) HV.out 2 (by decide) 2 rfl 0 rfl).mono ?_); rintro e w3 ⟨rfl, he, f'⟩; have HV2 := hid (show IsVs w3 w.heap.size [((0 : Int), (0 : Int), (0 : Int)), (1, 1, 3), (2, 1, 5), (0, 0, 0)] from he); have HF2 := hid (HF.out.trans f'); clear HV HF he f'; have HV := HV2; have HF := HF2; clear HV2 HF2)
    | (go_at_call 8; (with_reducible refine (VAdd_old (T := [((0 : Int), (0 : Int), (0 : Int)), (1, 1, 3), (2, 1, 5), (0, 0, 0)]) HV.out 2 (by decide) 2 rfl 5 (by decide) 2 1 5 rfl (by decide)).mono ?_); rintro e w3 ⟨rfl, he, f'⟩; have HV2 := hid (show IsVs w3 w.heap.size [((0 : Int), (0 : Int), (0 : Int)), (1, 1, 3), (2, 1, 5), (0, 0, 0)] from he); have HF2 := hid (HF.out.trans f'); clear HV HF he f'; have HV := HV2; have HF := HF2; clear HV2 HF2)
    | (go_at_call 8; (with_reducible refine (VAdd_new (T := [((0 : Int), (0 : Int), (0 : Int)), (1, 1, 3), (0, 0, 0), (0, 0, 0)]) HV.out 2 (by decide) 2 rfl 5 (by decide) 0 0 0 rfl (by decide)).mono ?_); rintro e w3 ⟨rfl, he, f'⟩; have HV2 := hid (show IsVs w3 w.heap.size [((0 : Int), (0 : Int), (0 : Int)), (1, 1, 3), (2, 1, 5), (0, 0, 0)] from he); have HF2 := hid (HF.out.trans' f' (fun k hk e => Nat.lt_irrefl _ (e ▸ hk))); clear HV HF he f'; have HV := HV2; have HF := HF2; clear HV2 HF2)
    | (go_at_call 8; (with_reducible refine (VAdd_new (T := VT0) HV.out 1 (by decide) 1 rfl 3 (by decide) 0 0 0 rfl (by decide)).mono ?_); rintro e w3 ⟨rfl, he, f'⟩; have HV2 := hid (show IsVs w3 w.heap.size [((0 : Int), (0 : Int), (0 : Int)), (1, 1, 3), (0, 0, 0), (0, 0, 0)] from he); have HF2 := hid (HF.out.trans' f' (fun k hk e => Nat.lt_irrefl _ (e ▸ hk))); clear HV HF he f'; have HV := HV2; have HF := HF2; clear HV2 HF2)
    | (go_at_call 10; (with_reducible refine (VJoin_yes HV.out 0 2 3 rfl (by decide)).mono ?_); rintro e w2 ⟨rfl, f'⟩; have HV2 := hid (HV.out.frm f' (fun h => h)); have HF2 := hid (HF.out.trans f'); clear HV HF f'; have HV := HV2; have HF := HF2; clear HV2 HF2)
    | (go_at_call 10; (with_reducible refine (VJoin_no HV.out 3 1 5 rfl (by decide)).mono ?_); rintro e w2 ⟨rfl, f'⟩; have HV2 := hid (HV.out.frm f' (fun h => h)); have HF2 := hid (HF.out.trans f'); clear HV HF f'; have HV := HV2; have HF := HF2; clear HV2 HF2)
    | (go_at_call 19; (with_reducible refine (VFor_one HV.out 5 (by decide) (2, 1, 5) rfl).mono ?_); rintro e w2 ⟨⟨oa, oc, rfl⟩, f'⟩; have HV2 := hid (HV.out.frm f' (fun h => h)); have HF2 := hid (HF.out.trans f'); clear HV HF f'; have HV := HV2; have HF := HF2; clear HV2 HF2)
    | (go_at_call 21; (with_reducible refine (VTop_calls HV.out 1 1 rfl _ rfl 3 rfl).mono ?_); rintro e w2 ⟨rfl, rfl⟩; skip)
    | (go_at_call 23; (with_reducible refine (Wait_one _ 2 16 2 rfl (.inl ⟨rfl, rfl⟩)).mono ?_); rintro e w2 ⟨rfl, rfl⟩; skip))
  go_ret
  exact ⟨rfl, HF.out⟩
end Go.Proofs.YtkpeoenbeaapoaaDoor
