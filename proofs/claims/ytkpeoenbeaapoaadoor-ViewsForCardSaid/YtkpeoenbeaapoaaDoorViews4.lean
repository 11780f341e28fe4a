/- Votes: For, Wait. -/
import Derived.Test.YtkpeoenbeaapoaaDoorViews3
import Derived.Test.YtkpeoenbeaapoaaDoorOwnV
namespace Go.Proofs.YtkpeoenbeaapoaaDoor
open Go.RowKit Go.ChangeShapes
set_option linter.unusedVariables false
set_option linter.unusedSimpArgs false
set_option maxRecDepth 100000
def isF (view : Int) (p : Vt) : Bool := decide (p.2.2 = view ∧ 0 < view)
def fF (view : Int) (l : List Vt) : List Vt := l.filter (isF view)
theorem fF_succ {view : Int} {l : List Vt} {k : Nat} {p : Vt} (hk : l[k]? = some p) : fF view (l.take (k + 1)) = fF view (l.take k) ++ if isF view p = true then [p] else [] := by
  unfold fF
  rw [List.take_add_one, hk, List.filter_append]
  show _ ++ List.filter (isF view) [p] = _
  cases h : isF view p
  · rw [if_neg (by decide), List.filter_cons_of_neg (by rw [h]; decide)]; rfl
  · rw [if_pos rfl, List.filter_cons_of_pos h]; rfl
theorem fF_yes {view : Int} {l : List Vt} {k : Nat} {p : Vt} (hk : l[k]? = some p) (h : p.2.2 = view) (h0 : 0 < view) : fF view (l.take (k + 1)) = fF view (l.take k) ++ [p] := by rw [fF_succ hk, if_pos (show isF view p = true from decide_eq_true ⟨h, h0⟩)]
theorem fF_no {view : Int} {l : List Vt} {k : Nat} {p : Vt} (hk : l[k]? = some p) (h : ¬ (p.2.2 = view ∧ 0 < view)) : fF view (l.take (k + 1)) = fF view (l.take k) := by rw [fF_succ hk, if_neg (show ¬ isF view p = true from fun e => h (of_decide_eq_true e)), List.append_nil]
theorem fF_len (view : Int) (l : List Vt) (k : Nat) (hk : k ≤ 4) : (fF view (l.take k)).length ≤ 100000 := by
  have h1 : (fF view (l.take k)).length ≤ (l.take k).length := List.length_filter_le _ _
  rw [List.length_take] at h1
  omega
set_option maxHeartbeats 16000000 in
theorem VFor_calls {w : World} {b : Nat} {f0 e0 v0 f1 e1 v1 f2 e2 v2 f3 e3 v3 : Int} (h : IsVs w b [(f0, e0, v0), (f1, e1, v1), (f2, e2, v2), (f3, e3, v3)]) (view : Int) (hv0 : 0 ≤ view) :
    Calls Tryd.prog 19 #[.pointer (some ⟨b, 0, none⟩), .int .u32 view] w fun e w' => ∃ ov, e = .returned ov ∧ OwnV w' (fun k => k < w.heap.size) ov (fF view [(f0, e0, v0), (f1, e1, v1), (f2, e2, v2), (f3, e3, v3)]) ∧ Frm (fun _ => False) w w' := by
  obtain ⟨Z, hZ⟩ : ∃ Z, (vsC [(f0, e0, v0), (f1, e1, v1), (f2, e2, v2), (f3, e3, v3)]).toArray = Z := ⟨_, rfl⟩
  have HZ := hid hZ
  have HX := hid h.range
  have HS := hid (vsize f0 e0 v0 f1 e1 v1 f2 e2 v2 f3 e3 v3)
  clear h hZ
  go_enter Tryd.func19, Tryd.ntmps19
  go_wp2_with ((with_reducible show wpList _ _ _ _ _ _); refine wpList_load_mid rfl TVr (.tmp 10) rfl b 0 rfl (vsC [(f0, e0, v0), (f1, e1, v1), (f2, e2, v2), (f3, e3, v3)]) (.array 4 TVt) HX.out Tryd.underlying40 rfl HS.out ?_; rw [HZ.out])
  go_loopw [5, 12] (fun lv iv wr => ∃ (k : Nat), k ≤ 4 ∧ OwnV wr (fun q => q < w.heap.size) lv (fF view ([(f0, e0, v0), (f1, e1, v1), (f2, e2, v2), (f3, e3, v3)].take k)) ∧ iv = .int .i64 k ∧ Frm (fun _ => False) w wr) (fun _ i _ => 4 - (intOf i).toNat)
  case atStart => exact ⟨0, by omega, OwnV.nil _ _, rfl, Frm.refl _ _⟩
  case round =>
    obtain ⟨k, hk, ho, rfl, hf⟩ := hrel
    have HF := hid hf; clear hf
    obtain ⟨oa, oc, hov⟩ := ho.slice
    subst hov
    have HO := hid ho; clear ho
    rcases (show k = 0 ∨ k = 1 ∨ k = 2 ∨ k = 3 ∨ k = 4 by omega) with rfl | rfl | rfl | rfl | rfl
    · have ix := fun w => vidx0 f0 e0 v0 f1 e1 v1 f2 e2 v2 f3 e3 v3 w
      rw [HZ.out] at ix
      clear hk
      by_cases hv : v0 = view
      · subst hv
        by_cases hp : 0 < v0
        · have HY := hid (fF_yes (view := v0) (l := [(f0, e0, v0), (f1, e1, v1), (f2, e2, v2), (f3, e3, v3)]) (k := 0) (p := (f0, e0, v0)) rfl rfl hp)
          go_wp2_with (first
            | (go_at_call 26; (with_reducible refine (Copied_calls _ f0 e0 v0).mono ?_); rintro e w9 ⟨rfl, f'⟩; have HF2 := hid ((HF.out.alloc _).trans f'); have HO2 := hid ((HO.out.quiet (vbox _ _)).quiet f'); clear HF HO f'; have HF := HF2; have HO := HO2; clear HF2 HO2)
            | (at_builtin; refine wpList_moreV (f0, e0, v0) rfl _ _ rfl rfl (HO.out.quiet (vbox _ _)) (fun k hk => by have := HF.out.size; simp; omega) (Blk.new w9 (vpC (f0, e0, v0)) TVt) (fF_len _ _ _ (by decide)) rfl rfl ?_; intro v' w5 ho' hf' hat'; have HF2 := hid ((HF.out.alloc _).trans' hf' (fun k hk e => HO.out.off k e hk)); clear HO HF hf' hat'; have HO := hid ho'; have HF := HF2; clear ho' HF2))
          go_roundw
          case rel => exact ⟨1, by omega, by rw [HY.out]; exact HO.out, rfl, HF.out⟩
          case measure => simp [intOf]
        · have HNO := hid (show ¬ (v0 = v0 ∧ 0 < v0) from fun e => hp e.2)
          go_wp2
          go_roundw
          case rel => exact ⟨1, by omega, by rw [fF_no (k := 0) (p := (f0, e0, v0)) rfl HNO.out]; exact HO.out.quiet (vbox _ _), rfl, HF.out.alloc _⟩
          case measure => simp [intOf]
      · have z1 : (v0 == view) = false := beq_eq_false_iff_ne.2 hv
        have HNO := hid (show ¬ (v0 = view ∧ 0 < view) from fun e => hv e.1)
        go_wp2
        go_roundw
        case rel => exact ⟨1, by omega, by rw [fF_no (k := 0) (p := (f0, e0, v0)) rfl HNO.out]; exact HO.out.quiet (vbox _ _), rfl, HF.out.alloc _⟩
        case measure => simp [intOf]
    · have ix := fun w => vidx1 f0 e0 v0 f1 e1 v1 f2 e2 v2 f3 e3 v3 w
      rw [HZ.out] at ix
      clear hk
      by_cases hv : v1 = view
      · subst hv
        by_cases hp : 0 < v1
        · have HY := hid (fF_yes (view := v1) (l := [(f0, e0, v0), (f1, e1, v1), (f2, e2, v2), (f3, e3, v3)]) (k := 1) (p := (f1, e1, v1)) rfl rfl hp)
          go_wp2_with (first
            | (go_at_call 26; (with_reducible refine (Copied_calls _ f1 e1 v1).mono ?_); rintro e w9 ⟨rfl, f'⟩; have HF2 := hid ((HF.out.alloc _).trans f'); have HO2 := hid ((HO.out.quiet (vbox _ _)).quiet f'); clear HF HO f'; have HF := HF2; have HO := HO2; clear HF2 HO2)
            | (at_builtin; refine wpList_moreV (f1, e1, v1) rfl _ _ rfl rfl (HO.out.quiet (vbox _ _)) (fun k hk => by have := HF.out.size; simp; omega) (Blk.new w9 (vpC (f1, e1, v1)) TVt) (fF_len _ _ _ (by decide)) rfl rfl ?_; intro v' w5 ho' hf' hat'; have HF2 := hid ((HF.out.alloc _).trans' hf' (fun k hk e => HO.out.off k e hk)); clear HO HF hf' hat'; have HO := hid ho'; have HF := HF2; clear ho' HF2))
          go_roundw
          case rel => exact ⟨2, by omega, by rw [HY.out]; exact HO.out, rfl, HF.out⟩
          case measure => simp [intOf]
        · have HNO := hid (show ¬ (v1 = v1 ∧ 0 < v1) from fun e => hp e.2)
          go_wp2
          go_roundw
          case rel => exact ⟨2, by omega, by rw [fF_no (k := 1) (p := (f1, e1, v1)) rfl HNO.out]; exact HO.out.quiet (vbox _ _), rfl, HF.out.alloc _⟩
          case measure => simp [intOf]
      · have z1 : (v1 == view) = false := beq_eq_false_iff_ne.2 hv
        have HNO := hid (show ¬ (v1 = view ∧ 0 < view) from fun e => hv e.1)
        go_wp2
        go_roundw
        case rel => exact ⟨2, by omega, by rw [fF_no (k := 1) (p := (f1, e1, v1)) rfl HNO.out]; exact HO.out.quiet (vbox _ _), rfl, HF.out.alloc _⟩
        case measure => simp [intOf]
    · have ix := fun w => vidx2 f0 e0 v0 f1 e1 v1 f2 e2 v2 f3 e3 v3 w
      rw [HZ.out] at ix
      clear hk
      by_cases hv : v2 = view
      · subst hv
        by_cases hp : 0 < v2
        · have HY := hid (fF_yes (view := v2) (l := [(f0, e0, v0), (f1, e1, v1), (f2, e2, v2), (f3, e3, v3)]) (k := 2) (p := (f2, e2, v2)) rfl rfl hp)
          go_wp2_with (first
            | (go_at_call 26; (with_reducible refine (Copied_calls _ f2 e2 v2).mono ?_); rintro e w9 ⟨rfl, f'⟩; have HF2 := hid ((HF.out.alloc _).trans f'); have HO2 := hid ((HO.out.quiet (vbox _ _)).quiet f'); clear HF HO f'; have HF := HF2; have HO := HO2; clear HF2 HO2)
            | (at_builtin; refine wpList_moreV (f2, e2, v2) rfl _ _ rfl rfl (HO.out.quiet (vbox _ _)) (fun k hk => by have := HF.out.size; simp; omega) (Blk.new w9 (vpC (f2, e2, v2)) TVt) (fF_len _ _ _ (by decide)) rfl rfl ?_; intro v' w5 ho' hf' hat'; have HF2 := hid ((HF.out.alloc _).trans' hf' (fun k hk e => HO.out.off k e hk)); clear HO HF hf' hat'; have HO := hid ho'; have HF := HF2; clear ho' HF2))
          go_roundw
          case rel => exact ⟨3, by omega, by rw [HY.out]; exact HO.out, rfl, HF.out⟩
          case measure => simp [intOf]
        · have HNO := hid (show ¬ (v2 = v2 ∧ 0 < v2) from fun e => hp e.2)
          go_wp2
          go_roundw
          case rel => exact ⟨3, by omega, by rw [fF_no (k := 2) (p := (f2, e2, v2)) rfl HNO.out]; exact HO.out.quiet (vbox _ _), rfl, HF.out.alloc _⟩
          case measure => simp [intOf]
      · have z1 : (v2 == view) = false := beq_eq_false_iff_ne.2 hv
        have HNO := hid (show ¬ (v2 = view ∧ 0 < view) from fun e => hv e.1)
        go_wp2
        go_roundw
        case rel => exact ⟨3, by omega, by rw [fF_no (k := 2) (p := (f2, e2, v2)) rfl HNO.out]; exact HO.out.quiet (vbox _ _), rfl, HF.out.alloc _⟩
        case measure => simp [intOf]
    · have ix := fun w => vidx3 f0 e0 v0 f1 e1 v1 f2 e2 v2 f3 e3 v3 w
      rw [HZ.out] at ix
      clear hk
      by_cases hv : v3 = view
      · subst hv
        by_cases hp : 0 < v3
        · have HY := hid (fF_yes (view := v3) (l := [(f0, e0, v0), (f1, e1, v1), (f2, e2, v2), (f3, e3, v3)]) (k := 3) (p := (f3, e3, v3)) rfl rfl hp)
          go_wp2_with (first
            | (go_at_call 26; (with_reducible refine (Copied_calls _ f3 e3 v3).mono ?_); rintro e w9 ⟨rfl, f'⟩; have HF2 := hid ((HF.out.alloc _).trans f'); have HO2 := hid ((HO.out.quiet (vbox _ _)).quiet f'); clear HF HO f'; have HF := HF2; have HO := HO2; clear HF2 HO2)
            | (at_builtin; refine wpList_moreV (f3, e3, v3) rfl _ _ rfl rfl (HO.out.quiet (vbox _ _)) (fun k hk => by have := HF.out.size; simp; omega) (Blk.new w9 (vpC (f3, e3, v3)) TVt) (fF_len _ _ _ (by decide)) rfl rfl ?_; intro v' w5 ho' hf' hat'; have HF2 := hid ((HF.out.alloc _).trans' hf' (fun k hk e => HO.out.off k e hk)); clear HO HF hf' hat'; have HO := hid ho'; have HF := HF2; clear ho' HF2))
          go_roundw
          case rel => exact ⟨4, by omega, by rw [HY.out]; exact HO.out, rfl, HF.out⟩
          case measure => simp [intOf]
        · have HNO := hid (show ¬ (v3 = v3 ∧ 0 < v3) from fun e => hp e.2)
          go_wp2
          go_roundw
          case rel => exact ⟨4, by omega, by rw [fF_no (k := 3) (p := (f3, e3, v3)) rfl HNO.out]; exact HO.out.quiet (vbox _ _), rfl, HF.out.alloc _⟩
          case measure => simp [intOf]
      · have z1 : (v3 == view) = false := beq_eq_false_iff_ne.2 hv
        have HNO := hid (show ¬ (v3 = view ∧ 0 < view) from fun e => hv e.1)
        go_wp2
        go_roundw
        case rel => exact ⟨4, by omega, by rw [fF_no (k := 3) (p := (f3, e3, v3)) rfl HNO.out]; exact HO.out.quiet (vbox _ _), rfl, HF.out.alloc _⟩
        case measure => simp [intOf]
    · clear hk
      go_wp2
      go_ret
      exact ⟨_, rfl, HO.out, HF.out⟩
theorem Double_one (w : World) (k n : Nat) (K : Int) (hK : K = k) (hk : k = 2 ∧ n = 16 ∨ k = 0 ∧ n = 4 ∨ k = 99 ∧ n = 256) : Calls Tryd.prog 29 #[.int .u32 4, .int .i64 K] w fun e w' => e = .returned (.int .u32 n) ∧ w = w' := by
  rcases hk with ⟨rfl, rfl⟩ | ⟨rfl, rfl⟩ | ⟨rfl, rfl⟩ <;>
  · subst hK
    go_enter Tryd.func29, Tryd.ntmps29
    go_wp2
    go_ret
    exact ⟨rfl, by first | rfl | trivial⟩
theorem Wait_one (w : World) (k n : Nat) (K : Int) (hK : K = k) (hk : k = 2 ∧ n = 16 ∨ k = 0 ∧ n = 4 ∨ k = 99 ∧ n = 256) : Calls Tryd.prog 23 #[.int .i64 K] w fun e w' => e = .returned (.int .u32 n) ∧ w = w' := by
  have HK := hid hK; have HH := hid hk
  clear hK hk
  go_enter Tryd.func23, Tryd.ntmps23
  go_wp2_with (go_at_call 29; (with_reducible refine (Double_one _ k n K HK.out HH.out).mono ?_); rintro e w' ⟨rfl, rfl⟩; skip)
  go_ret
  exact ⟨rfl, by first | rfl | trivial⟩
end Go.Proofs.YtkpeoenbeaapoaaDoor
