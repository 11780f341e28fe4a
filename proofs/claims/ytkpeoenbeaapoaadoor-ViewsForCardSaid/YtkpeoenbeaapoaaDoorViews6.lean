/- Votes: Drop, Forget. -/
import Derived.Test.YtkpeoenbeaapoaaDoorViews3
import Derived.Deep.MidRow
namespace Go.Proofs.YtkpeoenbeaapoaaDoor
open Go.RowKit Go.ChangeShapes
set_option linter.unusedVariables false
set_option linter.unusedSimpArgs false
set_option maxRecDepth 100000
theorem vidx {f0 e0 v0 f1 e1 v1 f2 e2 v2 f3 e3 v3 : Int} (k : Nat) (hk : k < 4) (p : Vt) (hp : [(f0, e0, v0), (f1, e1, v1), (f2, e2, v2), (f3, e3, v3)][k]? = some p) (w : World) : (Instr.index TVr (.agg (vsC [(f0, e0, v0), (f1, e1, v1), (f2, e2, v2), (f3, e3, v3)]).toArray) (.int .i64 k)).run Tryd.prog w = .ok (.agg #[.int .u8 p.1, .int .u8 p.2.1, .int .u32 p.2.2, .int .u32 0, .slice none 0 0, .slice none 0 0, .slice none 0 0]) w := by
  rcases (show k = 0 ∨ k = 1 ∨ k = 2 ∨ k = 3 by omega) with rfl | rfl | rfl | rfl <;>
    simp only [List.getElem?_cons_succ, List.getElem?_cons_zero, Option.some.injEq] at hp <;> subst hp
  · exact vidx0 f0 e0 v0 f1 e1 v1 f2 e2 v2 f3 e3 v3 w
  · exact vidx1 f0 e0 v0 f1 e1 v1 f2 e2 v2 f3 e3 v3 w
  · exact vidx2 f0 e0 v0 f1 e1 v1 f2 e2 v2 f3 e3 v3 w
  · exact vidx3 f0 e0 v0 f1 e1 v1 f2 e2 v2 f3 e3 v3 w
def dP (view : Int) (p : Vt) : Vt := if p.2.2 ≤ view then (0, 0, 0) else p
def dT (view : Int) (l : List Vt) (k : Nat) : List Vt := (l.take k).map (dP view) ++ l.drop k
theorem dT_at (view : Int) (l : List Vt) (k : Nat) (p : Vt) (h : l[k]? = some p) : (dT view l k)[k]? = some p := by
  have hl : k < l.length := (List.getElem?_eq_some_iff.1 h).1
  unfold dT
  rw [List.getElem?_append_right (by rw [List.length_map, List.length_take]; omega), List.length_map, List.length_take, Nat.min_eq_left (Nat.le_of_lt hl), Nat.sub_self, List.getElem?_drop, Nat.add_zero, h]
theorem dT_succ (view : Int) (l : List Vt) (k : Nat) (p : Vt) (h : l[k]? = some p) : dT view l (k + 1) = (dT view l k).set k (dP view p) := by
  have hl : k < l.length := (List.getElem?_eq_some_iff.1 h).1
  have hp : l[k] = p := (List.getElem?_eq_some_iff.1 h).2
  unfold dT
  rw [List.set_append_right _ _ (by rw [List.length_map, List.length_take]; omega), List.length_map, List.length_take, Nat.min_eq_left (Nat.le_of_lt hl), Nat.sub_self, List.take_add_one, h, List.map_append, List.append_assoc, List.drop_eq_getElem_cons hl]
  rfl
theorem set_same {l : List Vt} {k : Nat} {p : Vt} (h : l[k]? = some p) : l.set k p = l := by
  have hl : k < l.length := (List.getElem?_eq_some_iff.1 h).1
  have hp : l[k] = p := (List.getElem?_eq_some_iff.1 h).2
  rw [← hp, List.set_getElem_self]
theorem dT_keep (view : Int) (l : List Vt) (k : Nat) (p : Vt) (h : l[k]? = some p) (hv : ¬ p.2.2 ≤ view) : dT view l (k + 1) = dT view l k := by
  rw [dT_succ view l k p h, show dP view p = p from if_neg hv, set_same (dT_at view l k p h)]
theorem dT_gone (view : Int) (l : List Vt) (k : Nat) (p : Vt) (h : l[k]? = some p) (hv : p.2.2 ≤ view) : dT view l (k + 1) = (dT view l k).set k (0, 0, 0) := by
  rw [dT_succ view l k p h, show dP view p = (0, 0, 0) from if_pos hv]
theorem dT_end (view : Int) (l : List Vt) (h : l.length = 4) : dT view l 4 = l.map (dP view) := by
  unfold dT
  rw [List.take_of_length_le (by omega), List.drop_of_length_le (by omega), List.append_nil]
theorem dT_zero (view : Int) (l : List Vt) : dT view l 0 = l := rfl
theorem dT_len (view : Int) (l : List Vt) (k : Nat) : (dT view l k).length = l.length := by
  unfold dT
  rw [List.length_append, List.length_map, List.length_take, List.length_drop]; omega
theorem frm7 {S : Nat → Prop} {w w' : World} {b i : Nat} (h : Frm S w w') (hb : S b) (u0 u1 u2 u3 u4 u5 u6 : Value) : Frm S w (((((((w'.setCell ⟨b, i, none⟩ u0).setCell ⟨b, i + 1, none⟩ u1).setCell ⟨b, i + 2, none⟩ u2).setCell ⟨b, i + 3, none⟩ u3).setCell ⟨b, i + 4, none⟩ u4).setCell ⟨b, i + 5, none⟩ u5).setCell ⟨b, i + 6, none⟩ u6) :=
  ((((((h.setCell ⟨b, i, none⟩ _ (.inr hb)).setCell ⟨b, i + 1, none⟩ _ (.inr hb)).setCell ⟨b, i + 2, none⟩ _ (.inr hb)).setCell ⟨b, i + 3, none⟩ _ (.inr hb)).setCell ⟨b, i + 4, none⟩ _ (.inr hb)).setCell ⟨b, i + 5, none⟩ _ (.inr hb)).setCell ⟨b, i + 6, none⟩ _ (.inr hb)
theorem vt_one : (vtC 0 0 0).toArray.all (·.oneCell') = true := by kernel_rfl
theorem vt_size : (Tryd.prog.info? TVt).map (·.size) = some (vtC 0 0 0).toArray.size := by kernel_rfl
theorem IsVs.there {w : World} {b : Nat} {T : List Vt} (h : IsVs w b T) (k : Nat) (hk : k < T.length) : w.there b (k * 7) 7 := fun j hj => ⟨by
  rw [h.at_ k _ (List.getElem?_eq_getElem hk) j hj]
  rw [List.getElem?_eq_getElem (show j < (vtC _ _ _).length from hj)]; rfl, h.blk.free _⟩
theorem wpList_store_vt {ops : Array Oper} {rest : List Oper} {op : Oper} {a : Act} {w : World} {Q : Exit → Act → World → Prop} (hgd : op.guard = none) (x y : Operand) (ho : op.op = .store TVt x y)
    {b : Nat} {T : List Vt} (hv : IsVs w b T) (k : Nat) (hk : k < T.length) (hx : a.eval x = .pointer (some ⟨b, k * 7, none⟩)) (hy : a.eval y = .agg (vtC 0 0 0).toArray)
    (h : ∀ w', IsVs w' b (T.set k (0, 0, 0)) → Frm (· = b) w w' → wpList Tryd.prog ops Q rest (a.put op.dst undef) w') : wpList Tryd.prog ops Q (op :: rest) a w :=
  wpList_store_mid hgd TVt x y ho b (k * 7) (vtC 0 0 0).toArray hx hy (hv.there k hk) vt_size vt_one (h _ (hv.set k hk (0, 0, 0)) (frm7 (S := (· = b)) (Frm.refl _ _) rfl _ _ _ _ _ _ _))
set_option maxHeartbeats 8000000 in
theorem VForget_calls {w : World} {b : Nat} {T : List Vt} (h : IsVs w b T) (n : Nat) (F : Int) (hF : F = n) (hn : n < 4) : Calls Tryd.prog 15 #[.pointer (some ⟨b, 0, none⟩), .int .u8 F] w fun e w' => e = .returned (.tuple #[]) ∧ IsVs w' b (T.set n (0, 0, 0)) ∧ Frm (· = b) w w' := by
  subst hF
  have hni : (n : Int) < 4 := by omega
  have hn0 : 0 ≤ (n : Int) := by omega
  obtain ⟨p, hp⟩ : ∃ p, T[n]? = some p := ⟨_, List.getElem?_eq_getElem (by rw [h.len]; exact hn)⟩
  have a0 := h.at_ n _ hp 0 (by decide)
  have a1 := h.at_ n _ hp 1 (by decide)
  have a2 := h.at_ n _ hp 2 (by decide)
  have a3 := h.at_ n _ hp 3 (by decide)
  have a4 := h.at_ n _ hp 4 (by decide)
  have a5 := h.at_ n _ hp 5 (by decide)
  have a6 := h.at_ n _ hp 6 (by decide)
  simp only [vtC, List.getElem?_cons_succ, List.getElem?_cons_zero, Nat.add_zero] at a0 a1 a2 a3 a4 a5 a6
  have z0 := h.blk.free (n * 7)
  have z1 := h.blk.free (n * 7 + 1)
  have z2 := h.blk.free (n * 7 + 2)
  have z3 := h.blk.free (n * 7 + 3)
  have z4 := h.blk.free (n * 7 + 4)
  have z5 := h.blk.free (n * 7 + 5)
  have z6 := h.blk.free (n * 7 + 6)
  have HM := hid h
  have HN := hid hn
  clear h hn hp
  go_enter Tryd.func15, Tryd.ntmps15
  go_wp2
  go_end0
  exact ⟨rfl, HM.out.set n (by rw [HM.out.len]; exact HN.out) (0, 0, 0), frm7 (S := (· = b)) (Frm.refl _ _) rfl _ _ _ _ _ _ _⟩
set_option maxHeartbeats 16000000 in
theorem VDrop_calls {w : World} {b : Nat} {f0 e0 v0 f1 e1 v1 f2 e2 v2 f3 e3 v3 : Int} (h : IsVs w b [(f0, e0, v0), (f1, e1, v1), (f2, e2, v2), (f3, e3, v3)]) (view : Int) : Calls Tryd.prog 13 #[.pointer (some ⟨b, 0, none⟩), .int .u32 view] w fun e w' => e = .returned (.tuple #[]) ∧ IsVs w' b ([(f0, e0, v0), (f1, e1, v1), (f2, e2, v2), (f3, e3, v3)].map (dP view)) ∧ Frm (· = b) w w' := by
  have HX := hid h.range
  have HI := hid (@vidx f0 e0 v0 f1 e1 v1 f2 e2 v2 f3 e3 v3)
  have HS := hid (vsize f0 e0 v0 f1 e1 v1 f2 e2 v2 f3 e3 v3)
  have HL4 := hid (show [(f0, e0, v0), (f1, e1, v1), (f2, e2, v2), (f3, e3, v3)].length = 4 from rfl)
  have HV := hid h
  obtain ⟨T, hT⟩ : ∃ T, [(f0, e0, v0), (f1, e1, v1), (f2, e2, v2), (f3, e3, v3)] = T := ⟨_, rfl⟩
  rw [hT] at HX HI HS HL4 HV ⊢
  obtain ⟨Z, hZ⟩ : ∃ Z, (vsC T).toArray = Z := ⟨_, rfl⟩
  have HZ := hid hZ
  clear h hZ hT
  go_enter Tryd.func13, Tryd.ntmps13
  go_wp2_with ((with_reducible show wpList _ _ _ _ _ _); refine wpList_load_mid rfl TVr (.tmp 8) rfl b 0 rfl (vsC T) (.array 4 TVt) HX.out Tryd.underlying40 rfl HS.out ?_; rw [HZ.out])
  go_loopw [10] (fun iv wr => ∃ (k : Nat), k ≤ 4 ∧ iv = .int .i64 k ∧ IsVs wr b (dT view T k) ∧ Frm (· = b) w wr) (fun i _ => 4 - (intOf i).toNat)
  case atStart => exact ⟨0, by omega, rfl, HV.out, Frm.refl _ _⟩
  case round =>
    clear HV
    obtain ⟨k, hk, rfl, hv, hf⟩ := hrel
    have HM := hid hv; have HF := hid hf
    clear hv hf
    by_cases hk4 : k < 4
    · obtain ⟨⟨pf, pe, pv⟩, hq⟩ : ∃ p, T[k]? = some p := ⟨_, List.getElem?_eq_getElem (by rw [HL4.out]; exact hk4)⟩
      have ix := fun w => HI.out k hk4 _ hq w
      rw [HZ.out] at ix
      simp only [] at ix
      have HQ := hid hq
      have HK := hid hk4
      have hp := dT_at view T k _ hq
      have hki : (k : Int) < 4 := by omega
      have hk0 : 0 ≤ (k : Int) := by omega
      have hblt := HM.out.blk.lt
      clear hq hk hk4
      by_cases hv : pv ≤ view
      · skip
        have HG := hid (dT_gone view T k _ HQ.out hv)
        clear hp
        have HLT := hid (show k < (dT view T k).length by rw [dT_len, HL4.out]; exact HK.out)
        go_wp2_with ((with_reducible show wpList _ _ _ _ _ _); refine wpList_store_vt rfl (.tmp 23) (.tmp 20) rfl (HM.out.frm (vbox wr _) (fun h => h)) k HLT.out rfl rfl ?_; intro w5 hv5 hf5; have HV5 := hid hv5; have HF5 := hid ((HF.out.alloc _).trans hf5); clear hv5 hf5)
        go_roundw
        case rel => exact ⟨k + 1, by have := HK.out; omega, rfl, by rw [HG.out]; exact HV5.out, HF5.out⟩
        case measure => have := HK.out; simp [intOf]; omega
      · clear hp
        have HG := hid (dT_keep view T k _ HQ.out hv)
        go_wp2
        go_roundw
        case rel => exact ⟨k + 1, by have := HK.out; omega, rfl, by rw [HG.out]; exact HM.out.frm (vbox _ _) (fun h => h), HF.out.alloc _⟩
        case measure => have := HK.out; simp [intOf]; omega
    · have hke : k = 4 := by omega
      subst hke
      clear hk hk4
      have HE := hid (dT_end view T HL4.out)
      go_wp2
      go_end0
      exact ⟨rfl, HE.out ▸ HM.out, HF.out⟩
end Go.Proofs.YtkpeoenbeaapoaaDoor
