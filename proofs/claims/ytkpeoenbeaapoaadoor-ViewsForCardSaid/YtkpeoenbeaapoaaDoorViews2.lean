/- Votes: New, Top, Add. -/
import Derived.Test.YtkpeoenbeaapoaaDoorViews
namespace Go.Proofs.YtkpeoenbeaapoaaDoor
open Go.RowKit Go.ChangeShapes
set_option linter.unusedVariables false
set_option linter.unusedSimpArgs false
set_option maxRecDepth 100000
abbrev Vt : Type := Int × Int × Int
def vsC (T : List Vt) : List Value := T.flatMap fun p => vtC p.1 p.2.1 p.2.2
theorem vsC_at (T : List Vt) : ∀ (j : Nat) (p : Vt), T[j]? = some p → ∀ i, i < 7 → (vsC T)[j * 7 + i]? = (vtC p.1 p.2.1 p.2.2)[i]? := by
  induction T with
  | nil => intro j p hj; simp at hj
  | cons a T ih =>
    intro j p hj i hi
    cases j with
    | zero =>
      simp only [List.getElem?_cons_zero, Option.some.injEq] at hj
      subst hj
      show (vtC a.1 a.2.1 a.2.2 ++ vsC T)[0 * 7 + i]? = _
      rw [List.getElem?_append_left (by show 0 * 7 + i < 7; omega), show 0 * 7 + i = i by omega]
    | succ j =>
      rw [List.getElem?_cons_succ] at hj
      show (vtC a.1 a.2.1 a.2.2 ++ vsC T)[(j + 1) * 7 + i]? = _
      rw [List.getElem?_append_right (by show 7 ≤ (j + 1) * 7 + i; omega), show (j + 1) * 7 + i - (vtC a.1 a.2.1 a.2.2).length = j * 7 + i by show _ - 7 = _; omega]
      exact ih j p hj i hi
theorem vsC_set (T : List Vt) (p : Vt) : ∀ j, j < T.length → (((((((vsC T).set (j * 7) (.int .u8 p.1)).set (j * 7 + 1) (.int .u8 p.2.1)).set (j * 7 + 2) (.int .u32 p.2.2)).set (j * 7 + 3) (.int .u32 0)).set (j * 7 + 4) (.slice none 0 0)).set (j * 7 + 5) (.slice none 0 0)).set (j * 7 + 6) (.slice none 0 0) = vsC (T.set j p) := by
  induction T with
  | nil => intro j hj; simp at hj
  | cons a T ih =>
    intro j hj
    cases j with
    | zero => rfl
    | succ j =>
      have key : ∀ (i : Nat) (u : Value) (xs : List Value), (vtC a.1 a.2.1 a.2.2 ++ xs).set ((j + 1) * 7 + i) u = vtC a.1 a.2.1 a.2.2 ++ xs.set (j * 7 + i) u := fun i u xs => by
        rw [List.set_append_right _ _ (by show 7 ≤ _; omega), show (j + 1) * 7 + i - (vtC a.1 a.2.1 a.2.2).length = j * 7 + i by show _ - 7 = _; omega]
      have key0 : ∀ (u : Value) (xs : List Value), (vtC a.1 a.2.1 a.2.2 ++ xs).set ((j + 1) * 7) u = vtC a.1 a.2.1 a.2.2 ++ xs.set (j * 7) u := fun u xs => key 0 u xs
      show (((((((vtC a.1 a.2.1 a.2.2 ++ vsC T).set ((j + 1) * 7) _).set ((j + 1) * 7 + 1) _).set ((j + 1) * 7 + 2) _).set ((j + 1) * 7 + 3) _).set ((j + 1) * 7 + 4) _).set ((j + 1) * 7 + 5) _).set ((j + 1) * 7 + 6) _ = vtC a.1 a.2.1 a.2.2 ++ vsC (T.set j p)
      rw [key0, key, key, key, key, key, key, ih j (by rw [List.length_cons] at hj; omega)]
/-- The votes at b. -/
structure IsVs (w : World) (b : Nat) (T : List Vt) : Prop where
  blk : Blk w b (vsC T) TVs
  len : T.length = 4
theorem IsVs.frm {S : Nat → Prop} {w w' : World} {b : Nat} {T : List Vt} (h : IsVs w b T) (f : Frm S w w') (hb : ¬ S b) : IsVs w' b T := ⟨h.blk.frm f hb, h.len⟩
theorem IsVs.at_ {w : World} {b : Nat} {T : List Vt} (h : IsVs w b T) (j : Nat) (p : Vt) (hj : T[j]? = some p) (i : Nat) (hi : i < 7) : w.cell? ⟨b, j * 7 + i, none⟩ = (vtC p.1 p.2.1 p.2.2)[i]? := by rw [h.blk.cell, vsC_at T j p hj i hi]
abbrev VT0 : List Vt := [(0, 0, 0), (0, 0, 0), (0, 0, 0), (0, 0, 0)]
theorem zeroVs (w : World) : (zeroValue TVs).run Tryd.prog w = .ok (.agg (vsC VT0).toArray) w := by kernel_rfl
theorem VNew_calls (w : World) : Calls Tryd.prog 7 #[] w fun e w' => e = .returned (.pointer (some ⟨w.heap.size, 0, none⟩)) ∧ IsVs w' w.heap.size VT0 ∧ Frm (fun _ => False) w w' := by
  obtain ⟨Z, hZ⟩ : ∃ Z, (vsC VT0).toArray = Z := ⟨_, rfl⟩
  have hz := zeroVs
  rw [hZ] at hz
  have HZ := hid hZ; clear hZ
  go_enter Tryd.func7, Tryd.ntmps7
  go_wp2
  go_ret
  have hb := Blk.new w (vsC VT0) TVs
  rw [HZ.out] at hb
  exact ⟨rfl, ⟨hb, rfl⟩, vbox w _⟩
theorem VTop_calls {w : World} {b : Nat} {T : List Vt} (h : IsVs w b T) (n : Nat) (F : Int) (hF : F = n) (p : Vt) (hp : T[n]? = some p) (v : Int) (hv : p.2.2 = v) : Calls Tryd.prog 21 #[.pointer (some ⟨b, 0, none⟩), .int .u8 F] w fun e w' => e = .returned (.int .u32 v) ∧ w = w' := by
  subst hF hv
  have hn : n < 4 := by have := (List.getElem?_eq_some_iff.1 hp).1; rw [h.len] at this; exact this
  have hni : (n : Int) < 4 := by omega
  have q := h.at_ n p hp 2 (by decide)
  simp only [vtC, List.getElem?_cons_succ, List.getElem?_cons_zero] at q
  clear hp h hn
  go_enter Tryd.func21, Tryd.ntmps21
  go_wp2
  go_ret
  exact ⟨rfl, by first | rfl | trivial⟩
set_option maxHeartbeats 8000000 in
theorem VAdd_bad {w : World} {b : Nat} {T : List Vt} (h : IsVs w b T) (n : Nat) (hn : n < 4) (F : Int) (hF : F = n) (v : Int) (hv : v = 0) : Calls Tryd.prog 8 #[.pointer (some ⟨b, 0, none⟩), .agg #[.int .u8 F, .int .u8 1, .int .u32 v, .int .u32 0, .slice none 0 0, .slice none 0 0, .slice none 0 0]] w fun e w' => e = .returned (.bool false) ∧ IsVs w' b T ∧ Frm (fun _ => False) w w' := by
  subst hF
  have HV0 := hid (show 0 ≤ v by omega)
  have HIV := hid (show decide ((n : Int) < 4 ∧ 1 ≤ v ∧ v ≤ 1048576) = false from decide_eq_false (by omega))
  clear hn hv
  go_enter Tryd.func8, Tryd.ntmps8
  go_wp2_with (fail)
  obtain ⟨W1, hW1⟩ : ∃ W1, (w.alloc (.cells #[.int .u8 (n : Int), .int .u8 1, .int .u32 v, .int .u32 0, .slice none 0 0, .slice none 0 0, .slice none 0 0] TVt)) = W1 := ⟨_, rfl⟩
  rw [hW1]
  have HB := hid (show Blk W1.drew w.heap.size (vtC (n : Int) 1 v) TVt from hW1 ▸ (Vt_new w (n : Int) 1 v))
  have HF := hid (show Frm (fun _ => False) w W1.drew from hW1 ▸ (vbox w _).drew)
  have HM := hid (h.frm HF.out (fun h => h))
  have HBR := hid (show ¬ w.heap.size = b from fun e => by have := h.blk.lt; omega)
  clear hW1 h
  obtain ⟨rb, hrb⟩ : ∃ rb, w.heap.size = rb := ⟨_, rfl⟩
  have HRL := hid (show w.heap.size ≤ rb from Nat.le_of_eq hrb)
  rw [hrb]
  rw [hrb] at HB HBR
  clear hrb
  have b0 := HB.out.cell 0
  have b1 := HB.out.cell 1
  have b2 := HB.out.cell 2
  have b3 := HB.out.cell 3
  have b4 := HB.out.cell 4
  have b5 := HB.out.cell 5
  have b6 := HB.out.cell 6
  (simp only [vtC, List.getElem?_cons_succ, List.getElem?_cons_zero] at b0 b1 b2 b3 b4 b5 b6)
  refine wp_region_held_drew (S := fun wx => wx.cell? ⟨rb, 0, none⟩ = some (.int .u8 (n : Int)) ∧ wx.cell? ⟨rb, 1, none⟩ = some (.int .u8 1) ∧ wx.cell? ⟨rb, 2, none⟩ = some (.int .u32 v) ∧ wx.cell? ⟨rb, 3, none⟩ = some (.int .u32 0) ∧ wx.cell? ⟨rb, 4, none⟩ = some (.slice none 0 0) ∧ wx.cell? ⟨rb, 5, none⟩ = some (.slice none 0 0) ∧ wx.cell? ⟨rb, 6, none⟩ = some (.slice none 0 0)) (by kernel_rfl) ?_ (fun hHeld => ?_)
  · exact ⟨b0, b1, b2, b3, b4, b5, b6⟩
  refine wpAnyH_take (i := 0) (oi := ⟨some 5, _, _, _, _, _⟩) (v := ?v1) rfl (by kernel_rfl) (by kernel_rfl) (by kernel_rfl) (fun _ _ _ h => h) (Or.inl ⟨by rfl, ?y1⟩) (by assumption) ?r1
  case y1 => (intro wx hSx; (try dsimp only at hSx); go_simp; (try with_reducible rfl))
  try simp only [Act.put, List.setIfInBounds_toArray, List.set_cons_zero, List.set_cons_succ]
  refine wpAnyH_ready (rs := [1]) (by kernel_rfl) (by simp) ?_
  refine AllReadyH.cons (o := ⟨some 6, _, _, _, _, _⟩) rfl (fun K hK => ?_) AllReadyH.nil
  go_simp
  go_wp2_with ((go_at_call 25; (with_reducible refine (MIsVote_calls _ (n : Int) v HV0.out false HIV.out).mono ?_); rintro e w9 ⟨rfl, f'⟩; clear b0 b1 b2 b3 b4 b5 b6; have nB := hid (HB.out.frm f' (fun h => h)); have nF := hid (HF.out.trans f'); have nM := hid (HM.out.frm f' (fun h => h)); clear f' HB HF HM; have HB := nB; have HF := nF; have HM := nM; clear nB nF nM; have b0 := HB.out.cell 0; have b1 := HB.out.cell 1; have b2 := HB.out.cell 2; have b3 := HB.out.cell 3; have b4 := HB.out.cell 4; have b5 := HB.out.cell 5; have b6 := HB.out.cell 6; (simp only [vtC, List.getElem?_cons_succ, List.getElem?_cons_zero] at b0 b1 b2 b3 b4 b5 b6)))
  refine hK.out _ _ ?_ (fun hHeld2 => ?_)
  · ((try dsimp only); exact ⟨b0, b1, b2, b3, b4, b5, b6⟩)
  clear hK K hHeld; have hHeld := hHeld2; clear hHeld2
  try simp only [Act.put, List.setIfInBounds_toArray, List.set_cons_zero, List.set_cons_succ]
  refine wpAnyH_take (i := 2) (oi := ⟨some 7, _, _, _, _, _⟩) (v := ?v2) rfl (by kernel_rfl) (by kernel_rfl) (by kernel_rfl) (fun _ _ _ h => h) (Or.inl ⟨by rfl, ?y2⟩) (by assumption) ?r2
  case y2 => (intro wx hSx; (try dsimp only at hSx); go_simp; (try with_reducible rfl))
  try simp only [Act.put, List.setIfInBounds_toArray, List.set_cons_zero, List.set_cons_succ]
  refine wpAnyH_take (i := 3) (oi := ⟨some 8, _, _, _, _, _⟩) (v := ?v3) rfl (by kernel_rfl) (by kernel_rfl) (by kernel_rfl) (fun _ _ _ h => h) (Or.inl ⟨by rfl, ?y3⟩) (by assumption) ?r3
  case y3 => (intro wx hSx; (try dsimp only at hSx); go_simp; (try with_reducible rfl))
  try simp only [Act.put, List.setIfInBounds_toArray, List.set_cons_zero, List.set_cons_succ]
  refine wpAnyH_take (i := 4) (oi := ⟨some 9, _, _, _, _, _⟩) (v := undef) rfl (by kernel_rfl) (by kernel_rfl) (by kernel_rfl) (fun _ _ _ h => h) (Or.inr ⟨by rfl, rfl⟩) (by assumption) ?_
  try simp only [Act.put, List.setIfInBounds_toArray, List.set_cons_zero, List.set_cons_succ]
  refine wpAnyH_take (i := 5) (oi := ⟨some 10, _, _, _, _, _⟩) (v := undef) rfl (by kernel_rfl) (by kernel_rfl) (by kernel_rfl) (fun _ _ _ h => h) (Or.inr ⟨by rfl, rfl⟩) (by assumption) ?_
  try simp only [Act.put, List.setIfInBounds_toArray, List.set_cons_zero, List.set_cons_succ]
  refine wpAnyH_take (i := 6) (oi := ⟨some 11, _, _, _, _, _⟩) (v := undef) rfl (by kernel_rfl) (by kernel_rfl) (by kernel_rfl) (fun _ _ _ h => h) (Or.inr ⟨by rfl, rfl⟩) (by assumption) ?_
  try simp only [Act.put, List.setIfInBounds_toArray, List.set_cons_zero, List.set_cons_succ]
  refine wpAnyH_take (i := 7) (oi := ⟨some 12, _, _, _, _, _⟩) (v := undef) rfl (by kernel_rfl) (by kernel_rfl) (by kernel_rfl) (fun _ _ _ h => h) (Or.inr ⟨by rfl, rfl⟩) (by assumption) ?_
  try simp only [Act.put, List.setIfInBounds_toArray, List.set_cons_zero, List.set_cons_succ]
  refine wpAnyH_take (i := 8) (oi := ⟨some 13, _, _, _, _, _⟩) (v := undef) rfl (by kernel_rfl) (by kernel_rfl) (by kernel_rfl) (fun _ _ _ h => h) (Or.inr ⟨by rfl, rfl⟩) (by assumption) ?_
  try simp only [Act.put, List.setIfInBounds_toArray, List.set_cons_zero, List.set_cons_succ]
  refine wpAnyH_take (i := 9) (oi := ⟨some 14, _, _, _, _, _⟩) (v := undef) rfl (by kernel_rfl) (by kernel_rfl) (by kernel_rfl) (fun _ _ _ h => h) (Or.inr ⟨by rfl, rfl⟩) (by assumption) ?_
  try simp only [Act.put, List.setIfInBounds_toArray, List.set_cons_zero, List.set_cons_succ]
  refine wpAnyH_take (i := 10) (oi := ⟨some 15, _, _, _, _, _⟩) (v := undef) rfl (by kernel_rfl) (by kernel_rfl) (by kernel_rfl) (fun _ _ _ h => h) (Or.inr ⟨by rfl, rfl⟩) (by assumption) ?_
  try simp only [Act.put, List.setIfInBounds_toArray, List.set_cons_zero, List.set_cons_succ]
  refine wpAnyH_take (i := 11) (oi := ⟨some 16, _, _, _, _, _⟩) (v := undef) rfl (by kernel_rfl) (by kernel_rfl) (by kernel_rfl) (fun _ _ _ h => h) (Or.inr ⟨by rfl, rfl⟩) (by assumption) ?_
  try simp only [Act.put, List.setIfInBounds_toArray, List.set_cons_zero, List.set_cons_succ]
  refine wpAnyH_take (i := 12) (oi := ⟨some 17, _, _, _, _, _⟩) (v := undef) rfl (by kernel_rfl) (by kernel_rfl) (by kernel_rfl) (fun _ _ _ h => h) (Or.inr ⟨by rfl, rfl⟩) (by assumption) ?_
  try simp only [Act.put, List.setIfInBounds_toArray, List.set_cons_zero, List.set_cons_succ]
  refine wpAnyH_take (i := 13) (oi := ⟨some 18, _, _, _, _, _⟩) (v := undef) rfl (by kernel_rfl) (by kernel_rfl) (by kernel_rfl) (fun _ _ _ h => h) (Or.inr ⟨by rfl, rfl⟩) (by assumption) ?_
  try simp only [Act.put, List.setIfInBounds_toArray, List.set_cons_zero, List.set_cons_succ]
  refine wpAnyH_take (i := 14) (oi := ⟨some 19, _, _, _, _, _⟩) (v := undef) rfl (by kernel_rfl) (by kernel_rfl) (by kernel_rfl) (fun _ _ _ h => h) (Or.inr ⟨by rfl, rfl⟩) (by assumption) ?_
  try simp only [Act.put, List.setIfInBounds_toArray, List.set_cons_zero, List.set_cons_succ]
  refine wpAnyH_take (i := 15) (oi := ⟨some 20, _, _, _, _, _⟩) (v := ?v4) rfl (by kernel_rfl) (by kernel_rfl) (by kernel_rfl) (fun _ _ _ h => h) (Or.inl ⟨by rfl, ?y4⟩) (by assumption) ?r4
  case y4 => (intro wx hSx; (try dsimp only at hSx); go_simp; (try with_reducible rfl))
  try simp only [Act.put, List.setIfInBounds_toArray, List.set_cons_zero, List.set_cons_succ]
  refine wpAnyH_done (by kernel_rfl) ?_ _
  go_wp2
  go_ret
  exact ⟨rfl, HM.out, HF.out⟩
set_option maxHeartbeats 8000000 in
theorem VAdd_old {w : World} {b : Nat} {T : List Vt} (h : IsVs w b T) (n : Nat) (hn : n < 4) (F : Int) (hF : F = n) (v : Int) (hv : 1 ≤ v ∧ v ≤ 1048576) (f0 e0 v0 : Int) (hp : T[n]? = some (f0, e0, v0)) (ho : v ≤ v0) : Calls Tryd.prog 8 #[.pointer (some ⟨b, 0, none⟩), .agg #[.int .u8 F, .int .u8 1, .int .u32 v, .int .u32 0, .slice none 0 0, .slice none 0 0, .slice none 0 0]] w fun e w' => e = .returned (.bool false) ∧ IsVs w' b T ∧ Frm (fun _ => False) w w' := by
  subst hF
  have HV0 := hid (show 0 ≤ v by omega)
  have HIV := hid (show decide ((n : Int) < 4 ∧ 1 ≤ v ∧ v ≤ 1048576) = true from decide_eq_true (by omega))
  have HP := hid hp
  have hni : (n : Int) < 4 := by omega
  have HN := hid hn
  clear hn hv hp
  go_enter Tryd.func8, Tryd.ntmps8
  go_wp2_with (fail)
  obtain ⟨W1, hW1⟩ : ∃ W1, (w.alloc (.cells #[.int .u8 (n : Int), .int .u8 1, .int .u32 v, .int .u32 0, .slice none 0 0, .slice none 0 0, .slice none 0 0] TVt)) = W1 := ⟨_, rfl⟩
  rw [hW1]
  have HB := hid (show Blk W1.drew w.heap.size (vtC (n : Int) 1 v) TVt from hW1 ▸ (Vt_new w (n : Int) 1 v))
  have HF := hid (show Frm (fun _ => False) w W1.drew from hW1 ▸ (vbox w _).drew)
  have HM := hid (h.frm HF.out (fun h => h))
  have HBR := hid (show ¬ w.heap.size = b from fun e => by have := h.blk.lt; omega)
  clear hW1 h
  obtain ⟨rb, hrb⟩ : ∃ rb, w.heap.size = rb := ⟨_, rfl⟩
  have HRL := hid (show w.heap.size ≤ rb from Nat.le_of_eq hrb)
  rw [hrb]
  rw [hrb] at HB HBR
  clear hrb
  have b0 := HB.out.cell 0
  have b1 := HB.out.cell 1
  have b2 := HB.out.cell 2
  have b3 := HB.out.cell 3
  have b4 := HB.out.cell 4
  have b5 := HB.out.cell 5
  have b6 := HB.out.cell 6
  (simp only [vtC, List.getElem?_cons_succ, List.getElem?_cons_zero] at b0 b1 b2 b3 b4 b5 b6)
  have pv := HM.out.at_ n _ HP.out 2 (by decide)
  (simp only [vtC, List.getElem?_cons_succ, List.getElem?_cons_zero] at pv)
  go_region_held3 (fun wx => wx.cell? ⟨rb, 0, none⟩ = some (.int .u8 (n : Int)) ∧ wx.cell? ⟨rb, 1, none⟩ = some (.int .u8 1) ∧ wx.cell? ⟨rb, 2, none⟩ = some (.int .u32 v) ∧ wx.cell? ⟨rb, 3, none⟩ = some (.int .u32 0) ∧ wx.cell? ⟨rb, 4, none⟩ = some (.slice none 0 0) ∧ wx.cell? ⟨rb, 5, none⟩ = some (.slice none 0 0) ∧ wx.cell? ⟨rb, 6, none⟩ = some (.slice none 0 0) ∧ wx.cell? ⟨b, n * 7 + 2, none⟩ = some (.int .u32 v0)) (first | go_keep | exact ⟨b0, b1, b2, b3, b4, b5, b6, pv⟩) ((go_at_call 25; (with_reducible refine (MIsVote_calls _ (n : Int) v HV0.out true HIV.out).mono ?_); rintro e w9 ⟨rfl, f'⟩; clear b0 b1 b2 b3 b4 b5 b6; clear pv; have nB := hid (HB.out.frm f' (fun h => h)); have nF := hid (HF.out.trans f'); have nM := hid (HM.out.frm f' (fun h => h)); clear f' HB HF HM; have HB := nB; have HF := nF; have HM := nM; clear nB nF nM; have b0 := HB.out.cell 0; have b1 := HB.out.cell 1; have b2 := HB.out.cell 2; have b3 := HB.out.cell 3; have b4 := HB.out.cell 4; have b5 := HB.out.cell 5; have b6 := HB.out.cell 6; (simp only [vtC, List.getElem?_cons_succ, List.getElem?_cons_zero] at b0 b1 b2 b3 b4 b5 b6); have pv := HM.out.at_ n _ HP.out 2 (by decide); (simp only [vtC, List.getElem?_cons_succ, List.getElem?_cons_zero] at pv)))
  go_wp2
  go_ret
  exact ⟨rfl, HM.out, HF.out⟩
theorem IsVs.set {w : World} {b : Nat} {T : List Vt} (h : IsVs w b T) (j : Nat) (hj : j < T.length) (p : Vt) : IsVs (((((((w.setCell ⟨b, j * 7, none⟩ (.int .u8 p.1)).setCell ⟨b, j * 7 + 1, none⟩ (.int .u8 p.2.1)).setCell ⟨b, j * 7 + 2, none⟩ (.int .u32 p.2.2)).setCell ⟨b, j * 7 + 3, none⟩ (.int .u32 0)).setCell ⟨b, j * 7 + 4, none⟩ (.slice none 0 0)).setCell ⟨b, j * 7 + 5, none⟩ (.slice none 0 0)).setCell ⟨b, j * 7 + 6, none⟩ (.slice none 0 0)) b (T.set j p) := by
  have h1 := (((((((h.blk.setCell (j * 7) (.int .u8 p.1)).setCell (j * 7 + 1) (.int .u8 p.2.1)).setCell (j * 7 + 2) (.int .u32 p.2.2)).setCell (j * 7 + 3) (.int .u32 0)).setCell (j * 7 + 4) (.slice none 0 0)).setCell (j * 7 + 5) (.slice none 0 0)).setCell (j * 7 + 6) (.slice none 0 0))
  rw [vsC_set T p j hj] at h1
  exact ⟨h1, by rw [List.length_set]; exact h.len⟩
theorem far7 (w : World) (b i : Nat) (u0 u1 u2 u3 u4 u5 u6 : Value) (q : Nat) (j : Nat) (h : ¬ q = b) : ((((((((w.setCell ⟨b, i, none⟩ u0).setCell ⟨b, i + 1, none⟩ u1).setCell ⟨b, i + 2, none⟩ u2).setCell ⟨b, i + 3, none⟩ u3).setCell ⟨b, i + 4, none⟩ u4).setCell ⟨b, i + 5, none⟩ u5).setCell ⟨b, i + 6, none⟩ u6)).cell? ⟨q, j, none⟩ = w.cell? ⟨q, j, none⟩ := by
  have hb : ¬ b = q := fun e => h e.symm
  rw [World.cell?_setCell_far _ _ _ _ hb, World.cell?_setCell_far _ _ _ _ hb, World.cell?_setCell_far _ _ _ _ hb, World.cell?_setCell_far _ _ _ _ hb, World.cell?_setCell_far _ _ _ _ hb, World.cell?_setCell_far _ _ _ _ hb, World.cell?_setCell_far _ _ _ _ hb]
set_option maxHeartbeats 8000000 in
theorem VAdd_new {w : World} {b : Nat} {T : List Vt} (h : IsVs w b T) (n : Nat) (hn : n < 4) (F : Int) (hF : F = n) (v : Int) (hv : 1 ≤ v ∧ v ≤ 1048576) (f0 e0 v0 : Int) (hp : T[n]? = some (f0, e0, v0)) (ho : v0 < v) : Calls Tryd.prog 8 #[.pointer (some ⟨b, 0, none⟩), .agg #[.int .u8 F, .int .u8 1, .int .u32 v, .int .u32 0, .slice none 0 0, .slice none 0 0, .slice none 0 0]] w fun e w' => e = .returned (.bool true) ∧ IsVs w' b (T.set n ((n : Int), 1, v)) ∧ Frm (· = b) w w' := by
  subst hF
  have HV0 := hid (show 0 ≤ v by omega)
  have HIV := hid (show decide ((n : Int) < 4 ∧ 1 ≤ v ∧ v ≤ 1048576) = true from decide_eq_true (by omega))
  have HP := hid hp
  have hni : (n : Int) < 4 := by omega
  have HN := hid hn
  clear hn hv hp
  go_enter Tryd.func8, Tryd.ntmps8
  go_wp2_with (fail)
  obtain ⟨W1, hW1⟩ : ∃ W1, (w.alloc (.cells #[.int .u8 (n : Int), .int .u8 1, .int .u32 v, .int .u32 0, .slice none 0 0, .slice none 0 0, .slice none 0 0] TVt)) = W1 := ⟨_, rfl⟩
  rw [hW1]
  have HB := hid (show Blk W1.drew w.heap.size (vtC (n : Int) 1 v) TVt from hW1 ▸ (Vt_new w (n : Int) 1 v))
  have HF := hid (show Frm (fun _ => False) w W1.drew from hW1 ▸ (vbox w _).drew)
  have HM := hid (h.frm HF.out (fun h => h))
  have HBR := hid (show ¬ w.heap.size = b from fun e => by have := h.blk.lt; omega)
  clear hW1 h
  obtain ⟨rb, hrb⟩ : ∃ rb, w.heap.size = rb := ⟨_, rfl⟩
  have HRL := hid (show w.heap.size ≤ rb from Nat.le_of_eq hrb)
  rw [hrb]
  rw [hrb] at HB HBR
  clear hrb
  have b0 := HB.out.cell 0
  have b1 := HB.out.cell 1
  have b2 := HB.out.cell 2
  have b3 := HB.out.cell 3
  have b4 := HB.out.cell 4
  have b5 := HB.out.cell 5
  have b6 := HB.out.cell 6
  (simp only [vtC, List.getElem?_cons_succ, List.getElem?_cons_zero] at b0 b1 b2 b3 b4 b5 b6)
  have pv := HM.out.at_ n _ HP.out 2 (by decide)
  (simp only [vtC, List.getElem?_cons_succ, List.getElem?_cons_zero] at pv)
  go_region_held3 (fun wx => wx.cell? ⟨rb, 0, none⟩ = some (.int .u8 (n : Int)) ∧ wx.cell? ⟨rb, 1, none⟩ = some (.int .u8 1) ∧ wx.cell? ⟨rb, 2, none⟩ = some (.int .u32 v) ∧ wx.cell? ⟨rb, 3, none⟩ = some (.int .u32 0) ∧ wx.cell? ⟨rb, 4, none⟩ = some (.slice none 0 0) ∧ wx.cell? ⟨rb, 5, none⟩ = some (.slice none 0 0) ∧ wx.cell? ⟨rb, 6, none⟩ = some (.slice none 0 0) ∧ wx.cell? ⟨b, n * 7 + 2, none⟩ = some (.int .u32 v0)) (first | go_keep | exact ⟨b0, b1, b2, b3, b4, b5, b6, pv⟩) ((go_at_call 25; (with_reducible refine (MIsVote_calls _ (n : Int) v HV0.out true HIV.out).mono ?_); rintro e w9 ⟨rfl, f'⟩; clear b0 b1 b2 b3 b4 b5 b6; clear pv; have nB := hid (HB.out.frm f' (fun h => h)); have nF := hid (HF.out.trans f'); have nM := hid (HM.out.frm f' (fun h => h)); clear f' HB HF HM; have HB := nB; have HF := nF; have HM := nM; clear nB nF nM; have b0 := HB.out.cell 0; have b1 := HB.out.cell 1; have b2 := HB.out.cell 2; have b3 := HB.out.cell 3; have b4 := HB.out.cell 4; have b5 := HB.out.cell 5; have b6 := HB.out.cell 6; (simp only [vtC, List.getElem?_cons_succ, List.getElem?_cons_zero] at b0 b1 b2 b3 b4 b5 b6); have pv := HM.out.at_ n _ HP.out 2 (by decide); (simp only [vtC, List.getElem?_cons_succ, List.getElem?_cons_zero] at pv)))
  go_wp2_with (fail)
  have HB2 := hid (HB.out.frm (Frm.refl (fun _ => False) w9).drew (fun h => h)); have HM2 := hid (HM.out.frm (Frm.refl (fun _ => False) w9).drew (fun h => h)); have HF2 := hid HF.out.drew
  clear HB HM HF b0 b1 b2 b3 b4 b5 b6 pv
  have HB := HB2; have HM := HM2; have HF := HF2
  clear HB2 HM2 HF2
  have b0 := HB.out.cell 0
  have b1 := HB.out.cell 1
  have b2 := HB.out.cell 2
  have b3 := HB.out.cell 3
  have b4 := HB.out.cell 4
  have b5 := HB.out.cell 5
  have b6 := HB.out.cell 6
  (simp only [vtC, List.getElem?_cons_succ, List.getElem?_cons_zero] at b0 b1 b2 b3 b4 b5 b6)
  refine wp_region_held_drew (S := fun wx => wx.cell? ⟨rb, 0, none⟩ = some (.int .u8 (n : Int)) ∧ wx.cell? ⟨rb, 1, none⟩ = some (.int .u8 1) ∧ wx.cell? ⟨rb, 2, none⟩ = some (.int .u32 v) ∧ wx.cell? ⟨rb, 3, none⟩ = some (.int .u32 0) ∧ wx.cell? ⟨rb, 4, none⟩ = some (.slice none 0 0) ∧ wx.cell? ⟨rb, 5, none⟩ = some (.slice none 0 0) ∧ wx.cell? ⟨rb, 6, none⟩ = some (.slice none 0 0)) (by kernel_rfl) ?_ (fun hHeld => ?_)
  · exact ⟨b0, b1, b2, b3, b4, b5, b6⟩
  refine wpAnyH_take (i := 0) (oi := ⟨some 21, _, _, _, _, _⟩) (v := ?v1) rfl (by kernel_rfl) (by kernel_rfl) (by kernel_rfl) (fun _ _ _ h => h) (Or.inl ⟨by rfl, ?y1⟩) (by assumption) ?r1
  case y1 => (intro wx hSx; (try dsimp only at hSx); go_simp; (try with_reducible rfl))
  try simp only [Act.put, List.setIfInBounds_toArray, List.set_cons_zero, List.set_cons_succ]
  refine wpAnyH_take (i := 1) (oi := ⟨some 22, _, _, _, _, _⟩) (v := ?v2) rfl (by kernel_rfl) (by kernel_rfl) (by kernel_rfl) (fun _ _ _ h => h) (Or.inl ⟨by rfl, ?y2⟩) (by assumption) ?r2
  case y2 => (intro wx hSx; (try dsimp only at hSx); go_simp; (try with_reducible rfl))
  try simp only [Act.put, List.setIfInBounds_toArray, List.set_cons_zero, List.set_cons_succ]
  refine wpAnyH_take (i := 2) (oi := ⟨some 23, _, _, _, _, _⟩) (v := ?v3) rfl (by kernel_rfl) (by kernel_rfl) (by kernel_rfl) (fun _ _ _ h => h) (Or.inl ⟨by rfl, ?y3⟩) (by assumption) ?r3
  case y3 => (intro wx hSx; (try dsimp only at hSx); go_simp; (try with_reducible rfl))
  try simp only [Act.put, List.setIfInBounds_toArray, List.set_cons_zero, List.set_cons_succ]
  refine wpAnyH_take (i := 3) (oi := ⟨some 24, _, _, _, _, _⟩) (v := ?v4) rfl (by kernel_rfl) (by kernel_rfl) (by kernel_rfl) (fun _ _ _ h => h) (Or.inl ⟨by rfl, ?y4⟩) (by assumption) ?r4
  case y4 => (intro wx hSx; (try dsimp only at hSx); go_simp; (try with_reducible rfl))
  try simp only [Act.put, List.setIfInBounds_toArray, List.set_cons_zero, List.set_cons_succ]
  refine wpAnyH_take (i := 5) (oi := ⟨some 26, _, _, _, _, _⟩) (v := ?v5) rfl (by kernel_rfl) (by kernel_rfl) (by kernel_rfl) (fun _ _ _ h => h) (Or.inl ⟨by rfl, ?y5⟩) (by assumption) ?r5
  case y5 => (intro wx hSx; (try dsimp only at hSx); go_simp; (try with_reducible rfl))
  try simp only [Act.put, List.setIfInBounds_toArray, List.set_cons_zero, List.set_cons_succ]
  refine wpAnyH_take (i := 6) (oi := ⟨some 27, _, _, _, _, _⟩) (v := ?v6) rfl (by kernel_rfl) (by kernel_rfl) (by kernel_rfl) (fun _ _ _ h => h) (Or.inl ⟨by rfl, ?y6⟩) (by assumption) ?r6
  case y6 => (intro wx hSx; (try dsimp only at hSx); go_simp; (try with_reducible rfl))
  try simp only [Act.put, List.setIfInBounds_toArray, List.set_cons_zero, List.set_cons_succ]
  refine wpAnyH_ready (rs := [4]) (by kernel_rfl) (by simp) ?_
  refine AllReadyH.cons (o := ⟨some 25, _, _, _, _, _⟩) rfl (fun K hK => ?_) AllReadyH.nil
  go_simp
  go_wp2_with ((go_at_call 26; (with_reducible refine (Copied_calls _ (n : Int) 1 v).mono ?_); rintro e w10 ⟨rfl, f'⟩; clear b0 b1 b2 b3 b4 b5 b6; have nB := hid (HB.out.frm f' (fun h => h)); have nF := hid (HF.out.trans f'); have nM := hid (HM.out.frm f' (fun h => h)); clear f' HB HF HM; have HB := nB; have HF := nF; have HM := nM; clear nB nF nM; have b0 := HB.out.cell 0; have b1 := HB.out.cell 1; have b2 := HB.out.cell 2; have b3 := HB.out.cell 3; have b4 := HB.out.cell 4; have b5 := HB.out.cell 5; have b6 := HB.out.cell 6; (simp only [vtC, List.getElem?_cons_succ, List.getElem?_cons_zero] at b0 b1 b2 b3 b4 b5 b6); have a0 := HM.out.at_ n _ HP.out 0 (by decide); have a1 := HM.out.at_ n _ HP.out 1 (by decide); have a2 := HM.out.at_ n _ HP.out 2 (by decide); have a3 := HM.out.at_ n _ HP.out 3 (by decide); have a4 := HM.out.at_ n _ HP.out 4 (by decide); have a5 := HM.out.at_ n _ HP.out 5 (by decide); have a6 := HM.out.at_ n _ HP.out 6 (by decide); (simp only [vtC, List.getElem?_cons_succ, List.getElem?_cons_zero, Nat.add_zero] at a0 a1 a2 a3 a4 a5 a6); have z0 := HM.out.blk.free (n * 7); have z1 := HM.out.blk.free (n * 7 + 1); have z2 := HM.out.blk.free (n * 7 + 2); have z3 := HM.out.blk.free (n * 7 + 3); have z4 := HM.out.blk.free (n * 7 + 4); have z5 := HM.out.blk.free (n * 7 + 5); have z6 := HM.out.blk.free (n * 7 + 6)))
  refine hK.out _ _ ?_ (fun hHeld2 => ?_)
  · ((try dsimp only); exact ⟨b0, b1, b2, b3, b4, b5, b6⟩)
  clear hK K hHeld; have hHeld := hHeld2; clear hHeld2
  try simp only [Act.put, List.setIfInBounds_toArray, List.set_cons_zero, List.set_cons_succ]
  refine wpAnyH_take (i := 7) (oi := ⟨some 28, _, _, _, _, _⟩) (v := ?v7) rfl (by kernel_rfl) (by kernel_rfl) (by kernel_rfl) (fun _ _ _ h => h) (Or.inl ⟨by rfl, ?y7⟩) (by assumption) ?r7
  case y7 => (intro wx hSx; (try dsimp only at hSx); go_simp; (try with_reducible rfl))
  try simp only [Act.put, List.setIfInBounds_toArray, List.set_cons_zero, List.set_cons_succ]
  refine wpAnyH_ready (rs := [8]) (by kernel_rfl) (by simp) ?_
  refine AllReadyH.cons (o := ⟨none, _, _, _, _, _⟩) rfl (fun K hK => ?_) AllReadyH.nil
  go_simp
  refine hK.out _ _ ?_ (fun hHeld2 => ?_)
  · ((try dsimp only); exact ⟨(far7 w10 b (n * 7) _ _ _ _ _ _ _ rb 0 HBR.out).trans b0, (far7 w10 b (n * 7) _ _ _ _ _ _ _ rb 1 HBR.out).trans b1, (far7 w10 b (n * 7) _ _ _ _ _ _ _ rb 2 HBR.out).trans b2, (far7 w10 b (n * 7) _ _ _ _ _ _ _ rb 3 HBR.out).trans b3, (far7 w10 b (n * 7) _ _ _ _ _ _ _ rb 4 HBR.out).trans b4, (far7 w10 b (n * 7) _ _ _ _ _ _ _ rb 5 HBR.out).trans b5, (far7 w10 b (n * 7) _ _ _ _ _ _ _ rb 6 HBR.out).trans b6⟩)
  clear hK K hHeld; have hHeld := hHeld2; clear hHeld2
  try simp only [Act.put, List.setIfInBounds_toArray, List.set_cons_zero, List.set_cons_succ]
  refine wpAnyH_done (by kernel_rfl) ?_ _
  go_wp2
  go_ret
  exact ⟨rfl, HM.out.set n (by rw [HM.out.len]; exact HN.out) ((n : Int), 1, v), ((((((((Frm0.any (S := (· = b)) HF.out).setCell ⟨b, n * 7, none⟩ _ (.inr rfl)).setCell ⟨b, n * 7 + 1, none⟩ _ (.inr rfl)).setCell ⟨b, n * 7 + 2, none⟩ _ (.inr rfl)).setCell ⟨b, n * 7 + 3, none⟩ _ (.inr rfl)).setCell ⟨b, n * 7 + 4, none⟩ _ (.inr rfl)).setCell ⟨b, n * 7 + 5, none⟩ _ (.inr rfl)).setCell ⟨b, n * 7 + 6, none⟩ _ (.inr rfl))⟩
end Go.Proofs.YtkpeoenbeaapoaaDoor
