/- Votes: each replica's last vote, plainly; For, Drop at any votes. -/
import Derived.Test.YtkpeoenbeaapoaaDoorVwKnown
import Derived.Test.YtkpeoenbeaapoaaDoorViews6
namespace Go.Proofs.YtkpeoenbeaapoaaDoor
open Go.RowKit Go.ChangeShapes
set_option linter.unusedVariables false
set_option linter.unusedSimpArgs false
set_option maxRecDepth 100000
/-- A row of numbers tells a vote: of whom, for which view. -/
def whoOf (y : Int) : Nat := (y % 4).toNat
def vwOf (y : Int) : Int := y / 4 % 10 + 1
def lStep (M : List Int) (y : Int) : List Int := M.set (whoOf y) (max (M.getD (whoOf y) 0) (vwOf y))
def lAll (l : List Int) : List Int := l.foldl lStep [0, 0, 0, 0]
def tOf (M : List Int) : List Vt := (List.range 4).map fun j => if M.getD j 0 = 0 then (0, 0, 0) else ((j : Int), 1, M.getD j 0)
theorem whoOf_lt (y : Int) : whoOf y < 4 := by unfold whoOf; omega
theorem vwOf_ge (y : Int) : 1 ≤ vwOf y := by unfold vwOf; omega
theorem vwOf_le (y : Int) : vwOf y ≤ 10 := by unfold vwOf; omega
theorem lStep_len (M : List Int) (y : Int) : (lStep M y).length = M.length := List.length_set
theorem lAll_len (l : List Int) : (lAll l).length = 4 := by
  have : ∀ (l : List Int) (M : List Int), (l.foldl lStep M).length = M.length := by
    intro l
    induction l with
    | nil => intro M; rfl
    | cons a l ih => intro M; rw [List.foldl_cons, ih, lStep_len]
  exact this l _
theorem lAll_succ (l : List Int) (k : Nat) (y : Int) (h : l[k]? = some y) : lAll (l.take (k + 1)) = lStep (lAll (l.take k)) y := by
  unfold lAll
  rw [List.take_add_one, h, List.foldl_append]
  rfl
theorem getD_set (M : List Int) (n j : Nat) (x : Int) (hn : n < M.length) : (M.set n x).getD j 0 = if j = n then x else M.getD j 0 := by
  rw [List.getD_eq_getElem?_getD, List.getElem?_set, List.getD_eq_getElem?_getD]
  by_cases h : j = n
  · subst h; rw [if_pos rfl, if_pos hn, if_pos rfl]; rfl
  · rw [if_neg (fun e => h e.symm), if_neg h]
/-- The numbers stand where they may. -/
def okM (M : List Int) : Prop := ∀ j, 0 ≤ M.getD j 0 ∧ M.getD j 0 ≤ 10
theorem okM_step {M : List Int} (h : okM M) (hl : M.length = 4) (y : Int) : okM (lStep M y) := by
  intro j
  have h1 := h j
  have h2 := h (whoOf y)
  have h3 := vwOf_ge y
  have h4 := vwOf_le y
  unfold lStep
  rw [getD_set _ _ _ _ (by rw [hl]; exact whoOf_lt y)]
  split
  · omega
  · exact h1
theorem okM_zero : okM [0, 0, 0, 0] := by
  intro j
  match j with
  | 0 => exact ⟨by decide, by decide⟩
  | 1 => exact ⟨by decide, by decide⟩
  | 2 => exact ⟨by decide, by decide⟩
  | 3 => exact ⟨by decide, by decide⟩
  | j + 4 => show 0 ≤ (0 : Int) ∧ (0 : Int) ≤ 10; omega
theorem okM_all (l : List Int) (k : Nat) : okM (lAll (l.take k)) := by
  have : ∀ (l : List Int) (M : List Int), okM M → M.length = 4 → okM (l.foldl lStep M) := by
    intro l
    induction l with
    | nil => intro M h _; exact h
    | cons a l ih => intro M h hl; exact ih _ (okM_step h hl a) (by rw [lStep_len]; exact hl)
  exact this _ _ okM_zero rfl
theorem tOf_len (M : List Int) : (tOf M).length = 4 := by unfold tOf; rw [List.length_map, List.length_range]
theorem tOf_zero : tOf (lAll []) = VT0 := rfl
theorem tOf_at (M : List Int) (k : Nat) (hk : k < 4) : (tOf M)[k]? = some (if M.getD k 0 = 0 then (0, 0, 0) else ((k : Int), 1, M.getD k 0)) := by
  unfold tOf
  rw [List.getElem?_map, List.getElem?_range hk]; rfl
theorem tOf_at3 (M : List Int) (k : Nat) (hk : k < 4) : ∃ f e, (tOf M)[k]? = some (f, e, M.getD k 0) := by
  by_cases h : M.getD k 0 = 0
  · exact ⟨0, 0, by rw [tOf_at M k hk, if_pos h, h]⟩
  · exact ⟨_, _, by rw [tOf_at M k hk, if_neg h]⟩
theorem ext4 {α : Type} {a b : List α} (ha : a.length = 4) (hb : b.length = 4) (h : ∀ k, k < 4 → a[k]? = b[k]?) : a = b := by
  apply List.ext_getElem?
  intro i
  by_cases hi : i < 4
  · exact h i hi
  · rw [List.getElem?_eq_none (by omega), List.getElem?_eq_none (by omega)]
theorem tOf_set (M : List Int) (hl : M.length = 4) (n : Nat) (hn : n < 4) (x : Int) (hx : 1 ≤ x) : (tOf M).set n ((n : Int), 1, x) = tOf (M.set n x) := by
  refine ext4 (by rw [List.length_set, tOf_len]) (tOf_len _) fun k hk => ?_
  rw [List.getElem?_set, tOf_at _ _ hk, tOf_at _ _ hk, getD_set _ _ _ _ (by omega)]
  by_cases h : n = k
  · subst h
    rw [if_pos rfl, if_pos (by rw [tOf_len]; exact hn), if_pos rfl, if_neg (show ¬ x = 0 by omega)]
  · rw [if_neg h, show (if k = n then x else M.getD k 0) = M.getD k 0 from if_neg (fun e => h e.symm)]
/-- A vote that is younger: it is taken. -/
theorem tOf_new (M : List Int) (hl : M.length = 4) (y : Int) (h : M.getD (whoOf y) 0 < vwOf y) : (tOf M).set (whoOf y) ((whoOf y : Nat), 1, vwOf y) = tOf (lStep M y) := by
  rw [tOf_set M hl _ (whoOf_lt y) _ (vwOf_ge y), lStep, Int.max_eq_right (by omega)]
theorem set_getD (M : List Int) (n : Nat) (hn : n < M.length) : M.set n (M.getD n 0) = M := by
  have : M.getD n 0 = M[n] := by rw [List.getD_eq_getElem?_getD, List.getElem?_eq_getElem hn]; rfl
  rw [this, List.set_getElem_self]
theorem lStep_old (M : List Int) (hl : M.length = 4) (y : Int) (h : vwOf y ≤ M.getD (whoOf y) 0) : lStep M y = M := by
  rw [lStep, Int.max_eq_left h, set_getD M _ (by rw [hl]; exact whoOf_lt y)]
/-- What stands once some are dropped and one is forgotten. -/
def tEnd (M : List Int) (d : Int) (g : Nat) : List Vt := ((tOf M).map (dP d)).set g (0, 0, 0)
theorem tEnd_len (M : List Int) (d : Int) (g : Nat) : (tEnd M d g).length = 4 := by unfold tEnd; rw [List.length_set, List.length_map, tOf_len]
theorem tEnd_gone (M : List Int) (d : Int) (hd : 0 ≤ d) (g f : Nat) (hf : f < 4) (h : M.getD f 0 ≤ d ∨ f = g) : (tEnd M d g)[f]? = some (0, 0, 0) := by
  unfold tEnd
  rw [List.getElem?_set]
  by_cases hg : g = f
  · subst hg
    rw [if_pos rfl, if_pos (by rw [List.length_map, tOf_len]; exact hf)]
  · rw [if_neg hg, List.getElem?_map]
    obtain ⟨p, e, h3⟩ := tOf_at3 M f hf
    rw [h3]
    show some (dP d (p, e, M.getD f 0)) = _
    rw [dP, if_pos (h.resolve_right fun e => hg e.symm)]
theorem tEnd_stay (M : List Int) (d : Int) (hd : 0 ≤ d) (g f : Nat) (hf : f < 4) (h : d < M.getD f 0) (hg : ¬ f = g) : (tEnd M d g)[f]? = some ((f : Int), 1, M.getD f 0) := by
  unfold tEnd
  rw [List.getElem?_set, if_neg (fun e => hg e.symm), List.getElem?_map, tOf_at M f hf, if_neg (by omega)]
  show some (dP d ((f : Int), 1, M.getD f 0)) = _
  rw [dP, if_neg (show ¬ M.getD f 0 ≤ d by omega)]
theorem fF_split (x : Int) (T : List Vt) (k : Nat) : fF x T = fF x (T.take k) ++ fF x (T.drop k) := by
  unfold fF; rw [← List.filter_append, List.take_append_drop]
theorem fF_at {x : Int} {T : List Vt} {k : Nat} {p : Vt} (hp : T[k]? = some p) (h : p.2.2 = x) (h0 : 0 < x) : (fF x T)[(fF x (T.take k)).length]? = some p := by
  rw [fF_split x T (k + 1), fF_yes hp h h0, List.append_assoc, List.getElem?_append_right (Nat.le_refl _), Nat.sub_self]; rfl
theorem fF_le4 (x : Int) (T : List Vt) (h : T.length = 4) : (fF x T).length ≤ 4 := h ▸ List.length_filter_le _ _
theorem four {T : List Vt} (h : T.length = 4) : ∃ f0 e0 v0 f1 e1 v1 f2 e2 v2 f3 e3 v3, T = [(f0, e0, v0), (f1, e1, v1), (f2, e2, v2), (f3, e3, v3)] := by
  match T, h with
  | [(f0, e0, v0), (f1, e1, v1), (f2, e2, v2), (f3, e3, v3)], _ => exact ⟨_, _, _, _, _, _, _, _, _, _, _, _, rfl⟩
theorem VFor_any {w : World} {b : Nat} {T : List Vt} (h : IsVs w b T) (view : Int) (hv0 : 0 ≤ view) :
    Calls Tryd.prog 19 #[.pointer (some ⟨b, 0, none⟩), .int .u32 view] w fun e w' => ∃ ov, e = .returned ov ∧ OwnV w' (fun k => k < w.heap.size) ov (fF view T) ∧ Frm (fun _ => False) w w' := by
  obtain ⟨f0, e0, v0, f1, e1, v1, f2, e2, v2, f3, e3, v3, rfl⟩ := four h.len
  exact VFor_calls h view hv0
theorem VDrop_any {w : World} {b : Nat} {T : List Vt} (h : IsVs w b T) (view : Int) : Calls Tryd.prog 13 #[.pointer (some ⟨b, 0, none⟩), .int .u32 view] w fun e w' => e = .returned (.tuple #[]) ∧ IsVs w' b (T.map (dP view)) ∧ Frm (· = b) w w' := by
  obtain ⟨f0, e0, v0, f1, e1, v1, f2, e2, v2, f3, e3, v3, rfl⟩ := four h.len
  exact VDrop_calls h view
end Go.Proofs.YtkpeoenbeaapoaaDoor
