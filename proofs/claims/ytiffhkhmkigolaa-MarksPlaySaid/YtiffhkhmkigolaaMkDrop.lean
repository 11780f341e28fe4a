/- Marks: Drop, Len, Forget. -/
import Derived.Test.YtiffhkhmkigolaaMkAny
namespace Go.Proofs.Ytiffhkhmkigolaa
open Go.RowKit Go.ChangeShapes
set_option linter.unusedVariables false
set_option linter.unusedSimpArgs false
set_option maxRecDepth 100000
section
variable {w : World} {o : Oper} {a : Act} {K : Act → World → Prop} {Q : Exit → Act → World → Prop} {k e t : TypeId} {b r n cnt : Nat} {f : Value → Option Value} {left : Value → Prop}
/-- delete(m, key) of a key that has come, at the operation itself. -/
theorem wp_mp_rdel (m x : Operand) (hop : o.op = Op.call { callee := Callee.builtin Builtin.delete, args := #[m, x], argTypes := #[t, k] }) (h : Rng k w b r n f left cnt) (K0 : Go.Maps.Keyed Try.prog k) (ht : Try.prog.underlying t = some (.map k e)) (key : Value) (kl : Lit) (hkey : keyOf Try.prog k key = some kl) (hl : ¬ left key) {f' : Value → Option Value} (hu : IsUpd f f' key none)
    (hm : a.eval m = .map (some b)) (hx : a.eval x = key)
    (hK : ∀ w' cnt' n', Rng k w' b r n' f' left cnt' → cnt' ≤ cnt → n' ≤ n → Frm (· = b) w w' → w'.heap.size = w.heap.size → K (a.put o.dst (.tuple #[])) w') :
    o.wp Try.prog a w K Q := by
  obtain ⟨w', cnt', n', hrun, r1, r2, r3, r4, r5⟩ := h.del K0 ht hkey hl hu o.type
  unfold Oper.wp
  simp [execOp, hop, resolve, invoke, builtin, hm, hx, hrun, Result.andThen]
  exact hK w' cnt' n' r1 r2 r3 r4 r5
end
def dropS (low : Int) (σ : Has) : Has := fun m i => if m.1 < low then false else σ m i
theorem dropS_lt {low : Int} {σ : Has} {m : Mk} (h : m.1 < low) : anyB (dropS low σ m) = false := by unfold dropS anyB; simp [h]
theorem dropS_ge {low : Int} {σ : Has} {m : Mk} (h : ¬ m.1 < low) : dropS low σ m = σ m := by funext i; unfold dropS; rw [if_neg h]
/-- How far the dropping has come. -/
structure CutM (low : Int) (σ : Has) (f1 : Value → Option Value) (left : Value → Prop) : Prop where
  is : ∀ x, f1 x = fM σ x ∨ f1 x = none ∧ ∃ m : Mk, x = mkV m ∧ m.1 < low
  to : ∀ m : Mk, m.1 < low → f1 (mkV m) ≠ none → left (mkV m)
theorem CutM.zero (low : Int) (σ : Has) : CutM low σ (fM σ) (fun key => fM σ key ≠ none) := ⟨fun _ => .inl rfl, fun _ _ h => h⟩
theorem CutM.done {low : Int} {σ : Has} {f1 : Value → Option Value} {left : Value → Prop} (h : CutM low σ f1 left) (hl : ∀ k, ¬ left k) : f1 = fM (dropS low σ) := by
  funext x
  rcases h.is x with h1 | ⟨h1, m, rfl, hm⟩
  · rw [h1]
    cases hx : fM σ x with
    | none =>
      cases hx2 : fM (dropS low σ) x with
      | none => rfl
      | some v =>
        obtain ⟨m, rfl, _, hm⟩ := fM_inv hx2
        by_cases hlt : m.1 < low
        · rw [dropS_lt hlt] at hm; cases hm
        · rw [dropS_ge hlt] at hm
          rw [fM_at, if_pos hm] at hx; cases hx
    | some v =>
      obtain ⟨m, rfl, hv, hm⟩ := fM_inv hx
      by_cases hlt : m.1 < low
      · exact absurd (h.to m hlt (by rw [h1, hx]; simp)) (hl _)
      · rw [fM_at, dropS_ge hlt, if_pos hm, hv]
  · rw [h1, fM_at, if_neg (by rw [dropS_lt hm]; decide)]
theorem CutM.keep {low : Int} {σ : Has} {f1 : Value → Option Value} {left : Value → Prop} (h : CutM low σ f1 left) {m : Mk} (hm : ¬ m.1 < low) : CutM low σ f1 (strike left (mkV m)) :=
  ⟨h.is, fun m' h1 h2 => ⟨h.to m' h1 h2, fun e => hm (mkV_inj e ▸ h1)⟩⟩
theorem CutM.cut {low : Int} {σ : Has} {f1 f2 : Value → Option Value} {left : Value → Prop} (h : CutM low σ f1 left) {m : Mk} (hm : m.1 < low) (hu : IsUpd f1 f2 (mkV m) none) : CutM low σ f2 (strike left (mkV m)) :=
  ⟨fun x => by
    by_cases e : x = mkV m
    · rw [e]; exact .inr ⟨hu.eq, m, rfl, hm⟩
    · rw [hu.ne x e]; exact h.is x,
   fun m' h1 h2 => by
    by_cases e : mkV m' = mkV m
    · rw [e] at h2; exact absurd hu.eq h2
    · rw [hu.ne _ e] at h2
      exact ⟨h.to m' h1 h2, e⟩⟩
def dropH (low : Int) (H : Nat → List Mk) : Nat → List Mk := fun i => (H i).filter fun m => decide (low ≤ m.1)
theorem St_drop (low : Int) (H : Nat → List Mk) : dropS low (St H) = St (dropH low H) := by
  funext m i
  unfold dropS St dropH
  by_cases h : m.1 < low
  · rw [if_pos h]
    exact (decide_eq_false (fun e => by have := (List.mem_filter.1 e).2; rw [decide_eq_true_iff] at this; omega)).symm
  · rw [if_neg h]
    exact decide_eq_decide.2 ⟨fun e => List.mem_filter.2 ⟨e, decide_eq_true (by omega)⟩, fun e => (List.mem_filter.1 e).1⟩
theorem OkH.sub {H H' : Nat → List Mk} (h : OkH H) (hs : ∀ i, i < 4 → (H' i).Sublist (H i)) : OkH H' :=
  ⟨fun i hi => (h.down i hi).sublist (hs i hi), fun i hi => Nat.le_trans (hs i hi).length_le (h.two i hi), fun i hi m hm => h.ok i hi m ((hs i hi).subset hm)⟩
set_option maxHeartbeats 16000000 in
theorem MDrop_calls {w : World} {lb mb N : Nat} {H : Nat → List Mk} (h : IsMs w lb mb N H) (low : Int) :
    Calls Try.prog 13 #[.pointer (some ⟨lb, 0, none⟩), .int .u32 low] w fun e w' => e = .returned (.tuple #[]) ∧ IsMs w' lb mb N (dropH low H) ∧ Frm (· = mb) w w' := by
  have q0 := h.im.cell
  obtain ⟨n, hn, hm⟩ := h.im.map
  have HM := hid hm; have HN := hid hn; have HLT := hid h.im.lt; have HE := hid h; have HLM := hid h.im.lm
  obtain ⟨σ, hσ⟩ : ∃ σ, St H = σ := ⟨_, rfl⟩
  have HSG := hid hσ
  rw [hσ] at HM
  have HBL := hid h.im.blk
  clear h hn hm hσ
  go_enter Try.func13, Try.ntmps13
  go_wp2_with (at_range; refine wpList_mp_range rfl _ rfl HM.out u_mm rfl ?_; intro w1 hrg hg1 hs1; have HRG := hid hrg; have HG1 := hid hg1; clear hrg hg1 hs1)
  try go_frame
  clear q0
  go_loopw [4] (fun _ wr => ∃ (f1 : Value → Option Value) (left : Value → Prop) (cnt n1 : Nat), Rng TMk wr mb w.heap.size n1 f1 left cnt ∧ n1 ≤ n ∧ CutM low σ f1 left ∧ Blk wr lb [.map (some mb)] TMs ∧ Frm (· = mb) w wr) (fun _ wr => wr.rangeLeft mb w.heap.size)
  case atStart => exact ⟨fM σ, _, n, n, HRG.out, Nat.le_refl _, CutM.zero _ _, HBL.out.frm HG1.out (fun h => h), HG1.out.mono (fun _ _ h => h.elim)⟩
  case round =>
    clear HRG HG1 HM
    obtain ⟨f1, left, cnt, n1, hrg, hn1, hc, hb, hf⟩ := hrel
    have HRG := hid hrg; have HN1 := hid hn1; have HC := hid hc; have HB := hid hb; have HF := hid hf
    have HINV := hid (show ∀ key v, f1 key = some v → (∃ x : KX, key = .agg #[.int .u32 x.s, .int .u64 x.r]) ∧ ∃ y : BX, v = .agg #[.bool y.a, .bool y.b, .bool y.c, .bool y.d] from fun key v hf => by
      rcases hc.is key with h1 | ⟨h1, _⟩
      · exact fM_inv2 (h1 ▸ hf)
      · rw [h1] at hf; cases hf)
    have HRN := hid (rng_ne hrg hb)
    clear hrg hn1 hc hb hf
    go_wp2_with (at_next; refine wpList_mp_next rfl _ rfl (fun x : KX => .agg #[.int .u32 x.s, .int .u64 x.r]) (fun y : BX => .agg #[.bool y.a, .bool y.b, .bool y.c, .bool y.d]) HRG.out (fun key v hf => HINV.out key v hf) rfl ?_ ?_)
    · intro hl0 hc0
      have HDN := hid (HC.out.done hl0)
      clear hl0 hc0
      go_wp2
      go_end0
      refine ⟨rfl, ⟨⟨HB.out, n1, Nat.le_trans HN1.out HN.out, ?_⟩, HE.out.ok.sub fun i hi => List.filter_sublist⟩, HF.out⟩
      rw [← St_drop, HSG.out, ← HDN.out]
      exact HRG.out.mp
    · intro x y w2 cnt2 hlk hfk hrg2 hlt2 hg2 hs2 hen
      obtain ⟨xs, xr⟩ := x
      obtain ⟨y0, y1, y2, y3⟩ := y
      dsimp only at hen
      obtain ⟨kl, hkl⟩ := hrg2.mp.isKey hfk
      have HKL := hid (show keyOf Try.prog TMk (mkV (xs, xr)) = some kl from hkl)
      have HR2 := hid hrg2; have HLT2 := hid hlt2
      have HF2 := hid (HF.out.trans' hg2 (fun i hi e => by omega))
      have HB2 := hid (HB.out.frm hg2 (fun e => HRN.out e.symm))
      clear hlk hfk hrg2 hlt2 hg2 hs2 hkl HF HB HINV
      by_cases hx : xs < low
      · obtain ⟨f2, hf2⟩ := upd_ex f1 (mkV (xs, xr)) none
        have HU := hid hf2
        have HCC := hid (HC.out.cut (m := (xs, xr)) hx hf2)
        clear hf2
        go_wp2_with fail
        have hfa : Frm (fun _ => False) w2 (w2.alloc (.cells #[.int .u32 xs, .int .u64 xr] TMk)).drew := (mbox _ _).trans (frm_drew _)
        have HR3 := hid (HR2.out.frm hfa (fun h => h) (fun h => h)); have HB3 := hid (HB2.out.frm hfa (fun h => h)); have HF3 := hid (HF2.out.trans' hfa (fun _ _ h => h.elim))
        have HX3 := hid ((Blk.new w2 (mkC (xs, xr)) TMk).frm (frm_drew _) (fun h => h))
        obtain ⟨w3, hw3⟩ : ∃ w3, w2.alloc (.cells #[.int .u32 xs, .int .u64 xr] TMk) = w3 := ⟨_, rfl⟩
        have HXL := hid (show ¬ w2.heap.size = mb by have := HF2.out.size; have := HLT.out; omega)
        obtain ⟨xb, hxb⟩ : ∃ xb, w2.heap.size = xb := ⟨_, rfl⟩
        have HW3 := hid (show (w2.alloc (.cells (mkC (xs, xr)).toArray TMk)) = w3 from hw3)
        rw [HW3.out, hxb] at HX3
        rw [hw3] at HR3 HB3 HF3
        rw [hw3, hxb]
        rw [hxb] at HXL
        clear hw3 hxb hfa HW3
        refine wp_region_held_drew (S := fun wx => wx.cell? ⟨lb, 0, none⟩ = some (.map (some mb)) ∧ wx.cell? ⟨xb, 0, none⟩ = some (.int .u32 xs) ∧ wx.cell? ⟨xb, 1, none⟩ = some (.int .u64 xr)) (by kernel_rfl) ?_ (fun hHeld => ?_)
        · exact ⟨HB3.out.cell 0, HX3.out.cell 0, HX3.out.cell 1⟩
        refine wpAnyH_take (i := 0) (oi := ⟨some 18, _, _, _, _, _⟩) (v := ?v1) rfl (by kernel_rfl) (by kernel_rfl) (by kernel_rfl) (fun _ _ _ h => h) (Or.inl ⟨by rfl, ?y1⟩) (by assumption) ?r1
        case y1 => (intro wx hSx; (try dsimp only at hSx); go_simp; (try with_reducible rfl))
        try simp only [Act.put, List.setIfInBounds_toArray, List.set_cons_zero, List.set_cons_succ]
        refine wpAnyH_take (i := 1) (oi := ⟨some 19, _, _, _, _, _⟩) (v := ?v2) rfl (by kernel_rfl) (by kernel_rfl) (by kernel_rfl) (fun _ _ _ h => h) (Or.inl ⟨by rfl, ?y2⟩) (by assumption) ?r2
        case y2 => (intro wx hSx; (try dsimp only at hSx); go_simp; (try with_reducible rfl))
        try simp only [Act.put, List.setIfInBounds_toArray, List.set_cons_zero, List.set_cons_succ]
        refine wpAnyH_take (i := 2) (oi := ⟨some 20, _, _, _, _, _⟩) (v := ?v3) rfl (by kernel_rfl) (by kernel_rfl) (by kernel_rfl) (fun _ _ _ h => h) (Or.inl ⟨by rfl, ?y3⟩) (by assumption) ?r3
        case y3 => (intro wx hSx; (try dsimp only at hSx); go_simp; (try with_reducible rfl))
        try simp only [Act.put, List.setIfInBounds_toArray, List.set_cons_zero, List.set_cons_succ]
        refine wpAnyH_take (i := 3) (oi := ⟨some 21, _, _, _, _, _⟩) (v := ?v4) rfl (by kernel_rfl) (by kernel_rfl) (by kernel_rfl) (fun _ _ _ h => h) (Or.inl ⟨by rfl, ?y4⟩) (by assumption) ?r4
        case y4 => (intro wx hSx; (try dsimp only at hSx); go_simp; (try with_reducible rfl))
        try simp only [Act.put, List.setIfInBounds_toArray, List.set_cons_zero, List.set_cons_succ]
        refine wpAnyH_take (i := 4) (oi := ⟨some 22, _, _, _, _, _⟩) (v := ?v5) rfl (by kernel_rfl) (by kernel_rfl) (by kernel_rfl) (fun _ _ _ h => h) (Or.inl ⟨by rfl, ?y5⟩) (by assumption) ?r5
        case y5 => (intro wx hSx; (try dsimp only at hSx); go_simp; (try with_reducible rfl))
        try simp only [Act.put, List.setIfInBounds_toArray, List.set_cons_zero, List.set_cons_succ]
        refine wpAnyH_ready (rs := [5]) (by kernel_rfl) (by simp) ?_
        refine AllReadyH.cons (o := ⟨none, _, _, _, _, _⟩) rfl (fun K hK => ?_) AllReadyH.nil
        refine wp_mp_rdel (.tmp 21) (.tmp 22) rfl HR3.out keyedMk u_mm (mkV (xs, xr)) kl HKL.out (fun h => h.2 rfl) HU.out rfl rfl ?_
        intro w4 cnt4 n4 hr4 hc4 hn4 hf4 hs4
        have HR4 := hid hr4; have HC4 := hid hc4; have HN4 := hid hn4; have HB4 := hid (HB3.out.frm hf4 (fun e => HLM.out e.symm)); have HX4 := hid (HX3.out.frm hf4 (fun e => HXL.out e)); have HF4 := hid (HF3.out.trans hf4)
        clear hr4 hc4 hn4 hf4 hs4
        refine hK.out _ _ ?_ (fun hHeld2 => ?_)
        · ((try dsimp only); (exact ⟨HB4.out.cell 0, HX4.out.cell 0, HX4.out.cell 1⟩))
        clear hK K hHeld; have hHeld := hHeld2; clear hHeld2
        try simp only [Act.put, List.setIfInBounds_toArray, List.set_cons_zero, List.set_cons_succ]
        refine wpAnyH_done (by kernel_rfl) ?_ _
        go_wp2
        go_roundw
        case rel => exact ⟨f2, _, cnt4, n4, HR4.out, Nat.le_trans HN4.out HN1.out, HCC.out, HB4.out, HF4.out⟩
        case measure => rw [HRG.out.left_eq, HR4.out.left_eq]; exact Nat.lt_of_le_of_lt HC4.out HLT2.out
      · have HCC := hid (HC.out.keep (m := (xs, xr)) hx)
        go_wp2
        go_roundw
        case rel => exact ⟨f1, _, cnt2, n1, HR2.out.frm (mbox _ _) (fun h => h) (fun h => h), HN1.out, HCC.out, HB2.out.frm (mbox _ _) (fun h => h), HF2.out.trans' (mbox _ _) (fun _ _ h => h.elim)⟩
        case measure => rw [HRG.out.left_eq, (HR2.out.frm (mbox _ _) (fun h => h) (fun h => h)).left_eq]; exact HLT2.out
theorem cntB_m1 (b : Nat → Bool) : cntB b (-1) = (((if b 0 = true then 1 else 0) + (if b 1 = true then 1 else 0) + (if b 2 = true then 1 else 0) + (if b 3 = true then 1 else 0) : Nat) : Int) := by
  have key : ∀ k, pc b (-1) (k + 1) = pc b (-1) k + (if b k = true then 1 else 0) := fun k => by
    show pc b (-1) k + _ = _
    by_cases h : b k = true
    · rw [if_pos h, if_pos ⟨h, by omega⟩]
    · rw [if_neg h, if_neg (fun e => h e.1)]
  show pc b (-1) 4 = _
  rw [key 3, key 2, key 1, key 0]
  show (0 : Int) + _ + _ + _ + _ = _
  split <;> split <;> split <;> split <;> rfl
def sum4 (f : Nat → Nat) : Nat := f 0 + f 1 + f 2 + f 3
theorem Part.full {H : Nat → List Mk} (h : OkH H) {i : Nat} (hi : i < 4) {left : Value → Prop} {L : List Mk} (hp : Part (St H) i left L) (hl : ∀ k, ¬ left k) : L.length = (H i).length := by
  have hmem : ∀ m, m ∈ L ↔ m ∈ H i := fun m => (hp.mem m).trans ⟨fun e => of_decide_eq_true e.1, fun e => ⟨decide_eq_true e, hl _⟩⟩
  have hnd : (H i).Nodup := (h.down i hi).imp (fun hab e => by rw [e] at hab; omega)
  exact Nat.le_antisymm (nodup_le _ _ hp.nodup fun m hm => (hmem m).1 hm) (nodup_le _ _ hnd fun m hm => (hmem m).2 hm)
theorem Part.le2 {H : Nat → List Mk} (h : OkH H) {i : Nat} (hi : i < 4) {left : Value → Prop} {L : List Mk} (hp : Part (St H) i left L) : L.length ≤ 2 :=
  Nat.le_trans (nodup_le _ _ hp.nodup fun m hm => of_decide_eq_true ((hp.mem m).1 hm).1) (h.two i hi)
/-- How far the counting has come. -/
structure LenI (H : Nat → List Mk) (left : Value → Prop) (n : Nat) : Prop where
  ex : ∃ Ls : Nat → List Mk, (∀ i, i < 4 → Part (St H) i left (Ls i)) ∧ n = sum4 fun i => (Ls i).length
theorem LenI.zero (H : Nat → List Mk) : LenI H (fun key => fM (St H) key ≠ none) 0 := ⟨fun _ => [], fun i hi => Part.zero _ i hi, rfl⟩
theorem LenI.step {H : Nat → List Mk} {left : Value → Prop} {n : Nat} (h : LenI H left n) {x : Mk} (hl : left (mkV x)) {C : Int} (hC : cntB (St H x) (-1) = C) : ∃ c : Nat, C = c ∧ c ≤ 4 ∧ LenI H (strike left (mkV x)) (n + c) := by
  obtain ⟨Ls, hp, hn⟩ := h.ex
  rw [cntB_m1] at hC
  refine ⟨_, hC.symm, by split <;> split <;> split <;> split <;> decide, fun i => if St H x i = true then Ls i ++ [x] else Ls i, fun i hi => ?_, ?_⟩
  · show Part _ _ _ (if St H x i = true then Ls i ++ [x] else Ls i)
    split
    · rename_i hx; exact (hp i hi).yes hl hx
    · rename_i hx; exact (hp i hi).no (by simpa using hx)
  · have key : ∀ i, (if St H x i = true then Ls i ++ [x] else Ls i).length = (Ls i).length + (if St H x i = true then 1 else 0) := fun i => by split <;> simp
    show n + _ = (if St H x 0 = true then Ls 0 ++ [x] else Ls 0).length + (if St H x 1 = true then Ls 1 ++ [x] else Ls 1).length + (if St H x 2 = true then Ls 2 ++ [x] else Ls 2).length + (if St H x 3 = true then Ls 3 ++ [x] else Ls 3).length
    rw [key, key, key, key, hn]
    simp only [sum4]
    omega
theorem LenI.done {H : Nat → List Mk} (hH : OkH H) {left : Value → Prop} {n : Nat} (h : LenI H left n) (hl : ∀ k, ¬ left k) : n = sum4 fun i => (H i).length := by
  obtain ⟨Ls, hp, hn⟩ := h.ex
  rw [hn]
  simp only [sum4]
  rw [(hp 0 (by decide)).full hH (by decide) hl, (hp 1 (by decide)).full hH (by decide) hl, (hp 2 (by decide)).full hH (by decide) hl, (hp 3 (by decide)).full hH (by decide) hl]
theorem LenI.le {H : Nat → List Mk} (hH : OkH H) {left : Value → Prop} {n : Nat} (h : LenI H left n) : n ≤ 8 := by
  obtain ⟨Ls, hp, hn⟩ := h.ex
  have h0 := (hp 0 (by decide)).le2 hH (by decide); have h1 := (hp 1 (by decide)).le2 hH (by decide); have h2 := (hp 2 (by decide)).le2 hH (by decide); have h3 := (hp 3 (by decide)).le2 hH (by decide)
  simp only [sum4] at hn
  omega
set_option maxHeartbeats 16000000 in
theorem MLen_calls {w : World} {lb mb N : Nat} {H : Nat → List Mk} (h : IsMs w lb mb N H) :
    Calls Try.prog 21 #[.pointer (some ⟨lb, 0, none⟩)] w fun e w' => e = .returned (.int .i64 (sum4 fun i => (H i).length : Nat)) ∧ Frm (fun _ => False) w w' := by
  have q0 := h.im.cell
  obtain ⟨n, hn, hm⟩ := h.im.map
  have HM := hid hm; have HE := hid h
  clear h hn hm
  go_enter Try.func21, Try.ntmps21
  go_wp2_with (at_range; refine wpList_mp_range rfl _ rfl HM.out u_mm rfl ?_; intro w1 hrg hg1 hs1; have HRG := hid hrg; have HG1 := hid hg1; clear hrg hg1 hs1)
  try go_frame
  clear q0
  go_loopw [3] (fun nv wr => ∃ (k : Nat) (left : Value → Prop) (cnt : Nat), nv = .int .i64 k ∧ Rng TMk wr mb w.heap.size n (fM (St H)) left cnt ∧ LenI H left k ∧ Frm (fun _ => False) w wr) (fun _ wr => wr.rangeLeft mb w.heap.size)
  case atStart => exact ⟨0, _, n, rfl, HRG.out, LenI.zero H, HG1.out⟩
  case round =>
    clear HRG HG1 HM
    obtain ⟨k, left, cnt, rfl, hrg, hp, hf⟩ := hrel
    have HRG := hid hrg; have HP := hid hp; have HF := hid hf
    have hk8 : (k : Int) ≤ 8 := by have := hp.le HE.out.ok; omega
    have hk0 : (0 : Int) ≤ (k : Int) := by omega
    clear hrg hp hf
    go_wp2_with (at_next; refine wpList_mp_next rfl _ rfl (fun x : KX => .agg #[.int .u32 x.s, .int .u64 x.r]) (fun y : BX => .agg #[.bool y.a, .bool y.b, .bool y.c, .bool y.d]) HRG.out (fun key v hf => fM_inv2 hf) rfl ?_ ?_)
    · intro hl0 hc0
      have HDN := hid (HP.out.done HE.out.ok hl0)
      clear hl0 hc0
      go_wp2
      go_ret
      exact ⟨ret_int (by rw [HDN.out]), HF.out⟩
    · intro x y w2 cnt2 hlk hfk hrg2 hlt2 hg2 hs2 hen
      obtain ⟨xs, xr⟩ := x
      obtain ⟨y0, y1, y2, y3⟩ := y
      obtain ⟨m, hm1, hm2, hm3⟩ := fM_inv hfk
      obtain rfl : (xs, xr) = m := mkV_inj hm1
      have HKX := hid (HE.out.okK _ hm3)
      dsimp only at hen
      have HR2 := hid hrg2; have HLT2 := hid hlt2
      have HF2 := hid (HF.out.trans' hg2 (fun i hi e => by omega))
      obtain ⟨c, hC, hc4, hI⟩ := HP.out.step (x := (xs, xr)) hlk rfl
      have HC := hid hC; have HI := hid hI
      have hc4i : (c : Int) ≤ 4 := by omega
      have hc0i : (0 : Int) ≤ (c : Int) := by omega
      clear hlk hfk hrg2 hlt2 hg2 hs2 hm1 hm2 hm3 HF hC hI hc4
      go_wp2_with (go_at_call 11; (with_reducible refine (MCount_calls ((HE.out.quiet HF2.out).quiet (mbox _ _)).im (xs, xr) HKX.out (-1) c HC.out).mono ?_); rintro e w5 ⟨rfl, rfl⟩; skip)
      go_roundw
      case rel => exact ⟨k + c, _, cnt2, by first | rfl | go_num, HR2.out.frm (mbox _ _) (fun h => h) (fun h => h), HI.out, HF2.out.trans (mbox _ _)⟩
      case measure => rw [HRG.out.left_eq, (HR2.out.frm (mbox _ _) (fun h => h) (fun h => h)).left_eq]; exact HLT2.out
def forgH (H : Nat → List Mk) (n : Nat) : Nat → List Mk := updH H n []
theorem St_forg {H : Nat → List Mk} (h : OkH H) (n : Nat) (hn : n < 4) (j : Nat) (m : Mk) (hj : (H n)[j]? = some m) : updM (St (updH H n ((H n).drop j))) m n false = St (updH H n ((H n).drop (j + 1))) := by
  have hjl := (List.getElem?_eq_some_iff.1 hj).1
  have hm := (List.getElem?_eq_some_iff.1 hj).2
  have hd : Down ((H n).drop j) := (h.down n hn).sublist (List.drop_sublist ..)
  have hc : (H n).drop j = m :: (H n).drop (j + 1) := by rw [List.drop_eq_getElem_cons hjl, hm]
  rw [hc] at hd ⊢
  have hnot : m ∉ (H n).drop (j + 1) := fun e => by have := (List.pairwise_cons.1 hd).1 m e; omega
  funext x i
  unfold updM St updH
  by_cases hi : i = n
  · subst hi
    rw [if_pos rfl]
    by_cases e : x = m
    · rw [if_pos ⟨e, rfl⟩, if_pos rfl]; exact (decide_eq_false (e ▸ hnot)).symm
    · rw [if_neg (fun h => e h.1), if_pos rfl]
      exact decide_eq_decide.2 ⟨fun h => (List.mem_cons.1 h).resolve_left e, fun h => List.mem_cons_of_mem _ h⟩
  · rw [if_neg (fun h => hi h.2), if_neg hi, if_neg hi]
theorem OkH.upd {H : Nat → List Mk} (h : OkH H) (n : Nat) {L : List Mk} (hs : L.Sublist (H n)) : OkH (updH H n L) := h.sub fun i hi => by
  unfold updH
  split
  · rename_i e; rw [e]; exact hs
  · exact List.Sublist.refl _
set_option maxHeartbeats 16000000 in
theorem MForget_calls {w : World} {lb mb N : Nat} {H : Nat → List Mk} (h : IsMs w lb mb N H) (hN : N ≤ 90000) (n : Nat) (hn : n < 4) (F : Int) (hF : F = n) :
    Calls Try.prog 15 #[.pointer (some ⟨lb, 0, none⟩), .int .u8 F] w fun e w' => e = .returned (.tuple #[]) ∧ IsMs w' lb mb (N + 2) (forgH H n) ∧ Frm (· = mb) w w' := by
  subst hF
  have HE := hid h; have HN := hid hn; have HNN := hid hN; have HLT := hid h.im.lt
  have HOK := hid h.ok
  obtain ⟨L, hL⟩ : ∃ L, (H n).length = L := ⟨_, rfl⟩
  have HL := hid hL
  have hl2 : (L : Int) ≤ 2 := by have := h.ok.two n hn; omega
  have hl0 : (0 : Int) ≤ (L : Int) := by omega
  clear h hn hN hL
  go_enter Try.func15, Try.ntmps15
  go_wp2_with (go_at_call 24; (with_reducible refine (of_calls HE.out.im n HN.out n rfl (St_of HE.out.ok n HN.out)).mono ?_); rintro e w1 ⟨ov, rfl, ho, f'⟩; obtain ⟨oa, oc, hov⟩ := ho.slice; subst hov; (rw [HL.out] at ho ⊢); have HO := hid ho; have HE1 := hid (HE.out.quiet f'); have HF1 := hid f'; clear ho f' HE)
  go_loopw [10] (fun jv wr => ∃ j : Nat, j ≤ L ∧ jv = .int .i64 j ∧ IsMs wr lb mb (N + j) (updH H n ((H n).drop j)) ∧ OwnM wr (fun k => k < w.heap.size) (.slice oa L oc) (H n) ∧ Frm (· = mb) w wr) (fun jv _ => L - (intOf jv).toNat)
  case atStart => exact ⟨0, by omega, rfl, by
    rw [show updH H n ((H n).drop 0) = H from by funext i; unfold updH; split; rename_i e; rw [e]; rfl; rfl]; exact HE1.out, HO.out, HF1.out.mono (fun _ _ h => h.elim)⟩
  case round =>
    clear HE1 HO HF1
    obtain ⟨j, hj, rfl, he, ho, hf⟩ := hrel
    have HE := hid he; have HO := hid ho; have HF := hid hf; have HJ := hid hj
    clear he ho hf
    by_cases hlt : j < L
    · obtain ⟨x, hx⟩ : ∃ x, (H n)[j]? = some x := ⟨_, List.getElem?_eq_getElem (by rw [HL.out]; exact hlt)⟩
      obtain ⟨g, c, hv, _, _, _⟩ := HO.out.at_ (by rw [HL.out]; omega)
      injection hv with e1 e2 e3
      subst e1 e3
      have c0 := HO.out.cells j x hx 0 (by decide); have c1 := HO.out.cells j x hx 1 (by decide)
      simp only [mkC, List.getElem?_cons_succ, List.getElem?_cons_zero, Nat.add_zero] at c0 c1
      have HX := hid hx; have HLTJ := hid hlt
      have HXK := hid (HOK.out.ok n HN.out x (List.mem_of_getElem? hx))
      have HSF := hid (St_forg HOK.out n HN.out j x hx)
      have HOU := hid (HOK.out.upd n (List.drop_sublist (j + 1) (H n)))
      have hjl : (j : Int) < (L : Int) := by omega
      have hj0 : (0 : Int) ≤ (j : Int) := by omega
      obtain ⟨xs, xr⟩ := x
      dsimp only at c0 c1
      clear hx hlt e2 hj
      go_wp2_with (go_at_call 26; (with_reducible refine (sets_calls (HE.out.im.quiet (mbox _ _)) (by have := HNN.out; have := HLTJ.out; omega) (xs, xr) HXK.out n n rfl HN.out false).mono ?_); rintro e w5 ⟨rfl, he, f'⟩; have HE5 := hid he; have HO5 := hid ((HO.out.quiet (mbox _ _)).frm f' (fun k hk e => HO.out.off k hk (by rw [e]; exact HLT.out.2))); have HF5 := hid ((HF.out.trans' (mbox _ _) (fun _ _ h => h.elim)).trans f'); clear he f')
      go_roundw
      case rel => exact ⟨j + 1, by have := HLTJ.out; omega, rfl, ⟨HSF.out ▸ HE5.out, HOU.out⟩, HO5.out, HF5.out⟩
      case measure => have := HLTJ.out; simp [intOf]; omega
    · have hje : j = L := by omega
      subst hje
      clear hlt hj
      go_wp2
      go_end0
      refine ⟨rfl, ?_, HF.out⟩
      have hd : (H n).drop j = [] := List.drop_of_length_le (by rw [HL.out]; exact Nat.le_refl _)
      have := HE.out
      rw [hd] at this
      exact this.more (by have := HJ.out; omega)
end Go.Proofs.Ytiffhkhmkigolaa
