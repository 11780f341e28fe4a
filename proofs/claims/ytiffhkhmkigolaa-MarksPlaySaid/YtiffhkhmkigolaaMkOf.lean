/- Marks: a replica's marks, the greatest first. -/
import Derived.Test.YtiffhkhmkigolaaMkSets
namespace Go.Proofs.Ytiffhkhmkigolaa
open Go.RowKit Go.ChangeShapes
set_option linter.unusedVariables false
set_option linter.unusedSimpArgs false
set_option maxRecDepth 100000
theorem blkM (w : World) (m : Mk) (g : Nat) (h : w.heap.size = g) : Blk (w.alloc (.cells #[.int .u32 m.1, .int .u64 m.2] TMk)) g (mkC m) TMk := h ▸ Blk.new w (mkC m) TMk
/-- In order, the greatest place first. -/
def Down (H : List Mk) : Prop := H.Pairwise (fun a b => b.1 < a.1)
theorem down_of {l : List Mk} (h : ∀ p q, p < q → q < l.length → sq l q < sq l p) : Down l := by
  refine List.pairwise_iff_getElem.2 fun i j hi hj hij => ?_
  have := h i j hij hj
  unfold sq at this
  rw [List.getD_eq_getElem?_getD, List.getD_eq_getElem?_getD, List.getElem?_eq_getElem hi, List.getElem?_eq_getElem hj] at this
  exact this
theorem down_eq : ∀ (l h : List Mk), Down l → Down h → (∀ m, m ∈ l ↔ m ∈ h) → l = h := by
  intro l
  induction l with
  | nil =>
    intro h _ _ hm
    cases h with
    | nil => rfl
    | cons b h => exact absurd ((hm b).2 (List.mem_cons_self ..)) (by simp)
  | cons a l ih =>
    intro h hl hh hm
    cases h with
    | nil => exact absurd ((hm a).1 (List.mem_cons_self ..)) (by simp)
    | cons b h =>
      obtain ⟨h1, h2⟩ := List.pairwise_cons.1 hl
      obtain ⟨h3, h4⟩ := List.pairwise_cons.1 hh
      have hab : a = b := by
        rcases List.mem_cons.1 ((hm a).1 (List.mem_cons_self ..)) with e | e
        · exact e
        · rcases List.mem_cons.1 ((hm b).2 (List.mem_cons_self ..)) with e2 | e2
          · exact e2.symm
          · have := h3 a e; have := h1 b e2; omega
      subst hab
      rw [ih h h2 h4 fun m => ?_]
      constructor
      · intro hml
        rcases List.mem_cons.1 ((hm m).1 (List.mem_cons_of_mem _ hml)) with e | e
        · have := h1 m hml; rw [e] at this; omega
        · exact e
      · intro hml
        rcases List.mem_cons.1 ((hm m).2 (List.mem_cons_of_mem _ hml)) with e | e
        · have := h3 m hml; rw [e] at this; omega
        · exact e
theorem nodup_le : ∀ (l h : List Mk), l.Nodup → (∀ m, m ∈ l → m ∈ h) → l.length ≤ h.length := by
  intro l
  induction l with
  | nil => intro h _ _; exact Nat.zero_le _
  | cons a l ih =>
    intro h hn hs
    obtain ⟨h1, h2⟩ := List.nodup_cons.1 hn
    have ha := hs a (List.mem_cons_self ..)
    have := ih (h.erase a) h2 fun m hm => (List.mem_erase_of_ne (fun e => h1 (by rw [← e]; exact hm))).2 (hs m (List.mem_cons_of_mem _ hm))
    rw [List.length_erase_of_mem ha] at this
    have hp : 0 < h.length := List.length_pos_of_mem ha
    rw [List.length_cons]; omega
/-- H: the marks that replica n has. -/
structure OfH (σ : Has) (n : Nat) (H : List Mk) : Prop where
  mem : ∀ m, m ∈ H ↔ σ m n = true
  down : Down H
  few : H.length ≤ 3
/-- How far the gathering has come. -/
structure Part (σ : Has) (n : Nat) (left : Value → Prop) (L : List Mk) : Prop where
  mem : ∀ m, m ∈ L ↔ σ m n = true ∧ ¬ left (mkV m)
  nodup : L.Nodup
theorem any_of {b : Nat → Bool} {n : Nat} (hn : n < 4) (h : b n = true) : anyB b = true := by
  rcases (show n = 0 ∨ n = 1 ∨ n = 2 ∨ n = 3 by omega) with rfl | rfl | rfl | rfl <;> simp [anyB, h]
theorem Part.zero (σ : Has) (n : Nat) (hn : n < 4) : Part σ n (fun key => fM σ key ≠ none) [] :=
  ⟨fun m => ⟨fun h => by simp at h, fun h => absurd (show fM σ (mkV m) ≠ none by rw [fM_at, if_pos (any_of hn h.1)]; simp) h.2⟩, List.nodup_nil⟩
theorem Part.yes {σ : Has} {n : Nat} {left : Value → Prop} {L : List Mk} (h : Part σ n left L) {x : Mk} (hl : left (mkV x)) (hx : σ x n = true) : Part σ n (strike left (mkV x)) (L ++ [x]) := by
  have hnl : x ∉ L := fun e => ((h.mem x).1 e).2 hl
  refine ⟨fun m => ?_, ?_⟩
  · rw [List.mem_append, h.mem m, List.mem_singleton]
    constructor
    · rintro (⟨h1, h2⟩ | rfl)
      · exact ⟨h1, fun e => h2 e.1⟩
      · exact ⟨hx, fun e => e.2 rfl⟩
    · rintro ⟨h1, h2⟩
      by_cases e : m = x
      · exact .inr e
      · exact .inl ⟨h1, fun e2 => h2 ⟨e2, fun e3 => e (mkV_inj e3)⟩⟩
  · refine List.nodup_append.2 ⟨h.nodup, by simp, fun a ha b hb => ?_⟩
    rw [List.mem_singleton] at hb
    rintro rfl
    exact hnl (hb ▸ ha)
theorem Part.no {σ : Has} {n : Nat} {left : Value → Prop} {L : List Mk} (h : Part σ n left L) {x : Mk} (hx : σ x n = false) : Part σ n (strike left (mkV x)) L :=
  ⟨fun m => (h.mem m).trans ⟨fun h => ⟨h.1, fun e => h.2 e.1⟩, fun h => ⟨h.1, fun e2 => h.2 ⟨e2, fun e3 => by rw [mkV_inj e3, hx] at h; exact absurd h.1 (by decide)⟩⟩⟩, h.nodup⟩
theorem Part.few {σ : Has} {n : Nat} {left : Value → Prop} {L H : List Mk} (h : Part σ n left L) (hH : OfH σ n H) : L.length ≤ 3 :=
  Nat.le_trans (nodup_le L H h.nodup fun m hm => (hH.mem m).2 ((h.mem m).1 hm).1) hH.few
theorem down_inj {H : List Mk} (h : Down H) {a b : Mk} (ha : a ∈ H) (hb : b ∈ H) (e : a.1 = b.1) : a = b := by
  obtain ⟨i, hi⟩ := List.mem_iff_getElem?.1 ha
  obtain ⟨j, hj⟩ := List.mem_iff_getElem?.1 hb
  obtain ⟨hi1, hi2⟩ := List.getElem?_eq_some_iff.1 hi
  obtain ⟨hj1, hj2⟩ := List.getElem?_eq_some_iff.1 hj
  have key := List.pairwise_iff_getElem.1 h
  rcases Nat.lt_trichotomy i j with hij | hij | hij
  · have := key i j hi1 hj1 hij; rw [hi2, hj2] at this; omega
  · subst hij; rw [← hi2, ← hj2]
  · have := key j i hj1 hi1 hij; rw [hi2, hj2] at this; omega
theorem Part.alike {σ : Has} {n : Nat} {left : Value → Prop} {L H : List Mk} (h : Part σ n left L) (hH : OfH σ n H) : Alike L L :=
  ⟨rfl, fun _ => Iff.rfl, fun p q hpq hp hq e => by
    unfold sq at e
    rw [List.getD_eq_getElem?_getD, List.getD_eq_getElem?_getD, List.getElem?_eq_getElem hp, List.getElem?_eq_getElem hq] at e
    have hin : ∀ m, m ∈ L → m ∈ H := fun m hm => (hH.mem m).2 ((h.mem m).1 hm).1
    have := down_inj hH.down (hin _ (List.getElem_mem hp)) (hin _ (List.getElem_mem hq)) e
    exact hpq ((List.getElem_inj h.nodup).1 this)⟩
theorem Part.done {σ : Has} {n : Nat} {left : Value → Prop} {L H L' : List Mk} (h : Part σ n left L) (hl : ∀ k, ¬ left k) (hH : OfH σ n H) (ha : Alike L L') (hs : ∀ p q, p < q → q < L.length → sq L' q < sq L' p) : L' = H :=
  down_eq L' H (down_of fun p q h1 h2 => hs p q h1 (by rw [← ha.len]; exact h2)) hH.down fun m => (ha.mem m).trans ((h.mem m).trans ⟨fun e => (hH.mem m).2 e.1, fun e => ⟨(hH.mem m).1 e, hl _⟩⟩)
theorem OwnM.mono {w : World} {A A' : Nat → Prop} {v : Value} {l : List Mk} (h : OwnM w A v l) (ha : ∀ k, A' k → A k) : OwnM w A' v l := ⟨h.own, fun k hk e => h.off k hk (ha k e)⟩
structure KX where
  s : Int
  r : Int
structure BX where
  a : Bool
  b : Bool
  c : Bool
  d : Bool
theorem fM_inv2 {σ : Has} {key v : Value} (h : fM σ key = some v) : (∃ x : KX, key = .agg #[.int .u32 x.s, .int .u64 x.r]) ∧ ∃ y : BX, v = .agg #[.bool y.a, .bool y.b, .bool y.c, .bool y.d] := by
  obtain ⟨m, h1, h2, _⟩ := fM_inv h
  exact ⟨⟨⟨m.1, m.2⟩, h1⟩, ⟨⟨σ m 0, σ m 1, σ m 2, σ m 3⟩, h2⟩⟩
theorem fM_bits {σ : Has} {x : Mk} {a b c d : Bool} (h : fM σ (.agg #[.int .u32 x.1, .int .u64 x.2]) = some (.agg #[.bool a, .bool b, .bool c, .bool d])) : σ x 0 = a ∧ σ x 1 = b ∧ σ x 2 = c ∧ σ x 3 = d := by
  obtain ⟨m, h1, h2, _⟩ := fM_inv h
  obtain rfl : x = m := mkV_inj h1
  simp [b4V] at h2
  obtain ⟨a, b, c, d⟩ := h2
  exact ⟨a.symm, b.symm, c.symm, d.symm⟩
set_option maxHeartbeats 16000000 in
theorem of_calls0 {w : World} {lb mb N : Nat} {σ : Has} (h : IsMk w lb mb N σ) {H : List Mk} (hH : OfH σ 0 H) :
    Calls Try.prog 24 #[.pointer (some ⟨lb, 0, none⟩), .int .u8 0] w fun e w' => ∃ ov, e = .returned ov ∧ OwnM w' (fun k => k < w.heap.size) ov H ∧ Frm (fun _ => False) w w' := by
  have q0 := h.cell
  obtain ⟨n, hn, hm⟩ := h.map
  have HM := hid hm; have HHH := hid hH; have HLT := hid h.lt
  clear h hn hm hH
  go_enter Try.func24, Try.ntmps24
  go_wp2_with (at_range; refine wpList_mp_range rfl _ rfl HM.out u_mm rfl ?_; intro w1 hrg hg1 hs1; have HRG := hid hrg; have HG1 := hid hg1; have HS1 := hid hs1; clear hrg hg1 hs1)
  try go_frame
  go_loopw [5] (fun ov wr => ∃ (L : List Mk) (left : Value → Prop) (cnt : Nat), Rng TMk wr mb w.heap.size n (fM σ) left cnt ∧ OwnM wr (fun k => k ≤ w.heap.size) ov L ∧ Part σ 0 left L ∧ Frm (fun _ => False) w wr) (fun _ wr => wr.rangeLeft mb w.heap.size)
  case atStart => exact ⟨[], _, n, HRG.out, OwnM.nil _ _, Part.zero σ 0 (by decide), HG1.out⟩
  case round =>
    clear HRG HG1 HS1 HM q0
    obtain ⟨L, left, cnt, hrg, ho, hp, hf⟩ := hrel
    have HRG := hid hrg; have HP := hid hp; have HF := hid hf
    obtain ⟨oa, oc, hov⟩ := ho.slice
    subst hov
    have HO := hid ho
    clear hrg ho hp hf
    go_wp2_with (at_next; refine wpList_mp_next rfl _ rfl (fun x : KX => .agg #[.int .u32 x.s, .int .u64 x.r]) (fun y : BX => .agg #[.bool y.a, .bool y.b, .bool y.c, .bool y.d]) HRG.out (fun key v hf => fM_inv2 hf) rfl ?_ ?_)
    · intro hl0 hc0
      have HL0 := hid hl0
      clear hl0 hc0
      go_wp2_with (go_at_call 28; (with_reducible refine (Sort_calls HO.out (by have := HP.out.few HHH.out; omega) (HP.out.alike HHH.out)).mono ?_); rintro e w5 ⟨rfl, ⟨L', ho', ha', hs'⟩, f'⟩; have HO5 := hid ho'; have HE5 := hid (HP.out.done HL0.out HHH.out ha' hs'); have HF5 := hid (HF.out.trans' f' (fun k hk e => absurd (Nat.le_of_lt hk) (HO.out.off k e))); clear ho' ha' hs' f')
      go_ret
      exact ⟨_, rfl, HE5.out ▸ HO5.out.mono (fun k hk => Nat.le_of_lt hk), HF5.out⟩
    · intro x y w2 cnt2 hlk hfk hrg2 hlt2 hg2 hs2 hen
      obtain ⟨xs, xr⟩ := x
      obtain ⟨hy0, hy1, hy2, hy3⟩ := fM_bits (x := (xs, xr)) hfk
      obtain ⟨y0, y1, y2, y3⟩ := y
      dsimp only at hen hy0 hy1 hy2 hy3
      have HR2 := hid hrg2; have HLT2 := hid hlt2; have HLK := hid hlk
      have HO2 := hid (HO.out.frm hg2 (fun k hk e => HO.out.off k hk (by rw [e]; exact Nat.le_refl _)))
      have HF2 := hid (HF.out.trans' hg2 (fun i hi e => by omega))
      have HY := hid hy0
      have HSZ2 := hid HF2.out.size
      clear hlk hfk hrg2 hlt2 hg2 hs2 hy0 hy1 hy2 hy3 HO HF
      cases y0
      · go_wp2
        go_roundw
        case rel => exact ⟨L, _, cnt2, HR2.out.frm ((mbox _ _).trans (mbox _ _)) (fun h => h) (fun h => h), HO2.out.quiet ((mbox _ _).trans (mbox _ _)), HP.out.no HY.out, HF2.out.trans ((mbox _ _).trans (mbox _ _))⟩
        case measure => rw [HRG.out.left_eq, (HR2.out.frm ((mbox _ _).trans (mbox _ _)) (fun h => h) (fun h => h)).left_eq]; exact HLT2.out
      · go_wp2_with (at_builtin; refine wpList_moreM (xs, xr) rfl _ _ rfl rfl (HO2.out.quiet (((mbox _ _).trans (mbox _ _)).trans (mbox _ _))) (fun k hk => by have := HSZ2.out; simp; omega) (blkM _ (xs, xr) _ (by simp)) (by have := HP.out.few HHH.out; omega) rfl rfl ?_; intro v' w5 ho' hf' hat'; have HR5 := hid ((HR2.out.frm (((mbox _ _).trans (mbox _ _)).trans (mbox _ _)) (fun h => h) (fun h => h)).frm hf' (fun e => HO2.out.off _ e (Nat.le_of_lt HLT.out.2)) (fun e => HO2.out.off _ e (Nat.le_refl _))); have HF5 := hid ((HF2.out.trans (((mbox _ _).trans (mbox _ _)).trans (mbox _ _))).trans' hf' (fun k hk e => absurd (Nat.le_of_lt hk) (HO2.out.off k e))); have HO5 := hid ho'; clear ho' hf' hat')
        go_roundw
        case rel => exact ⟨L ++ [(xs, xr)], _, cnt2, HR5.out, HO5.out, HP.out.yes HLK.out HY.out, HF5.out⟩
        case measure => rw [HRG.out.left_eq, HR5.out.left_eq]; exact HLT2.out
set_option maxHeartbeats 16000000 in
theorem of_calls1 {w : World} {lb mb N : Nat} {σ : Has} (h : IsMk w lb mb N σ) {H : List Mk} (hH : OfH σ 1 H) :
    Calls Try.prog 24 #[.pointer (some ⟨lb, 0, none⟩), .int .u8 1] w fun e w' => ∃ ov, e = .returned ov ∧ OwnM w' (fun k => k < w.heap.size) ov H ∧ Frm (fun _ => False) w w' := by
  have q0 := h.cell
  obtain ⟨n, hn, hm⟩ := h.map
  have HM := hid hm; have HHH := hid hH; have HLT := hid h.lt
  clear h hn hm hH
  go_enter Try.func24, Try.ntmps24
  go_wp2_with (at_range; refine wpList_mp_range rfl _ rfl HM.out u_mm rfl ?_; intro w1 hrg hg1 hs1; have HRG := hid hrg; have HG1 := hid hg1; have HS1 := hid hs1; clear hrg hg1 hs1)
  try go_frame
  go_loopw [5] (fun ov wr => ∃ (L : List Mk) (left : Value → Prop) (cnt : Nat), Rng TMk wr mb w.heap.size n (fM σ) left cnt ∧ OwnM wr (fun k => k ≤ w.heap.size) ov L ∧ Part σ 1 left L ∧ Frm (fun _ => False) w wr) (fun _ wr => wr.rangeLeft mb w.heap.size)
  case atStart => exact ⟨[], _, n, HRG.out, OwnM.nil _ _, Part.zero σ 1 (by decide), HG1.out⟩
  case round =>
    clear HRG HG1 HS1 HM q0
    obtain ⟨L, left, cnt, hrg, ho, hp, hf⟩ := hrel
    have HRG := hid hrg; have HP := hid hp; have HF := hid hf
    obtain ⟨oa, oc, hov⟩ := ho.slice
    subst hov
    have HO := hid ho
    clear hrg ho hp hf
    go_wp2_with (at_next; refine wpList_mp_next rfl _ rfl (fun x : KX => .agg #[.int .u32 x.s, .int .u64 x.r]) (fun y : BX => .agg #[.bool y.a, .bool y.b, .bool y.c, .bool y.d]) HRG.out (fun key v hf => fM_inv2 hf) rfl ?_ ?_)
    · intro hl0 hc0
      have HL0 := hid hl0
      clear hl0 hc0
      go_wp2_with (go_at_call 28; (with_reducible refine (Sort_calls HO.out (by have := HP.out.few HHH.out; omega) (HP.out.alike HHH.out)).mono ?_); rintro e w5 ⟨rfl, ⟨L', ho', ha', hs'⟩, f'⟩; have HO5 := hid ho'; have HE5 := hid (HP.out.done HL0.out HHH.out ha' hs'); have HF5 := hid (HF.out.trans' f' (fun k hk e => absurd (Nat.le_of_lt hk) (HO.out.off k e))); clear ho' ha' hs' f')
      go_ret
      exact ⟨_, rfl, HE5.out ▸ HO5.out.mono (fun k hk => Nat.le_of_lt hk), HF5.out⟩
    · intro x y w2 cnt2 hlk hfk hrg2 hlt2 hg2 hs2 hen
      obtain ⟨xs, xr⟩ := x
      obtain ⟨hy0, hy1, hy2, hy3⟩ := fM_bits (x := (xs, xr)) hfk
      obtain ⟨y0, y1, y2, y3⟩ := y
      dsimp only at hen hy0 hy1 hy2 hy3
      have HR2 := hid hrg2; have HLT2 := hid hlt2; have HLK := hid hlk
      have HO2 := hid (HO.out.frm hg2 (fun k hk e => HO.out.off k hk (by rw [e]; exact Nat.le_refl _)))
      have HF2 := hid (HF.out.trans' hg2 (fun i hi e => by omega))
      have HY := hid hy1
      have HSZ2 := hid HF2.out.size
      clear hlk hfk hrg2 hlt2 hg2 hs2 hy0 hy1 hy2 hy3 HO HF
      cases y1
      · go_wp2
        go_roundw
        case rel => exact ⟨L, _, cnt2, HR2.out.frm ((mbox _ _).trans (mbox _ _)) (fun h => h) (fun h => h), HO2.out.quiet ((mbox _ _).trans (mbox _ _)), HP.out.no HY.out, HF2.out.trans ((mbox _ _).trans (mbox _ _))⟩
        case measure => rw [HRG.out.left_eq, (HR2.out.frm ((mbox _ _).trans (mbox _ _)) (fun h => h) (fun h => h)).left_eq]; exact HLT2.out
      · go_wp2_with (at_builtin; refine wpList_moreM (xs, xr) rfl _ _ rfl rfl (HO2.out.quiet (((mbox _ _).trans (mbox _ _)).trans (mbox _ _))) (fun k hk => by have := HSZ2.out; simp; omega) (blkM _ (xs, xr) _ (by simp)) (by have := HP.out.few HHH.out; omega) rfl rfl ?_; intro v' w5 ho' hf' hat'; have HR5 := hid ((HR2.out.frm (((mbox _ _).trans (mbox _ _)).trans (mbox _ _)) (fun h => h) (fun h => h)).frm hf' (fun e => HO2.out.off _ e (Nat.le_of_lt HLT.out.2)) (fun e => HO2.out.off _ e (Nat.le_refl _))); have HF5 := hid ((HF2.out.trans (((mbox _ _).trans (mbox _ _)).trans (mbox _ _))).trans' hf' (fun k hk e => absurd (Nat.le_of_lt hk) (HO2.out.off k e))); have HO5 := hid ho'; clear ho' hf' hat')
        go_roundw
        case rel => exact ⟨L ++ [(xs, xr)], _, cnt2, HR5.out, HO5.out, HP.out.yes HLK.out HY.out, HF5.out⟩
        case measure => rw [HRG.out.left_eq, HR5.out.left_eq]; exact HLT2.out
set_option maxHeartbeats 16000000 in
theorem of_calls2 {w : World} {lb mb N : Nat} {σ : Has} (h : IsMk w lb mb N σ) {H : List Mk} (hH : OfH σ 2 H) :
    Calls Try.prog 24 #[.pointer (some ⟨lb, 0, none⟩), .int .u8 2] w fun e w' => ∃ ov, e = .returned ov ∧ OwnM w' (fun k => k < w.heap.size) ov H ∧ Frm (fun _ => False) w w' := by
  have q0 := h.cell
  obtain ⟨n, hn, hm⟩ := h.map
  have HM := hid hm; have HHH := hid hH; have HLT := hid h.lt
  clear h hn hm hH
  go_enter Try.func24, Try.ntmps24
  go_wp2_with (at_range; refine wpList_mp_range rfl _ rfl HM.out u_mm rfl ?_; intro w1 hrg hg1 hs1; have HRG := hid hrg; have HG1 := hid hg1; have HS1 := hid hs1; clear hrg hg1 hs1)
  try go_frame
  go_loopw [5] (fun ov wr => ∃ (L : List Mk) (left : Value → Prop) (cnt : Nat), Rng TMk wr mb w.heap.size n (fM σ) left cnt ∧ OwnM wr (fun k => k ≤ w.heap.size) ov L ∧ Part σ 2 left L ∧ Frm (fun _ => False) w wr) (fun _ wr => wr.rangeLeft mb w.heap.size)
  case atStart => exact ⟨[], _, n, HRG.out, OwnM.nil _ _, Part.zero σ 2 (by decide), HG1.out⟩
  case round =>
    clear HRG HG1 HS1 HM q0
    obtain ⟨L, left, cnt, hrg, ho, hp, hf⟩ := hrel
    have HRG := hid hrg; have HP := hid hp; have HF := hid hf
    obtain ⟨oa, oc, hov⟩ := ho.slice
    subst hov
    have HO := hid ho
    clear hrg ho hp hf
    go_wp2_with (at_next; refine wpList_mp_next rfl _ rfl (fun x : KX => .agg #[.int .u32 x.s, .int .u64 x.r]) (fun y : BX => .agg #[.bool y.a, .bool y.b, .bool y.c, .bool y.d]) HRG.out (fun key v hf => fM_inv2 hf) rfl ?_ ?_)
    · intro hl0 hc0
      have HL0 := hid hl0
      clear hl0 hc0
      go_wp2_with (go_at_call 28; (with_reducible refine (Sort_calls HO.out (by have := HP.out.few HHH.out; omega) (HP.out.alike HHH.out)).mono ?_); rintro e w5 ⟨rfl, ⟨L', ho', ha', hs'⟩, f'⟩; have HO5 := hid ho'; have HE5 := hid (HP.out.done HL0.out HHH.out ha' hs'); have HF5 := hid (HF.out.trans' f' (fun k hk e => absurd (Nat.le_of_lt hk) (HO.out.off k e))); clear ho' ha' hs' f')
      go_ret
      exact ⟨_, rfl, HE5.out ▸ HO5.out.mono (fun k hk => Nat.le_of_lt hk), HF5.out⟩
    · intro x y w2 cnt2 hlk hfk hrg2 hlt2 hg2 hs2 hen
      obtain ⟨xs, xr⟩ := x
      obtain ⟨hy0, hy1, hy2, hy3⟩ := fM_bits (x := (xs, xr)) hfk
      obtain ⟨y0, y1, y2, y3⟩ := y
      dsimp only at hen hy0 hy1 hy2 hy3
      have HR2 := hid hrg2; have HLT2 := hid hlt2; have HLK := hid hlk
      have HO2 := hid (HO.out.frm hg2 (fun k hk e => HO.out.off k hk (by rw [e]; exact Nat.le_refl _)))
      have HF2 := hid (HF.out.trans' hg2 (fun i hi e => by omega))
      have HY := hid hy2
      have HSZ2 := hid HF2.out.size
      clear hlk hfk hrg2 hlt2 hg2 hs2 hy0 hy1 hy2 hy3 HO HF
      cases y2
      · go_wp2
        go_roundw
        case rel => exact ⟨L, _, cnt2, HR2.out.frm ((mbox _ _).trans (mbox _ _)) (fun h => h) (fun h => h), HO2.out.quiet ((mbox _ _).trans (mbox _ _)), HP.out.no HY.out, HF2.out.trans ((mbox _ _).trans (mbox _ _))⟩
        case measure => rw [HRG.out.left_eq, (HR2.out.frm ((mbox _ _).trans (mbox _ _)) (fun h => h) (fun h => h)).left_eq]; exact HLT2.out
      · go_wp2_with (at_builtin; refine wpList_moreM (xs, xr) rfl _ _ rfl rfl (HO2.out.quiet (((mbox _ _).trans (mbox _ _)).trans (mbox _ _))) (fun k hk => by have := HSZ2.out; simp; omega) (blkM _ (xs, xr) _ (by simp)) (by have := HP.out.few HHH.out; omega) rfl rfl ?_; intro v' w5 ho' hf' hat'; have HR5 := hid ((HR2.out.frm (((mbox _ _).trans (mbox _ _)).trans (mbox _ _)) (fun h => h) (fun h => h)).frm hf' (fun e => HO2.out.off _ e (Nat.le_of_lt HLT.out.2)) (fun e => HO2.out.off _ e (Nat.le_refl _))); have HF5 := hid ((HF2.out.trans (((mbox _ _).trans (mbox _ _)).trans (mbox _ _))).trans' hf' (fun k hk e => absurd (Nat.le_of_lt hk) (HO2.out.off k e))); have HO5 := hid ho'; clear ho' hf' hat')
        go_roundw
        case rel => exact ⟨L ++ [(xs, xr)], _, cnt2, HR5.out, HO5.out, HP.out.yes HLK.out HY.out, HF5.out⟩
        case measure => rw [HRG.out.left_eq, HR5.out.left_eq]; exact HLT2.out
set_option maxHeartbeats 16000000 in
theorem of_calls3 {w : World} {lb mb N : Nat} {σ : Has} (h : IsMk w lb mb N σ) {H : List Mk} (hH : OfH σ 3 H) :
    Calls Try.prog 24 #[.pointer (some ⟨lb, 0, none⟩), .int .u8 3] w fun e w' => ∃ ov, e = .returned ov ∧ OwnM w' (fun k => k < w.heap.size) ov H ∧ Frm (fun _ => False) w w' := by
  have q0 := h.cell
  obtain ⟨n, hn, hm⟩ := h.map
  have HM := hid hm; have HHH := hid hH; have HLT := hid h.lt
  clear h hn hm hH
  go_enter Try.func24, Try.ntmps24
  go_wp2_with (at_range; refine wpList_mp_range rfl _ rfl HM.out u_mm rfl ?_; intro w1 hrg hg1 hs1; have HRG := hid hrg; have HG1 := hid hg1; have HS1 := hid hs1; clear hrg hg1 hs1)
  try go_frame
  go_loopw [5] (fun ov wr => ∃ (L : List Mk) (left : Value → Prop) (cnt : Nat), Rng TMk wr mb w.heap.size n (fM σ) left cnt ∧ OwnM wr (fun k => k ≤ w.heap.size) ov L ∧ Part σ 3 left L ∧ Frm (fun _ => False) w wr) (fun _ wr => wr.rangeLeft mb w.heap.size)
  case atStart => exact ⟨[], _, n, HRG.out, OwnM.nil _ _, Part.zero σ 3 (by decide), HG1.out⟩
  case round =>
    clear HRG HG1 HS1 HM q0
    obtain ⟨L, left, cnt, hrg, ho, hp, hf⟩ := hrel
    have HRG := hid hrg; have HP := hid hp; have HF := hid hf
    obtain ⟨oa, oc, hov⟩ := ho.slice
    subst hov
    have HO := hid ho
    clear hrg ho hp hf
    go_wp2_with (at_next; refine wpList_mp_next rfl _ rfl (fun x : KX => .agg #[.int .u32 x.s, .int .u64 x.r]) (fun y : BX => .agg #[.bool y.a, .bool y.b, .bool y.c, .bool y.d]) HRG.out (fun key v hf => fM_inv2 hf) rfl ?_ ?_)
    · intro hl0 hc0
      have HL0 := hid hl0
      clear hl0 hc0
      go_wp2_with (go_at_call 28; (with_reducible refine (Sort_calls HO.out (by have := HP.out.few HHH.out; omega) (HP.out.alike HHH.out)).mono ?_); rintro e w5 ⟨rfl, ⟨L', ho', ha', hs'⟩, f'⟩; have HO5 := hid ho'; have HE5 := hid (HP.out.done HL0.out HHH.out ha' hs'); have HF5 := hid (HF.out.trans' f' (fun k hk e => absurd (Nat.le_of_lt hk) (HO.out.off k e))); clear ho' ha' hs' f')
      go_ret
      exact ⟨_, rfl, HE5.out ▸ HO5.out.mono (fun k hk => Nat.le_of_lt hk), HF5.out⟩
    · intro x y w2 cnt2 hlk hfk hrg2 hlt2 hg2 hs2 hen
      obtain ⟨xs, xr⟩ := x
      obtain ⟨hy0, hy1, hy2, hy3⟩ := fM_bits (x := (xs, xr)) hfk
      obtain ⟨y0, y1, y2, y3⟩ := y
      dsimp only at hen hy0 hy1 hy2 hy3
      have HR2 := hid hrg2; have HLT2 := hid hlt2; have HLK := hid hlk
      have HO2 := hid (HO.out.frm hg2 (fun k hk e => HO.out.off k hk (by rw [e]; exact Nat.le_refl _)))
      have HF2 := hid (HF.out.trans' hg2 (fun i hi e => by omega))
      have HY := hid hy3
      have HSZ2 := hid HF2.out.size
      clear hlk hfk hrg2 hlt2 hg2 hs2 hy0 hy1 hy2 hy3 HO HF
      cases y3
      · go_wp2
        go_roundw
        case rel => exact ⟨L, _, cnt2, HR2.out.frm ((mbox _ _).trans (mbox _ _)) (fun h => h) (fun h => h), HO2.out.quiet ((mbox _ _).trans (mbox _ _)), HP.out.no HY.out, HF2.out.trans ((mbox _ _).trans (mbox _ _))⟩
        case measure => rw [HRG.out.left_eq, (HR2.out.frm ((mbox _ _).trans (mbox _ _)) (fun h => h) (fun h => h)).left_eq]; exact HLT2.out
      · go_wp2_with (at_builtin; refine wpList_moreM (xs, xr) rfl _ _ rfl rfl (HO2.out.quiet (((mbox _ _).trans (mbox _ _)).trans (mbox _ _))) (fun k hk => by have := HSZ2.out; simp; omega) (blkM _ (xs, xr) _ (by simp)) (by have := HP.out.few HHH.out; omega) rfl rfl ?_; intro v' w5 ho' hf' hat'; have HR5 := hid ((HR2.out.frm (((mbox _ _).trans (mbox _ _)).trans (mbox _ _)) (fun h => h) (fun h => h)).frm hf' (fun e => HO2.out.off _ e (Nat.le_of_lt HLT.out.2)) (fun e => HO2.out.off _ e (Nat.le_refl _))); have HF5 := hid ((HF2.out.trans (((mbox _ _).trans (mbox _ _)).trans (mbox _ _))).trans' hf' (fun k hk e => absurd (Nat.le_of_lt hk) (HO2.out.off k e))); have HO5 := hid ho'; clear ho' hf' hat')
        go_roundw
        case rel => exact ⟨L ++ [(xs, xr)], _, cnt2, HR5.out, HO5.out, HP.out.yes HLK.out HY.out, HF5.out⟩
        case measure => rw [HRG.out.left_eq, HR5.out.left_eq]; exact HLT2.out
theorem of_calls {w : World} {lb mb N : Nat} {σ : Has} (h : IsMk w lb mb N σ) (n : Nat) (hn : n < 4) (F : Int) (hF : F = n) {H : List Mk} (hH : OfH σ n H) :
    Calls Try.prog 24 #[.pointer (some ⟨lb, 0, none⟩), .int .u8 F] w fun e w' => ∃ ov, e = .returned ov ∧ OwnM w' (fun k => k < w.heap.size) ov H ∧ Frm (fun _ => False) w w' := by
  subst hF
  rcases (show n = 0 ∨ n = 1 ∨ n = 2 ∨ n = 3 by omega) with rfl | rfl | rfl | rfl
  · exact of_calls0 h hH
  · exact of_calls1 h hH
  · exact of_calls2 h hH
  · exact of_calls3 h hH
end Go.Proofs.Ytiffhkhmkigolaa
