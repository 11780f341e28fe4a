/- The document's marks: Add. -/
import Derived.Test.YtiffhkhmkigolaaRmk1
import Derived.Deep.QuietTactic
import Derived.Deep.MidRow
namespace Go.Proofs.Ytiffhkhmkigolaa
open Go.RowKit Go.ChangeShapes
set_option linter.unusedVariables false
set_option linter.unusedSimpArgs false
set_option maxRecDepth 100000
/-- An append at the operation itself. -/
theorem wp_moreA {o : Oper} {a : Act} {w : World} {K : Act → World → Prop} {Q : Exit → Act → World → Prop} {A : Nat → Prop} {v : Value} {l : List Sa} {g : Nat} (r : Sa) (s x : Operand)
    (ho : o.op = .call { callee := .builtin .append, args := #[s, x], argTypes := #[39, 39] }) (ht : o.type = 39) (h : OwnA w A v l) (hA : ∀ k, A k → k < w.heap.size) (hb : Blk w g (saC r) TSa) (hl : l.length ≤ 100000)
    (hs : a.eval s = v) (hx : a.eval x = .slice (some ⟨g, 0, none⟩) 1 1) (hK : ∀ v' w', OwnA w' A v' (l ++ [r]) → Frm (fun k => v.ownBlock = some k) w w' → (∀ k, v'.ownBlock = some k → v.ownBlock = some k ∨ w.heap.size ≤ k) → K (a.put o.dst v') w') :
    o.wp Try.prog a w K Q := by
  obtain ⟨v', w', hr, h1, h2, h3⟩ := app_moreA r h hA hb hl
  unfold Oper.wp execOp
  simp only [ho, resolve, invoke, builtin, Sem.run_bind, Sem.run_pure, Result.andThen_ok, List.map_toArray, List.map_cons, List.map_nil, hs, hx, ht, hr]
  exact hK v' w' h1 h2 h3
theorem sasC_set (l : List Sa) (m : Sa) : ∀ j, j < l.length → (((sasC l).set (j * 3) (.int .u8 m.1)).set (j * 3 + 1) (.int .u32 m.2.1)).set (j * 3 + 2) (.int .u64 m.2.2) = sasC (l.set j m) := by
  induction l with
  | nil => intro j hj; simp at hj
  | cons a l ih =>
    intro j hj
    cases j with
    | zero => rfl
    | succ j =>
      have key : ∀ (i : Nat) (u : Value) (xs : List Value), (saC a ++ xs).set ((j + 1) * 3 + i) u = saC a ++ xs.set (j * 3 + i) u := fun i u xs => by
        rw [List.set_append_right _ _ (by show 3 ≤ _; omega), show (j + 1) * 3 + i - (saC a).length = j * 3 + i by show _ - 3 = _; omega]
      have key0 : ∀ (u : Value) (xs : List Value), (saC a ++ xs).set ((j + 1) * 3) u = saC a ++ xs.set (j * 3) u := fun u xs => key 0 u xs
      show (((saC a ++ sasC l).set ((j + 1) * 3) _).set ((j + 1) * 3 + 1) _).set ((j + 1) * 3 + 2) _ = saC a ++ sasC (l.set j m)
      rw [key0, key, key, ih j (by rw [List.length_cons] at hj; omega)]
theorem OwnA.set {w : World} {A : Nat → Prop} {g n c : Nat} {l : List Sa} (h : OwnA w A (.slice (some ⟨g, 0, none⟩) n c) l) (hn : n = l.length) (j : Nat) (hj : j < l.length) (m : Sa) :
    OwnA (((w.setCell ⟨g, j * 3, none⟩ (.int .u8 m.1)).setCell ⟨g, j * 3 + 1, none⟩ (.int .u32 m.2.1)).setCell ⟨g, j * 3 + 2, none⟩ (.int .u64 m.2.2)) A (.slice (some ⟨g, 0, none⟩) n c) (l.set j m) := by
  subst hn
  have h1 := ((h.own.stored (j * 3) (.int .u8 m.1)).1.stored (j * 3 + 1) (.int .u32 m.2.1)).1.stored (j * 3 + 2) (.int .u64 m.2.2)
  rw [sasC_set l m j hj] at h1
  refine ⟨?_, h.off⟩
  rw [List.length_set]
  exact h1.1
theorem OwnA.free {w : World} {A : Nat → Prop} {g n c : Nat} {l : List Sa} (h : OwnA w A (.slice (some ⟨g, 0, none⟩) n c) l) (i : Nat) : w.frozen? ⟨g, i, none⟩ = false := by
  rcases h.own.2 with ⟨e, _⟩ | ⟨g', cap, cur, e, _, hgg, _⟩
  · cases e
  · injection e with e1 e2 e3
    injection e1 with e1
    injection e1 with e1
    subst e1
    simp [World.frozen?, hgg]
theorem sa_one (m : Sa) : (saC m).toArray.all (·.oneCell') = true := all_oneCell_toArray (by intro v hv; simp [saC] at hv; rcases hv with rfl | rfl | rfl <;> rfl)
theorem sa_size (m : Sa) : (Try.prog.info? TSa).map (·.size) = some (saC m).toArray.size := by
  show _ = some 3
  kernel_rfl
/-- A store of one into a row of one's own, at the operation itself. -/
theorem wp_store_sa {o : Oper} {a : Act} {w : World} {K : Act → World → Prop} {Q : Exit → Act → World → Prop} {A : Nat → Prop} {g n c : Nat} {l : List Sa} (x y : Operand) (ho : o.op = .store TSa x y) (h : OwnA w A (.slice (some ⟨g, 0, none⟩) n c) l) (hn : n = l.length) (j : Nat) (hj : j < l.length) (m : Sa)
    (hx : a.eval x = .pointer (some ⟨g, j * 3, none⟩)) (hy : a.eval y = .agg (saC m).toArray) (hK : ∀ w', OwnA w' A (.slice (some ⟨g, 0, none⟩) n c) (l.set j m) → Frm (· = g) w w' → K (a.put o.dst undef) w') : o.wp Try.prog a w K Q :=
  wp_store_mid TSa x y ho g (j * 3) (saC m).toArray hx hy (fun i hi => ⟨by rw [h.cells j _ (List.getElem?_eq_getElem hj) i hi, List.getElem?_eq_getElem (show i < (saC l[j]).length from hi)]; rfl, h.free _⟩) (sa_size m) (sa_one m) (hK _ (h.set hn j hj m) ((((Frm.refl (· = g) _).setCell _ _ (.inr rfl)).setCell _ _ (.inr rfl)).setCell _ _ (.inr rfl)))
def cF (Ls : List Sa) (F : Int) : Nat := Ls.countP fun x => decide (x.1 = F)
/-- How far the looking has come. -/
structure AdI (Ls : List Sa) (F s : Int) (k N : Nat) (lv : Int) : Prop where
  cnt : N = cF (Ls.take k) F
  zero : N = 0 → lv = -1
  some_ : 0 < N → ∃ (j : Nat) (x : Sa), lv = j ∧ j < k ∧ Ls[j]? = some x ∧ x.1 = F ∧ ∀ p y, p < k → Ls[p]? = some y → y.1 = F → x.2.1 ≤ y.2.1
  nod : ∀ p y, p < k → Ls[p]? = some y → y.1 = F → y.2.1 ≠ s
theorem AdI.start (Ls : List Sa) (F s : Int) : AdI Ls F s 0 0 (-1) := ⟨rfl, fun _ => rfl, fun h => absurd h (by decide), fun p y h => by omega⟩
section
variable {Ls : List Sa} {F s lv : Int} {k N : Nat} {x : Sa}
theorem AdI.other (h : AdI Ls F s k N lv) (hx : Ls[k]? = some x) (hf : ¬ x.1 = F) : AdI Ls F s (k + 1) N lv := by
  refine ⟨?_, h.zero, fun hN => ?_, fun p y hp hy hyF => ?_⟩
  · rw [h.cnt]; unfold cF; rw [List.take_add_one, hx, List.countP_append]
    show _ = _ + List.countP _ [x]
    rw [List.countP_singleton, if_neg (by rw [decide_eq_false hf]; decide), Nat.add_zero]
  · obtain ⟨j, z, h1, h2, h3, h4, h5⟩ := h.some_ hN
    refine ⟨j, z, h1, by omega, h3, h4, fun p y hp hy hyF => ?_⟩
    by_cases e : p = k
    · subst e; rw [hx] at hy; obtain rfl := Option.some.inj hy; exact absurd hyF hf
    · exact h5 p y (by omega) hy hyF
  · by_cases e : p = k
    · subst e; rw [hx] at hy; obtain rfl := Option.some.inj hy; exact absurd hyF hf
    · exact h.nod p y (by omega) hy hyF
theorem AdI.cnt1 (h : AdI Ls F s k N lv) (hx : Ls[k]? = some x) (hf : x.1 = F) : N + 1 = cF (Ls.take (k + 1)) F := by
  rw [h.cnt]; unfold cF; rw [List.take_add_one, hx, List.countP_append]
  show _ = _ + List.countP _ [x]
  rw [List.countP_singleton, if_pos (decide_eq_true hf)]
theorem AdI.nod1 (h : AdI Ls F s k N lv) (hx : Ls[k]? = some x) (hs : x.2.1 ≠ s) : ∀ p y, p < k + 1 → Ls[p]? = some y → y.1 = F → y.2.1 ≠ s := fun p y hp hy hyF => by
  by_cases e : p = k
  · subst e; rw [hx] at hy; obtain rfl := Option.some.inj hy; exact hs
  · exact h.nod p y (by omega) hy hyF
theorem AdI.first (h : AdI Ls F s k 0 lv) (hx : Ls[k]? = some x) (hf : x.1 = F) (hs : x.2.1 ≠ s) : AdI Ls F s (k + 1) 1 k := by
  refine ⟨h.cnt1 hx hf, fun e => absurd e (by decide), fun _ => ⟨k, x, rfl, by omega, hx, hf, fun p y hp hy hyF => ?_⟩, h.nod1 hx hs⟩
  by_cases e : p = k
  · subst e; rw [hx] at hy; obtain rfl := Option.some.inj hy; exact Int.le_refl _
  · have hc : 0 < cF (Ls.take k) F := List.countP_pos_iff.2 ⟨y, List.mem_of_getElem? (i := p) (by rw [List.getElem?_take, if_pos (by omega)]; exact hy), decide_eq_true hyF⟩
    rw [← h.cnt] at hc; exact absurd hc (by decide)
theorem AdI.less (h : AdI Ls F s k N lv) {j : Nat} {z : Sa} (hz : Ls[j]? = some z) (hzF : z.1 = F) (hzm : ∀ p y, p < k → Ls[p]? = some y → y.1 = F → z.2.1 ≤ y.2.1) (hx : Ls[k]? = some x) (hf : x.1 = F) (hs : x.2.1 ≠ s) (hl : x.2.1 < z.2.1) : AdI Ls F s (k + 1) (N + 1) k := by
  refine ⟨h.cnt1 hx hf, fun e => absurd e (by omega), fun _ => ⟨k, x, rfl, by omega, hx, hf, fun p y hp hy hyF => ?_⟩, h.nod1 hx hs⟩
  by_cases e : p = k
  · subst e; rw [hx] at hy; obtain rfl := Option.some.inj hy; exact Int.le_refl _
  · have := hzm p y (by omega) hy hyF; omega
theorem AdI.more (h : AdI Ls F s k N lv) {j : Nat} {z : Sa} (hlv : lv = j) (hj : j < k) (hz : Ls[j]? = some z) (hzF : z.1 = F) (hzm : ∀ p y, p < k → Ls[p]? = some y → y.1 = F → z.2.1 ≤ y.2.1) (hx : Ls[k]? = some x) (hf : x.1 = F) (hs : x.2.1 ≠ s) (hl : ¬ x.2.1 < z.2.1) : AdI Ls F s (k + 1) (N + 1) j := by
  refine ⟨h.cnt1 hx hf, fun e => absurd e (by omega), fun _ => ⟨j, z, rfl, by omega, hz, hzF, fun p y hp hy hyF => ?_⟩, h.nod1 hx hs⟩
  by_cases e : p = k
  · subst e; rw [hx] at hy; obtain rfl := Option.some.inj hy; omega
  · exact hzm p y (by omega) hy hyF
end
/-- What Add leaves of the document's marks. -/
structure AddQ (Ls : List Sa) (F : Int) (m : Mk) (z : Bool) (Ls' : List Sa) : Prop where
  dup : z = false → Ls' = Ls ∧ ∃ x ∈ Ls, x.1 = F ∧ x.2.1 = m.1
  new : z = true → (∀ x ∈ Ls, x.1 = F → x.2.1 ≠ m.1) ∧ ((cF Ls F < 2 ∧ Ls' = Ls ++ [(F, m)]) ∨
    (2 ≤ cF Ls F ∧ ∃ (j : Nat) (x : Sa), Ls[j]? = some x ∧ x.1 = F ∧ (∀ y ∈ Ls, y.1 = F → x.2.1 ≤ y.2.1) ∧ ((x.2.1 < m.1 ∧ Ls' = Ls.set j (F, m)) ∨ (¬ x.2.1 < m.1 ∧ Ls' = Ls))))
set_option maxHeartbeats 16000000 in
theorem RAdd_any {w : World} {rb : Nat} {v : Value} {Ls : List Sa} (h : IsRd w rb v Ls) (hfew : Ls.length ≤ 900) (F : Int) (hF : 0 ≤ F ∧ F < 4) (m : Mk) (hm : okK m) (hq : m.1 % 4 = 0) (hx1 : m.1 ≤ 1073741824) :
    Calls Try.prog 12 #[.pointer (some ⟨rb, 0, none⟩), .int .u8 F, .int .u32 m.1, .int .u64 m.2] w fun e w' => ∃ (z : Bool) (v' : Value) (Ls' : List Sa), e = .returned (.bool z) ∧ IsRd w' rb v' Ls' ∧ AddQ Ls F m z Ls' ∧ Frm (Rdb rb v) w w' := by
  obtain ⟨va, vc, hv⟩ := h.own.slice
  subst hv
  obtain ⟨L, hL⟩ : ∃ L, Ls.length = L := ⟨_, rfl⟩
  have HL := hid hL
  rw [hL] at h
  have q0 := h.blk.cell 0
  simp only [List.getElem?_cons_zero] at q0
  have hl1 : (L : Int) ≤ 1000 := by have := h.few; omega
  have hl0 : (0 : Int) ≤ (L : Int) := by omega
  have HO := hid h.own; have HFR := hid h.fr
  rw [hL]
  have HRD := hid h
  have HM := hid hm; have HF4 := hid hF; have HFEW := hid (show L ≤ 900 from hL ▸ hfew)
  have htm : m.1.tmod 4 = 0 := by rw [Int.tmod_eq_emod_of_nonneg hm.1.1]; exact hq
  have hF4 : F < 4 := hF.2
  obtain ⟨s, r⟩ := m
  dsimp only at hx1 htm hq
  clear h hL hm hF hfew
  go_enter Try.func12, Try.ntmps12
  go_wp2
  go_loopw [9, 10, 11] (fun nv lv kv wr => ∃ (k N : Nat) (lw : Int), k ≤ L ∧ nv = .int .i64 N ∧ lv = .int .i64 lw ∧ kv = .int .i64 k ∧ Frm (fun _ => False) w wr ∧ AdI Ls F s k N lw) (fun _ _ kv _ => L - (intOf kv).toNat)
  case atStart => exact ⟨0, 0, -1, by omega, rfl, rfl, rfl, Frm.refl _ _, AdI.start _ _ _⟩
  case round =>
    obtain ⟨k, N, lw, hk, rfl, rfl, rfl, hf, hi⟩ := hrel
    have HI := hid hi; have HF := hid hf
    have HRQ := hid (HRD.out.quiet hf)
    clear q0
    have q0 := HRQ.out.blk.cell 0
    simp only [List.getElem?_cons_zero] at q0
    have HO2 := hid (HO.out.quiet hf)
    clear hf
    have hnk : (N : Int) ≤ 900 := by
      have h1 := hi.cnt; unfold cF at h1
      have h2 : (Ls.take k).countP (fun x => decide (x.1 = F)) ≤ (Ls.take k).length := List.countP_le_length
      rw [List.length_take] at h2
      have := HFEW.out; have := HL.out; omega
    have hn0 : (0 : Int) ≤ (N : Int) := by omega
    clear hi
    by_cases hlt : k < L
    · obtain ⟨⟨fr, s1, s2⟩, hx⟩ : ∃ x, Ls[k]? = some x := ⟨_, List.getElem?_eq_getElem (by rw [HL.out]; exact hlt)⟩
      obtain ⟨g, c, hv, hgc, hgm, _⟩ := HO2.out.at_ (by rw [HL.out]; omega)
      injection hv with e1 e2 e3
      subst e1 e3
      have c0 := HO2.out.cells k _ hx 0 (by decide); have c1 := HO2.out.cells k _ hx 1 (by decide); have c2 := HO2.out.cells k _ hx 2 (by decide)
      simp only [saC, List.getElem?_cons_succ, List.getElem?_cons_zero, Nat.add_zero] at c0 c1 c2
      rw [HL.out] at hgc
      have HX := hid hx; have HLT := hid hlt
      obtain ⟨hf0, hf3⟩ : 0 ≤ fr ∧ fr < 4 := HFR.out _ (List.mem_of_getElem? hx)
      have hkl : (k : Int) < (L : Int) := by omega
      have hk0 : (0 : Int) ≤ (k : Int) := by omega
      clear hx hlt e2 hk
      by_cases hfF : fr = F
      · subst hfF
        by_cases hss : s1 = s
        · subst hss
          have HQD := hid (show AddQ Ls fr (s1, r) false Ls from ⟨fun _ => ⟨rfl, _, List.mem_of_getElem? HX.out, rfl, rfl⟩, fun e => absurd e (by decide)⟩)
          go_wp2
          go_ret
          exact ⟨false, _, Ls, rfl, HRQ.out, HQD.out, HF.out.mono (fun _ _ h => h.elim)⟩
        · have e1 : (s1 == s) = false := beq_eq_false_iff_ne.2 hss
          have HSS := hid hss
          clear hss
          by_cases hN : N = 0
          · subst hN
            obtain rfl : lw = -1 := HI.out.zero rfl
            have HI2 := hid (HI.out.first HX.out rfl HSS.out)
            go_wp2_with fail
            refine wp_region_held_drew (S := fun wx => True) (by kernel_rfl) ?_ (fun hHeld => ?_)
            · trivial
            refine wpAnyH_take (i := 0) (oi := ⟨some 56, _, _, _, _, _⟩) (v := ?v1) rfl (by kernel_rfl) (by kernel_rfl) (by kernel_rfl) (fun _ _ _ h => h) (Or.inl ⟨by rfl, ?y1⟩) (by assumption) ?r1
            case y1 => (intro wx hSx; (try dsimp only at hSx); go_simp; (try with_reducible rfl))
            try simp only [Act.put, List.setIfInBounds_toArray, List.set_cons_zero, List.set_cons_succ]
            refine wpAnyH_take (i := 1) (oi := ⟨some 57, _, _, _, _, _⟩) (v := ?v2) rfl (by kernel_rfl) (by kernel_rfl) (by kernel_rfl) (fun _ _ _ h => h) (Or.inl ⟨by rfl, ?y2⟩) (by assumption) ?r2
            case y2 => (intro wx hSx; (try dsimp only at hSx); go_simp; (try with_reducible rfl))
            try simp only [Act.put, List.setIfInBounds_toArray, List.set_cons_zero, List.set_cons_succ]
            refine wpAnyH_take (i := 2) (oi := ⟨some 58, _, _, _, _, _⟩) (v := ?v3) rfl (by kernel_rfl) (by kernel_rfl) (by kernel_rfl) (fun _ _ _ h => h) (Or.inl ⟨by rfl, ?y3⟩) (by assumption) ?r3
            case y3 => (intro wx hSx; (try dsimp only at hSx); go_simp; (try with_reducible rfl))
            try simp only [Act.put, List.setIfInBounds_toArray, List.set_cons_zero, List.set_cons_succ]
            refine wpAnyH_take (i := 3) (oi := ⟨some 59, _, _, _, _, _⟩) (v := undef) rfl (by kernel_rfl) (by kernel_rfl) (by kernel_rfl) (fun _ _ _ h => h) (Or.inr ⟨by rfl, rfl⟩) (by assumption) ?_
            try simp only [Act.put, List.setIfInBounds_toArray, List.set_cons_zero, List.set_cons_succ]
            refine wpAnyH_take (i := 4) (oi := ⟨some 60, _, _, _, _, _⟩) (v := undef) rfl (by kernel_rfl) (by kernel_rfl) (by kernel_rfl) (fun _ _ _ h => h) (Or.inr ⟨by rfl, rfl⟩) (by assumption) ?_
            try simp only [Act.put, List.setIfInBounds_toArray, List.set_cons_zero, List.set_cons_succ]
            refine wpAnyH_take (i := 5) (oi := ⟨some 61, _, _, _, _, _⟩) (v := undef) rfl (by kernel_rfl) (by kernel_rfl) (by kernel_rfl) (fun _ _ _ h => h) (Or.inr ⟨by rfl, rfl⟩) (by assumption) ?_
            try simp only [Act.put, List.setIfInBounds_toArray, List.set_cons_zero, List.set_cons_succ]
            refine wpAnyH_take (i := 6) (oi := ⟨some 62, _, _, _, _, _⟩) (v := undef) rfl (by kernel_rfl) (by kernel_rfl) (by kernel_rfl) (fun _ _ _ h => h) (Or.inr ⟨by rfl, rfl⟩) (by assumption) ?_
            try simp only [Act.put, List.setIfInBounds_toArray, List.set_cons_zero, List.set_cons_succ]
            refine wpAnyH_take (i := 7) (oi := ⟨some 63, _, _, _, _, _⟩) (v := undef) rfl (by kernel_rfl) (by kernel_rfl) (by kernel_rfl) (fun _ _ _ h => h) (Or.inr ⟨by rfl, rfl⟩) (by assumption) ?_
            try simp only [Act.put, List.setIfInBounds_toArray, List.set_cons_zero, List.set_cons_succ]
            refine wpAnyH_take (i := 8) (oi := ⟨some 64, _, _, _, _, _⟩) (v := undef) rfl (by kernel_rfl) (by kernel_rfl) (by kernel_rfl) (fun _ _ _ h => h) (Or.inr ⟨by rfl, rfl⟩) (by assumption) ?_
            try simp only [Act.put, List.setIfInBounds_toArray, List.set_cons_zero, List.set_cons_succ]
            refine wpAnyH_take (i := 9) (oi := ⟨some 65, _, _, _, _, _⟩) (v := undef) rfl (by kernel_rfl) (by kernel_rfl) (by kernel_rfl) (fun _ _ _ h => h) (Or.inr ⟨by rfl, rfl⟩) (by assumption) ?_
            try simp only [Act.put, List.setIfInBounds_toArray, List.set_cons_zero, List.set_cons_succ]
            refine wpAnyH_take (i := 10) (oi := ⟨some 66, _, _, _, _, _⟩) (v := undef) rfl (by kernel_rfl) (by kernel_rfl) (by kernel_rfl) (fun _ _ _ h => h) (Or.inr ⟨by rfl, rfl⟩) (by assumption) ?_
            try simp only [Act.put, List.setIfInBounds_toArray, List.set_cons_zero, List.set_cons_succ]
            refine wpAnyH_take (i := 11) (oi := ⟨some 67, _, _, _, _, _⟩) (v := undef) rfl (by kernel_rfl) (by kernel_rfl) (by kernel_rfl) (fun _ _ _ h => h) (Or.inr ⟨by rfl, rfl⟩) (by assumption) ?_
            try simp only [Act.put, List.setIfInBounds_toArray, List.set_cons_zero, List.set_cons_succ]
            refine wpAnyH_take (i := 12) (oi := ⟨some 68, _, _, _, _, _⟩) (v := undef) rfl (by kernel_rfl) (by kernel_rfl) (by kernel_rfl) (fun _ _ _ h => h) (Or.inr ⟨by rfl, rfl⟩) (by assumption) ?_
            try simp only [Act.put, List.setIfInBounds_toArray, List.set_cons_zero, List.set_cons_succ]
            refine wpAnyH_take (i := 13) (oi := ⟨some 69, _, _, _, _, _⟩) (v := undef) rfl (by kernel_rfl) (by kernel_rfl) (by kernel_rfl) (fun _ _ _ h => h) (Or.inr ⟨by rfl, rfl⟩) (by assumption) ?_
            try simp only [Act.put, List.setIfInBounds_toArray, List.set_cons_zero, List.set_cons_succ]
            refine wpAnyH_take (i := 14) (oi := ⟨some 70, _, _, _, _, _⟩) (v := undef) rfl (by kernel_rfl) (by kernel_rfl) (by kernel_rfl) (fun _ _ _ h => h) (Or.inr ⟨by rfl, rfl⟩) (by assumption) ?_
            try simp only [Act.put, List.setIfInBounds_toArray, List.set_cons_zero, List.set_cons_succ]
            refine wpAnyH_take (i := 15) (oi := ⟨some 71, _, _, _, _, _⟩) (v := undef) rfl (by kernel_rfl) (by kernel_rfl) (by kernel_rfl) (fun _ _ _ h => h) (Or.inr ⟨by rfl, rfl⟩) (by assumption) ?_
            try simp only [Act.put, List.setIfInBounds_toArray, List.set_cons_zero, List.set_cons_succ]
            refine wpAnyH_take (i := 16) (oi := ⟨some 72, _, _, _, _, _⟩) (v := undef) rfl (by kernel_rfl) (by kernel_rfl) (by kernel_rfl) (fun _ _ _ h => h) (Or.inr ⟨by rfl, rfl⟩) (by assumption) ?_
            try simp only [Act.put, List.setIfInBounds_toArray, List.set_cons_zero, List.set_cons_succ]
            refine wpAnyH_take (i := 17) (oi := ⟨some 73, _, _, _, _, _⟩) (v := undef) rfl (by kernel_rfl) (by kernel_rfl) (by kernel_rfl) (fun _ _ _ h => h) (Or.inr ⟨by rfl, rfl⟩) (by assumption) ?_
            try simp only [Act.put, List.setIfInBounds_toArray, List.set_cons_zero, List.set_cons_succ]
            refine wpAnyH_take (i := 18) (oi := ⟨some 74, _, _, _, _, _⟩) (v := undef) rfl (by kernel_rfl) (by kernel_rfl) (by kernel_rfl) (fun _ _ _ h => h) (Or.inr ⟨by rfl, rfl⟩) (by assumption) ?_
            try simp only [Act.put, List.setIfInBounds_toArray, List.set_cons_zero, List.set_cons_succ]
            refine wpAnyH_take (i := 19) (oi := ⟨some 75, _, _, _, _, _⟩) (v := undef) rfl (by kernel_rfl) (by kernel_rfl) (by kernel_rfl) (fun _ _ _ h => h) (Or.inr ⟨by rfl, rfl⟩) (by assumption) ?_
            try simp only [Act.put, List.setIfInBounds_toArray, List.set_cons_zero, List.set_cons_succ]
            refine wpAnyH_take (i := 20) (oi := ⟨some 76, _, _, _, _, _⟩) (v := undef) rfl (by kernel_rfl) (by kernel_rfl) (by kernel_rfl) (fun _ _ _ h => h) (Or.inr ⟨by rfl, rfl⟩) (by assumption) ?_
            try simp only [Act.put, List.setIfInBounds_toArray, List.set_cons_zero, List.set_cons_succ]
            refine wpAnyH_take (i := 21) (oi := ⟨some 77, _, _, _, _, _⟩) (v := undef) rfl (by kernel_rfl) (by kernel_rfl) (by kernel_rfl) (fun _ _ _ h => h) (Or.inr ⟨by rfl, rfl⟩) (by assumption) ?_
            try simp only [Act.put, List.setIfInBounds_toArray, List.set_cons_zero, List.set_cons_succ]
            refine wpAnyH_take (i := 22) (oi := ⟨some 78, _, _, _, _, _⟩) (v := ?v4) rfl (by kernel_rfl) (by kernel_rfl) (by kernel_rfl) (fun _ _ _ h => h) (Or.inl ⟨by rfl, ?y4⟩) (by assumption) ?r4
            case y4 => (intro wx hSx; (try dsimp only at hSx); go_simp; (try with_reducible rfl))
            try simp only [Act.put, List.setIfInBounds_toArray, List.set_cons_zero, List.set_cons_succ]
            refine wpAnyH_done (by kernel_rfl) ?_ _
            go_wp2
            go_roundw
            case rel => exact ⟨k + 1, 1, _, by have := HLT.out; omega, by first | rfl | go_num, rfl, by first | rfl | go_num, (by first | exact HF.out.drew | exact HF.out), HI2.out⟩
            case measure => have := HLT.out; simp [intOf]; omega
          · obtain ⟨j, ⟨zf, z1, z2⟩, hlw, hjk, hjx, hzF, hzm⟩ := HI.out.some_ (by omega)
            subst hlw
            obtain rfl : zf = fr := hzF
            have d1 := HO2.out.cells j _ hjx 1 (by decide)
            simp only [saC, List.getElem?_cons_succ, List.getElem?_cons_zero] at d1
            have hj0 : (0 : Int) ≤ (j : Int) := by omega
            have hjn : ¬ (j : Int) < 0 := by omega
            have hjl : (j : Int) < (L : Int) := by omega
            have HN := hid hN
            by_cases hzl : s1 < z1
            · have HI2 := hid (HI.out.less hjx rfl hzm HX.out rfl HSS.out hzl)
              clear hjx hzm hN hjk
              go_wp2_with fail
              refine wp_region_held_drew (S := fun wx => wx.cell? ⟨rb, 0, none⟩ = some (.slice (some ⟨g, 0, none⟩) L vc) ∧ wx.cell? ⟨g, k * 3 + 1, none⟩ = some (.int .u32 s1) ∧ wx.cell? ⟨g, j * 3 + 1, none⟩ = some (.int .u32 z1)) (by kernel_rfl) ?_ (fun hHeld => ?_)
              · exact ⟨q0, c1, d1⟩
              refine wpAnyH_take (i := 0) (oi := ⟨some 56, _, _, _, _, _⟩) (v := ?v5) rfl (by kernel_rfl) (by kernel_rfl) (by kernel_rfl) (fun _ _ _ h => h) (Or.inl ⟨by rfl, ?y5⟩) (by assumption) ?r5
              case y5 => (intro wx hSx; (try dsimp only at hSx); go_simp; (try with_reducible rfl))
              try simp only [Act.put, List.setIfInBounds_toArray, List.set_cons_zero, List.set_cons_succ]
              refine wpAnyH_take (i := 1) (oi := ⟨some 57, _, _, _, _, _⟩) (v := ?v6) rfl (by kernel_rfl) (by kernel_rfl) (by kernel_rfl) (fun _ _ _ h => h) (Or.inl ⟨by rfl, ?y6⟩) (by assumption) ?r6
              case y6 => (intro wx hSx; (try dsimp only at hSx); go_simp; (try with_reducible rfl))
              try simp only [Act.put, List.setIfInBounds_toArray, List.set_cons_zero, List.set_cons_succ]
              refine wpAnyH_take (i := 2) (oi := ⟨some 58, _, _, _, _, _⟩) (v := ?v7) rfl (by kernel_rfl) (by kernel_rfl) (by kernel_rfl) (fun _ _ _ h => h) (Or.inl ⟨by rfl, ?y7⟩) (by assumption) ?r7
              case y7 => (intro wx hSx; (try dsimp only at hSx); go_simp; (try with_reducible rfl))
              try simp only [Act.put, List.setIfInBounds_toArray, List.set_cons_zero, List.set_cons_succ]
              refine wpAnyH_take (i := 3) (oi := ⟨some 59, _, _, _, _, _⟩) (v := ?v8) rfl (by kernel_rfl) (by kernel_rfl) (by kernel_rfl) (fun _ _ _ h => h) (Or.inl ⟨by rfl, ?y8⟩) (by assumption) ?r8
              case y8 => (intro wx hSx; (try dsimp only at hSx); go_simp; (try with_reducible rfl))
              try simp only [Act.put, List.setIfInBounds_toArray, List.set_cons_zero, List.set_cons_succ]
              refine wpAnyH_take (i := 4) (oi := ⟨some 60, _, _, _, _, _⟩) (v := ?v9) rfl (by kernel_rfl) (by kernel_rfl) (by kernel_rfl) (fun _ _ _ h => h) (Or.inl ⟨by rfl, ?y9⟩) (by assumption) ?r9
              case y9 => (intro wx hSx; (try dsimp only at hSx); go_simp; (try with_reducible rfl))
              try simp only [Act.put, List.setIfInBounds_toArray, List.set_cons_zero, List.set_cons_succ]
              refine wpAnyH_take (i := 5) (oi := ⟨some 61, _, _, _, _, _⟩) (v := ?v10) rfl (by kernel_rfl) (by kernel_rfl) (by kernel_rfl) (fun _ _ _ h => h) (Or.inl ⟨by rfl, ?y10⟩) (by assumption) ?r10
              case y10 => (intro wx hSx; (try dsimp only at hSx); go_simp; (try with_reducible rfl))
              try simp only [Act.put, List.setIfInBounds_toArray, List.set_cons_zero, List.set_cons_succ]
              refine wpAnyH_take (i := 6) (oi := ⟨some 62, _, _, _, _, _⟩) (v := ?v11) rfl (by kernel_rfl) (by kernel_rfl) (by kernel_rfl) (fun _ _ _ h => h) (Or.inl ⟨by rfl, ?y11⟩) (by assumption) ?r11
              case y11 => (intro wx hSx; (try dsimp only at hSx); go_simp; (try with_reducible rfl))
              try simp only [Act.put, List.setIfInBounds_toArray, List.set_cons_zero, List.set_cons_succ]
              refine wpAnyH_take (i := 7) (oi := ⟨some 63, _, _, _, _, _⟩) (v := ?v12) rfl (by kernel_rfl) (by kernel_rfl) (by kernel_rfl) (fun _ _ _ h => h) (Or.inl ⟨by rfl, ?y12⟩) (by assumption) ?r12
              case y12 => (intro wx hSx; (try dsimp only at hSx); go_simp; (try with_reducible rfl))
              try simp only [Act.put, List.setIfInBounds_toArray, List.set_cons_zero, List.set_cons_succ]
              refine wpAnyH_take (i := 8) (oi := ⟨some 64, _, _, _, _, _⟩) (v := ?v13) rfl (by kernel_rfl) (by kernel_rfl) (by kernel_rfl) (fun _ _ _ h => h) (Or.inl ⟨by rfl, ?y13⟩) (by assumption) ?r13
              case y13 => (intro wx hSx; (try dsimp only at hSx); go_simp; (try with_reducible rfl))
              try simp only [Act.put, List.setIfInBounds_toArray, List.set_cons_zero, List.set_cons_succ]
              refine wpAnyH_take (i := 9) (oi := ⟨some 65, _, _, _, _, _⟩) (v := ?v14) rfl (by kernel_rfl) (by kernel_rfl) (by kernel_rfl) (fun _ _ _ h => h) (Or.inl ⟨by rfl, ?y14⟩) (by assumption) ?r14
              case y14 => (intro wx hSx; (try dsimp only at hSx); go_simp; (try with_reducible rfl))
              try simp only [Act.put, List.setIfInBounds_toArray, List.set_cons_zero, List.set_cons_succ]
              refine wpAnyH_take (i := 10) (oi := ⟨some 66, _, _, _, _, _⟩) (v := ?v15) rfl (by kernel_rfl) (by kernel_rfl) (by kernel_rfl) (fun _ _ _ h => h) (Or.inl ⟨by rfl, ?y15⟩) (by assumption) ?r15
              case y15 => (intro wx hSx; (try dsimp only at hSx); go_simp; (try with_reducible rfl))
              try simp only [Act.put, List.setIfInBounds_toArray, List.set_cons_zero, List.set_cons_succ]
              refine wpAnyH_take (i := 11) (oi := ⟨some 67, _, _, _, _, _⟩) (v := ?v16) rfl (by kernel_rfl) (by kernel_rfl) (by kernel_rfl) (fun _ _ _ h => h) (Or.inl ⟨by rfl, ?y16⟩) (by assumption) ?r16
              case y16 => (intro wx hSx; (try dsimp only at hSx); go_simp; (try with_reducible rfl))
              try simp only [Act.put, List.setIfInBounds_toArray, List.set_cons_zero, List.set_cons_succ]
              refine wpAnyH_take (i := 12) (oi := ⟨some 68, _, _, _, _, _⟩) (v := ?v17) rfl (by kernel_rfl) (by kernel_rfl) (by kernel_rfl) (fun _ _ _ h => h) (Or.inl ⟨by rfl, ?y17⟩) (by assumption) ?r17
              case y17 => (intro wx hSx; (try dsimp only at hSx); go_simp; (try with_reducible rfl))
              try simp only [Act.put, List.setIfInBounds_toArray, List.set_cons_zero, List.set_cons_succ]
              refine wpAnyH_take (i := 13) (oi := ⟨some 69, _, _, _, _, _⟩) (v := ?v18) rfl (by kernel_rfl) (by kernel_rfl) (by kernel_rfl) (fun _ _ _ h => h) (Or.inl ⟨by rfl, ?y18⟩) (by assumption) ?r18
              case y18 => (intro wx hSx; (try dsimp only at hSx); go_simp; (try with_reducible rfl))
              try simp only [Act.put, List.setIfInBounds_toArray, List.set_cons_zero, List.set_cons_succ]
              refine wpAnyH_take (i := 14) (oi := ⟨some 70, _, _, _, _, _⟩) (v := ?v19) rfl (by kernel_rfl) (by kernel_rfl) (by kernel_rfl) (fun _ _ _ h => h) (Or.inl ⟨by rfl, ?y19⟩) (by assumption) ?r19
              case y19 => (intro wx hSx; (try dsimp only at hSx); go_simp; (try with_reducible rfl))
              try simp only [Act.put, List.setIfInBounds_toArray, List.set_cons_zero, List.set_cons_succ]
              refine wpAnyH_take (i := 15) (oi := ⟨some 71, _, _, _, _, _⟩) (v := ?v20) rfl (by kernel_rfl) (by kernel_rfl) (by kernel_rfl) (fun _ _ _ h => h) (Or.inl ⟨by rfl, ?y20⟩) (by assumption) ?r20
              case y20 => (intro wx hSx; (try dsimp only at hSx); go_simp; (try with_reducible rfl))
              try simp only [Act.put, List.setIfInBounds_toArray, List.set_cons_zero, List.set_cons_succ]
              refine wpAnyH_take (i := 16) (oi := ⟨some 72, _, _, _, _, _⟩) (v := ?v21) rfl (by kernel_rfl) (by kernel_rfl) (by kernel_rfl) (fun _ _ _ h => h) (Or.inl ⟨by rfl, ?y21⟩) (by assumption) ?r21
              case y21 => (intro wx hSx; (try dsimp only at hSx); go_simp; (try with_reducible rfl))
              try simp only [Act.put, List.setIfInBounds_toArray, List.set_cons_zero, List.set_cons_succ]
              refine wpAnyH_take (i := 17) (oi := ⟨some 73, _, _, _, _, _⟩) (v := ?v22) rfl (by kernel_rfl) (by kernel_rfl) (by kernel_rfl) (fun _ _ _ h => h) (Or.inl ⟨by rfl, ?y22⟩) (by assumption) ?r22
              case y22 => (intro wx hSx; (try dsimp only at hSx); go_simp; (try with_reducible rfl))
              try simp only [Act.put, List.setIfInBounds_toArray, List.set_cons_zero, List.set_cons_succ]
              refine wpAnyH_take (i := 18) (oi := ⟨some 74, _, _, _, _, _⟩) (v := ?v23) rfl (by kernel_rfl) (by kernel_rfl) (by kernel_rfl) (fun _ _ _ h => h) (Or.inl ⟨by rfl, ?y23⟩) (by assumption) ?r23
              case y23 => (intro wx hSx; (try dsimp only at hSx); go_simp; (try with_reducible rfl))
              try simp only [Act.put, List.setIfInBounds_toArray, List.set_cons_zero, List.set_cons_succ]
              refine wpAnyH_take (i := 19) (oi := ⟨some 75, _, _, _, _, _⟩) (v := ?v24) rfl (by kernel_rfl) (by kernel_rfl) (by kernel_rfl) (fun _ _ _ h => h) (Or.inl ⟨by rfl, ?y24⟩) (by assumption) ?r24
              case y24 => (intro wx hSx; (try dsimp only at hSx); go_simp; (try with_reducible rfl))
              try simp only [Act.put, List.setIfInBounds_toArray, List.set_cons_zero, List.set_cons_succ]
              refine wpAnyH_take (i := 20) (oi := ⟨some 76, _, _, _, _, _⟩) (v := ?v25) rfl (by kernel_rfl) (by kernel_rfl) (by kernel_rfl) (fun _ _ _ h => h) (Or.inl ⟨by rfl, ?y25⟩) (by assumption) ?r25
              case y25 => (intro wx hSx; (try dsimp only at hSx); go_simp; (try with_reducible rfl))
              try simp only [Act.put, List.setIfInBounds_toArray, List.set_cons_zero, List.set_cons_succ]
              refine wpAnyH_take (i := 21) (oi := ⟨some 77, _, _, _, _, _⟩) (v := ?v26) rfl (by kernel_rfl) (by kernel_rfl) (by kernel_rfl) (fun _ _ _ h => h) (Or.inl ⟨by rfl, ?y26⟩) (by assumption) ?r26
              case y26 => (intro wx hSx; (try dsimp only at hSx); go_simp; (try with_reducible rfl))
              try simp only [Act.put, List.setIfInBounds_toArray, List.set_cons_zero, List.set_cons_succ]
              refine wpAnyH_take (i := 22) (oi := ⟨some 78, _, _, _, _, _⟩) (v := ?v27) rfl (by kernel_rfl) (by kernel_rfl) (by kernel_rfl) (fun _ _ _ h => h) (Or.inl ⟨by rfl, ?y27⟩) (by assumption) ?r27
              case y27 => (intro wx hSx; (try dsimp only at hSx); go_simp; (try with_reducible rfl))
              try simp only [Act.put, List.setIfInBounds_toArray, List.set_cons_zero, List.set_cons_succ]
              refine wpAnyH_done (by kernel_rfl) ?_ _
              go_wp2
              go_roundw
              case rel => exact ⟨k + 1, N + 1, _, by have := HLT.out; omega, by first | rfl | go_num, rfl, by first | rfl | go_num, (by first | exact HF.out.drew | exact HF.out), HI2.out⟩
              case measure => have := HLT.out; simp [intOf]; omega
            · have HI2 := hid (HI.out.more rfl hjk hjx rfl hzm HX.out rfl HSS.out hzl)
              clear hjx hzm hN hjk
              go_wp2_with fail
              refine wp_region_held_drew (S := fun wx => wx.cell? ⟨rb, 0, none⟩ = some (.slice (some ⟨g, 0, none⟩) L vc) ∧ wx.cell? ⟨g, k * 3 + 1, none⟩ = some (.int .u32 s1) ∧ wx.cell? ⟨g, j * 3 + 1, none⟩ = some (.int .u32 z1)) (by kernel_rfl) ?_ (fun hHeld => ?_)
              · exact ⟨q0, c1, d1⟩
              refine wpAnyH_take (i := 0) (oi := ⟨some 56, _, _, _, _, _⟩) (v := ?v28) rfl (by kernel_rfl) (by kernel_rfl) (by kernel_rfl) (fun _ _ _ h => h) (Or.inl ⟨by rfl, ?y28⟩) (by assumption) ?r28
              case y28 => (intro wx hSx; (try dsimp only at hSx); go_simp; (try with_reducible rfl))
              try simp only [Act.put, List.setIfInBounds_toArray, List.set_cons_zero, List.set_cons_succ]
              refine wpAnyH_take (i := 1) (oi := ⟨some 57, _, _, _, _, _⟩) (v := ?v29) rfl (by kernel_rfl) (by kernel_rfl) (by kernel_rfl) (fun _ _ _ h => h) (Or.inl ⟨by rfl, ?y29⟩) (by assumption) ?r29
              case y29 => (intro wx hSx; (try dsimp only at hSx); go_simp; (try with_reducible rfl))
              try simp only [Act.put, List.setIfInBounds_toArray, List.set_cons_zero, List.set_cons_succ]
              refine wpAnyH_take (i := 2) (oi := ⟨some 58, _, _, _, _, _⟩) (v := ?v30) rfl (by kernel_rfl) (by kernel_rfl) (by kernel_rfl) (fun _ _ _ h => h) (Or.inl ⟨by rfl, ?y30⟩) (by assumption) ?r30
              case y30 => (intro wx hSx; (try dsimp only at hSx); go_simp; (try with_reducible rfl))
              try simp only [Act.put, List.setIfInBounds_toArray, List.set_cons_zero, List.set_cons_succ]
              refine wpAnyH_take (i := 3) (oi := ⟨some 59, _, _, _, _, _⟩) (v := ?v31) rfl (by kernel_rfl) (by kernel_rfl) (by kernel_rfl) (fun _ _ _ h => h) (Or.inl ⟨by rfl, ?y31⟩) (by assumption) ?r31
              case y31 => (intro wx hSx; (try dsimp only at hSx); go_simp; (try with_reducible rfl))
              try simp only [Act.put, List.setIfInBounds_toArray, List.set_cons_zero, List.set_cons_succ]
              refine wpAnyH_take (i := 4) (oi := ⟨some 60, _, _, _, _, _⟩) (v := ?v32) rfl (by kernel_rfl) (by kernel_rfl) (by kernel_rfl) (fun _ _ _ h => h) (Or.inl ⟨by rfl, ?y32⟩) (by assumption) ?r32
              case y32 => (intro wx hSx; (try dsimp only at hSx); go_simp; (try with_reducible rfl))
              try simp only [Act.put, List.setIfInBounds_toArray, List.set_cons_zero, List.set_cons_succ]
              refine wpAnyH_take (i := 5) (oi := ⟨some 61, _, _, _, _, _⟩) (v := ?v33) rfl (by kernel_rfl) (by kernel_rfl) (by kernel_rfl) (fun _ _ _ h => h) (Or.inl ⟨by rfl, ?y33⟩) (by assumption) ?r33
              case y33 => (intro wx hSx; (try dsimp only at hSx); go_simp; (try with_reducible rfl))
              try simp only [Act.put, List.setIfInBounds_toArray, List.set_cons_zero, List.set_cons_succ]
              refine wpAnyH_take (i := 6) (oi := ⟨some 62, _, _, _, _, _⟩) (v := ?v34) rfl (by kernel_rfl) (by kernel_rfl) (by kernel_rfl) (fun _ _ _ h => h) (Or.inl ⟨by rfl, ?y34⟩) (by assumption) ?r34
              case y34 => (intro wx hSx; (try dsimp only at hSx); go_simp; (try with_reducible rfl))
              try simp only [Act.put, List.setIfInBounds_toArray, List.set_cons_zero, List.set_cons_succ]
              refine wpAnyH_take (i := 7) (oi := ⟨some 63, _, _, _, _, _⟩) (v := ?v35) rfl (by kernel_rfl) (by kernel_rfl) (by kernel_rfl) (fun _ _ _ h => h) (Or.inl ⟨by rfl, ?y35⟩) (by assumption) ?r35
              case y35 => (intro wx hSx; (try dsimp only at hSx); go_simp; (try with_reducible rfl))
              try simp only [Act.put, List.setIfInBounds_toArray, List.set_cons_zero, List.set_cons_succ]
              refine wpAnyH_take (i := 8) (oi := ⟨some 64, _, _, _, _, _⟩) (v := ?v36) rfl (by kernel_rfl) (by kernel_rfl) (by kernel_rfl) (fun _ _ _ h => h) (Or.inl ⟨by rfl, ?y36⟩) (by assumption) ?r36
              case y36 => (intro wx hSx; (try dsimp only at hSx); go_simp; (try with_reducible rfl))
              try simp only [Act.put, List.setIfInBounds_toArray, List.set_cons_zero, List.set_cons_succ]
              refine wpAnyH_take (i := 9) (oi := ⟨some 65, _, _, _, _, _⟩) (v := ?v37) rfl (by kernel_rfl) (by kernel_rfl) (by kernel_rfl) (fun _ _ _ h => h) (Or.inl ⟨by rfl, ?y37⟩) (by assumption) ?r37
              case y37 => (intro wx hSx; (try dsimp only at hSx); go_simp; (try with_reducible rfl))
              try simp only [Act.put, List.setIfInBounds_toArray, List.set_cons_zero, List.set_cons_succ]
              refine wpAnyH_take (i := 10) (oi := ⟨some 66, _, _, _, _, _⟩) (v := ?v38) rfl (by kernel_rfl) (by kernel_rfl) (by kernel_rfl) (fun _ _ _ h => h) (Or.inl ⟨by rfl, ?y38⟩) (by assumption) ?r38
              case y38 => (intro wx hSx; (try dsimp only at hSx); go_simp; (try with_reducible rfl))
              try simp only [Act.put, List.setIfInBounds_toArray, List.set_cons_zero, List.set_cons_succ]
              refine wpAnyH_take (i := 11) (oi := ⟨some 67, _, _, _, _, _⟩) (v := ?v39) rfl (by kernel_rfl) (by kernel_rfl) (by kernel_rfl) (fun _ _ _ h => h) (Or.inl ⟨by rfl, ?y39⟩) (by assumption) ?r39
              case y39 => (intro wx hSx; (try dsimp only at hSx); go_simp; (try with_reducible rfl))
              try simp only [Act.put, List.setIfInBounds_toArray, List.set_cons_zero, List.set_cons_succ]
              refine wpAnyH_take (i := 12) (oi := ⟨some 68, _, _, _, _, _⟩) (v := ?v40) rfl (by kernel_rfl) (by kernel_rfl) (by kernel_rfl) (fun _ _ _ h => h) (Or.inl ⟨by rfl, ?y40⟩) (by assumption) ?r40
              case y40 => (intro wx hSx; (try dsimp only at hSx); go_simp; (try with_reducible rfl))
              try simp only [Act.put, List.setIfInBounds_toArray, List.set_cons_zero, List.set_cons_succ]
              refine wpAnyH_take (i := 13) (oi := ⟨some 69, _, _, _, _, _⟩) (v := ?v41) rfl (by kernel_rfl) (by kernel_rfl) (by kernel_rfl) (fun _ _ _ h => h) (Or.inl ⟨by rfl, ?y41⟩) (by assumption) ?r41
              case y41 => (intro wx hSx; (try dsimp only at hSx); go_simp; (try with_reducible rfl))
              try simp only [Act.put, List.setIfInBounds_toArray, List.set_cons_zero, List.set_cons_succ]
              refine wpAnyH_take (i := 14) (oi := ⟨some 70, _, _, _, _, _⟩) (v := ?v42) rfl (by kernel_rfl) (by kernel_rfl) (by kernel_rfl) (fun _ _ _ h => h) (Or.inl ⟨by rfl, ?y42⟩) (by assumption) ?r42
              case y42 => (intro wx hSx; (try dsimp only at hSx); go_simp; (try with_reducible rfl))
              try simp only [Act.put, List.setIfInBounds_toArray, List.set_cons_zero, List.set_cons_succ]
              refine wpAnyH_take (i := 15) (oi := ⟨some 71, _, _, _, _, _⟩) (v := ?v43) rfl (by kernel_rfl) (by kernel_rfl) (by kernel_rfl) (fun _ _ _ h => h) (Or.inl ⟨by rfl, ?y43⟩) (by assumption) ?r43
              case y43 => (intro wx hSx; (try dsimp only at hSx); go_simp; (try with_reducible rfl))
              try simp only [Act.put, List.setIfInBounds_toArray, List.set_cons_zero, List.set_cons_succ]
              refine wpAnyH_take (i := 16) (oi := ⟨some 72, _, _, _, _, _⟩) (v := ?v44) rfl (by kernel_rfl) (by kernel_rfl) (by kernel_rfl) (fun _ _ _ h => h) (Or.inl ⟨by rfl, ?y44⟩) (by assumption) ?r44
              case y44 => (intro wx hSx; (try dsimp only at hSx); go_simp; (try with_reducible rfl))
              try simp only [Act.put, List.setIfInBounds_toArray, List.set_cons_zero, List.set_cons_succ]
              refine wpAnyH_take (i := 17) (oi := ⟨some 73, _, _, _, _, _⟩) (v := ?v45) rfl (by kernel_rfl) (by kernel_rfl) (by kernel_rfl) (fun _ _ _ h => h) (Or.inl ⟨by rfl, ?y45⟩) (by assumption) ?r45
              case y45 => (intro wx hSx; (try dsimp only at hSx); go_simp; (try with_reducible rfl))
              try simp only [Act.put, List.setIfInBounds_toArray, List.set_cons_zero, List.set_cons_succ]
              refine wpAnyH_take (i := 18) (oi := ⟨some 74, _, _, _, _, _⟩) (v := ?v46) rfl (by kernel_rfl) (by kernel_rfl) (by kernel_rfl) (fun _ _ _ h => h) (Or.inl ⟨by rfl, ?y46⟩) (by assumption) ?r46
              case y46 => (intro wx hSx; (try dsimp only at hSx); go_simp; (try with_reducible rfl))
              try simp only [Act.put, List.setIfInBounds_toArray, List.set_cons_zero, List.set_cons_succ]
              refine wpAnyH_take (i := 19) (oi := ⟨some 75, _, _, _, _, _⟩) (v := ?v47) rfl (by kernel_rfl) (by kernel_rfl) (by kernel_rfl) (fun _ _ _ h => h) (Or.inl ⟨by rfl, ?y47⟩) (by assumption) ?r47
              case y47 => (intro wx hSx; (try dsimp only at hSx); go_simp; (try with_reducible rfl))
              try simp only [Act.put, List.setIfInBounds_toArray, List.set_cons_zero, List.set_cons_succ]
              refine wpAnyH_take (i := 20) (oi := ⟨some 76, _, _, _, _, _⟩) (v := ?v48) rfl (by kernel_rfl) (by kernel_rfl) (by kernel_rfl) (fun _ _ _ h => h) (Or.inl ⟨by rfl, ?y48⟩) (by assumption) ?r48
              case y48 => (intro wx hSx; (try dsimp only at hSx); go_simp; (try with_reducible rfl))
              try simp only [Act.put, List.setIfInBounds_toArray, List.set_cons_zero, List.set_cons_succ]
              refine wpAnyH_take (i := 21) (oi := ⟨some 77, _, _, _, _, _⟩) (v := ?v49) rfl (by kernel_rfl) (by kernel_rfl) (by kernel_rfl) (fun _ _ _ h => h) (Or.inl ⟨by rfl, ?y49⟩) (by assumption) ?r49
              case y49 => (intro wx hSx; (try dsimp only at hSx); go_simp; (try with_reducible rfl))
              try simp only [Act.put, List.setIfInBounds_toArray, List.set_cons_zero, List.set_cons_succ]
              refine wpAnyH_take (i := 22) (oi := ⟨some 78, _, _, _, _, _⟩) (v := ?v50) rfl (by kernel_rfl) (by kernel_rfl) (by kernel_rfl) (fun _ _ _ h => h) (Or.inl ⟨by rfl, ?y50⟩) (by assumption) ?r50
              case y50 => (intro wx hSx; (try dsimp only at hSx); go_simp; (try with_reducible rfl))
              try simp only [Act.put, List.setIfInBounds_toArray, List.set_cons_zero, List.set_cons_succ]
              refine wpAnyH_done (by kernel_rfl) ?_ _
              go_wp2
              go_roundw
              case rel => exact ⟨k + 1, N + 1, _, by have := HLT.out; omega, by first | rfl | go_num, rfl, by first | rfl | go_num, (by first | exact HF.out.drew | exact HF.out), HI2.out⟩
              case measure => have := HLT.out; simp [intOf]; omega
      · have e1 : (fr == F) = false := beq_eq_false_iff_ne.2 hfF
        have e2 : (fr != F) = true := by rw [bne, e1]; rfl
        have HI2 := hid (HI.out.other HX.out hfF)
        clear hfF
        go_wp2
        go_roundw
        case rel => exact ⟨k + 1, N, lw, by have := HLT.out; omega, by first | rfl | go_num, rfl, by first | rfl | go_num, (by first | exact HF.out.drew | exact HF.out), HI2.out⟩
        case measure => have := HLT.out; simp [intOf]; omega
    · have hke : k = L := by omega
      subst hke
      have htk : Ls.take k = Ls := List.take_of_length_le (by rw [HL.out]; exact Nat.le_refl _)
      have HCN := hid (show N = cF Ls F from htk ▸ HI.out.cnt)
      have HND := hid (show ∀ x ∈ Ls, x.1 = F → x.2.1 ≠ s from fun x hx hxF => by
        obtain ⟨p, hp⟩ := List.mem_iff_getElem?.1 hx
        exact HI.out.nod p x (by have := (List.getElem?_eq_some_iff.1 hp).1; rw [HL.out] at this; exact this) hp hxF)
      have hzr := HRQ.out.blk.free 0
      have hrl := HRQ.out.blk.lt
      clear hk hlt htk
      by_cases hN2 : N < 2
      · have HQD := hid (show AddQ Ls F (s, r) true (Ls ++ [(F, s, r)]) from ⟨fun e => absurd e (by decide), fun _ => ⟨HND.out, .inl ⟨by rw [← HCN.out]; exact hN2, rfl⟩⟩⟩)
        have hn2 : (N : Int) < 2 := by omega
        clear hN2
        go_wp2_with fail
        have hfa : Frm (fun _ => False) wr (wr.alloc (.cells #[.int .u8 F, .int .u32 s, .int .u64 r] TSa)).drew := (mbox _ _).trans (frm_drew _)
        have HR3 := hid (HRQ.out.quiet hfa); have HO3 := hid (HO2.out.quiet hfa); have HF3 := hid (HF.out.trans hfa)
        have HX3 := hid (show Blk (wr.alloc (.cells #[.int .u8 F, .int .u32 s, .int .u64 r] TSa)).drew wr.heap.size (saC (F, s, r)) TSa from (Blk.new wr (saC (F, s, r)) TSa).frm (frm_drew _) (fun h => h))
        have HRn := hid (HRQ.out.quiet (mbox wr (.cells #[.int .u8 F, .int .u32 s, .int .u64 r] TSa))); have HOn := hid (HO2.out.quiet (mbox wr (.cells #[.int .u8 F, .int .u32 s, .int .u64 r] TSa)))
        have HXn := hid (show Blk (wr.alloc (.cells #[.int .u8 F, .int .u32 s, .int .u64 r] TSa)) wr.heap.size (saC (F, s, r)) TSa from Blk.new wr (saC (F, s, r)) TSa)
        have HXR := hid (show ¬ rb = wr.heap.size by omega)
        have HXV := hid (show ∀ q, (Value.slice va k vc).ownBlock = some q → q < wr.heap.size from fun q hq => HO2.out.lt hq)
        obtain ⟨w3, hw3⟩ : ∃ w3, wr.alloc (.cells #[.int .u8 F, .int .u32 s, .int .u64 r] TSa) = w3 := ⟨_, rfl⟩
        obtain ⟨xb, hxb⟩ : ∃ xb, wr.heap.size = xb := ⟨_, rfl⟩
        rw [hw3, hxb]
        rw [hw3] at HR3 HO3 HF3 HX3 HRn HOn HXn
        rw [hxb] at HX3 HXR HXV HXn
        clear hw3 hxb hfa q0 hzr hrl
        have q0 := HRn.out.blk.cell 0; have hzr := HRn.out.blk.free 0; have hrl3 := HRn.out.blk.lt
        simp only [List.getElem?_cons_zero] at q0
        refine wp_region_held_drew (S := fun wx => wx.cell? ⟨xb, 0, none⟩ = some (.int .u8 F) ∧ wx.cell? ⟨xb, 1, none⟩ = some (.int .u32 s) ∧ wx.cell? ⟨xb, 2, none⟩ = some (.int .u64 r)) (by kernel_rfl) ?_ (fun hHeld => ?_)
        · exact ⟨HX3.out.cell 0, HX3.out.cell 1, HX3.out.cell 2⟩
        refine wpAnyH_take (i := 0) (oi := ⟨some 87, _, _, _, _, _⟩) (v := ?v58) rfl (by kernel_rfl) (by kernel_rfl) (by kernel_rfl) (fun _ _ _ h => h) (Or.inl ⟨by rfl, ?y58⟩) (by assumption) ?r58
        case y58 => (intro wx hSx; (try dsimp only at hSx); go_simp; (try with_reducible rfl))
        try simp only [Act.put, List.setIfInBounds_toArray, List.set_cons_zero, List.set_cons_succ]
        refine wpAnyH_take (i := 1) (oi := ⟨some 88, _, _, _, _, _⟩) (v := ?v59) rfl (by kernel_rfl) (by kernel_rfl) (by kernel_rfl) (fun _ _ _ h => h) (Or.inl ⟨by rfl, ?y59⟩) (by assumption) ?r59
        case y59 => (intro wx hSx; (try dsimp only at hSx); go_simp; (try with_reducible rfl))
        try simp only [Act.put, List.setIfInBounds_toArray, List.set_cons_zero, List.set_cons_succ]
        refine wpAnyH_take (i := 2) (oi := ⟨some 89, _, _, _, _, _⟩) (v := ?v60) rfl (by kernel_rfl) (by kernel_rfl) (by kernel_rfl) (fun _ _ _ h => h) (Or.inl ⟨by rfl, ?y60⟩) (by assumption) ?r60
        case y60 => (intro wx hSx; (try dsimp only at hSx); go_simp; (try with_reducible rfl))
        try simp only [Act.put, List.setIfInBounds_toArray, List.set_cons_zero, List.set_cons_succ]
        refine wpAnyH_take (i := 3) (oi := ⟨some 90, _, _, _, _, _⟩) (v := ?v61) rfl (by kernel_rfl) (by kernel_rfl) (by kernel_rfl) (fun _ _ _ h => h) (Or.inl ⟨by rfl, ?y61⟩) (by assumption) ?r61
        case y61 => (intro wx hSx; (try dsimp only at hSx); go_simp; (try with_reducible rfl))
        try simp only [Act.put, List.setIfInBounds_toArray, List.set_cons_zero, List.set_cons_succ]
        refine wpAnyH_take (i := 5) (oi := ⟨some 92, _, _, _, _, _⟩) (v := ?v62) rfl (by kernel_rfl) (by kernel_rfl) (by kernel_rfl) (fun _ _ _ h => h) (Or.inl ⟨by rfl, ?y62⟩) (by assumption) ?r62
        case y62 => (intro wx hSx; (try dsimp only at hSx); go_simp; (try with_reducible rfl))
        try simp only [Act.put, List.setIfInBounds_toArray, List.set_cons_zero, List.set_cons_succ]
        refine wpAnyH_ready (rs := [4, 6]) (by kernel_rfl) (by simp) ?_
        refine AllReadyH.cons (o := ⟨some 91, _, _, _, _, _⟩) rfl (fun K hK => ?_) (AllReadyH.cons (o := ⟨some 93, _, _, _, _, _⟩) rfl (fun K hK => ?_) AllReadyH.nil)
        · go_simp
          refine hK.out _ _ ?_ (fun hHeld2 => ?_)
          · ((try dsimp only); exact ⟨HX3.out.cell 0, HX3.out.cell 1, HX3.out.cell 2⟩)
          clear hK K hHeld; have hHeld := hHeld2; clear hHeld2
          try simp only [Act.put, List.setIfInBounds_toArray, List.set_cons_zero, List.set_cons_succ]
          refine wpAnyH_ready (rs := [6]) (by kernel_rfl) (by simp) ?_
          refine AllReadyH.cons (o := ⟨some 93, _, _, _, _, _⟩) rfl (fun K hK => ?_) AllReadyH.nil
          go_simp
          refine hK.out _ _ ?_ (fun hHeld2 => ?_)
          · ((try dsimp only); exact ⟨(HX3.out.frm (mbox _ _) (fun h => h)).cell 0, (HX3.out.frm (mbox _ _) (fun h => h)).cell 1, (HX3.out.frm (mbox _ _) (fun h => h)).cell 2⟩)
          clear hK K hHeld; have hHeld := hHeld2; clear hHeld2
          try simp only [Act.put, List.setIfInBounds_toArray, List.set_cons_zero, List.set_cons_succ]
          refine wpAnyH_ready (rs := [7]) (by kernel_rfl) (by simp) ?_
          refine AllReadyH.cons (o := ⟨some 94, _, _, _, _, _⟩) rfl (fun K hK => ?_) AllReadyH.nil
          refine wp_moreA (F, s, r) (.tmp 91) (.tmp 93) rfl rfl (HO3.out.quiet (mbox _ _)) (fun q hq => by have h1 := HR3.out.blk.lt; have h2 : q ≤ rb := hq; simp; simp at h1; omega) (Blk.new _ (saC (F, s, r)) TSa) (by rw [HL.out]; have := HFEW.out; omega) rfl rfl ?_
          intro v7 w6 ho' hf' hat'
          obtain ⟨ra7, rc7, hv7⟩ := ho'.slice; (rw [show (Ls ++ [(F, s, r)]).length = k + 1 by rw [List.length_append, HL.out]; rfl] at hv7); subst hv7
          have HO6 := hid ho'; have HFX := hid hf'; have HX6 := hid ((HX3.out.frm (mbox _ _) (fun h => h)).frm hf' (fun e => Nat.lt_irrefl _ (HXV.out _ e))); have HB6 := hid ((HR3.out.blk.frm (mbox _ _) (fun h => h)).frm hf' (fun e => HO3.out.off _ e (Nat.le_refl _)))
          have q6 := HB6.out.cell 0; have z6 := HB6.out.free 0
          simp only [List.getElem?_cons_zero] at q6
          clear ho' hf' hat'
          refine hK.out _ _ ?_ (fun hHeld2 => ?_)
          · ((try dsimp only); exact ⟨HX6.out.cell 0, HX6.out.cell 1, HX6.out.cell 2⟩)
          clear hK K hHeld; have hHeld := hHeld2; clear hHeld2
          try simp only [Act.put, List.setIfInBounds_toArray, List.set_cons_zero, List.set_cons_succ]
          refine wpAnyH_take (i := 8) (oi := ⟨some 95, _, _, _, _, _⟩) (v := ?v63) rfl (by kernel_rfl) (by kernel_rfl) (by kernel_rfl) (fun _ _ _ h => h) (Or.inl ⟨by rfl, ?y63⟩) (by assumption) ?r63
          case y63 => (intro wx hSx; (try dsimp only at hSx); go_simp; (try with_reducible rfl))
          try simp only [Act.put, List.setIfInBounds_toArray, List.set_cons_zero, List.set_cons_succ]
          refine wpAnyH_take (i := 9) (oi := ⟨some 96, _, _, _, _, _⟩) (v := ?v64) rfl (by kernel_rfl) (by kernel_rfl) (by kernel_rfl) (fun _ _ _ h => h) (Or.inl ⟨by rfl, ?y64⟩) (by assumption) ?r64
          case y64 => (intro wx hSx; (try dsimp only at hSx); go_simp; (try with_reducible rfl))
          try simp only [Act.put, List.setIfInBounds_toArray, List.set_cons_zero, List.set_cons_succ]
          refine wpAnyH_ready (rs := [10]) (by kernel_rfl) (by simp) ?_
          refine AllReadyH.cons (o := ⟨none, _, _, _, _, _⟩) rfl (fun K hK => ?_) AllReadyH.nil
          go_simp
          refine hK.out _ _ ?_ (fun hHeld2 => ?_)
          · ((try dsimp only); exact ⟨(HX6.out.setOther ⟨rb, 0, none⟩ _ (fun e => HXR.out e)).cell 0, (HX6.out.setOther ⟨rb, 0, none⟩ _ (fun e => HXR.out e)).cell 1, (HX6.out.setOther ⟨rb, 0, none⟩ _ (fun e => HXR.out e)).cell 2⟩)
          clear hK K hHeld; have hHeld := hHeld2; clear hHeld2
          try simp only [Act.put, List.setIfInBounds_toArray, List.set_cons_zero, List.set_cons_succ]
          refine wpAnyH_done (by kernel_rfl) ?_ _
          go_wp2
          go_ret
          exact ⟨true, _, _, rfl, ⟨HB6.out.setCell 0 _, HO6.out.frm ((Frm.refl (· = rb) _).setCell ⟨rb, 0, none⟩ _ (.inr rfl)) (fun q hq e => HO6.out.off q hq (by show q ≤ rb; rw [show q = rb from e]; exact Nat.le_refl _)), by rw [List.length_append, HL.out]; show k + 1 ≤ 1000; have := HFEW.out; omega, fun x hx => by
            rcases List.mem_append.1 hx with h1 | h1
            · exact HFR.out x h1
            · rw [List.mem_singleton.1 h1]; exact HF4.out⟩, HQD.out, ((((HF3.out.mono (S' := Rdb rb (.slice va k vc)) (fun _ _ h => h.elim)).trans' (mbox _ _) (fun _ _ h => h.elim)).trans' HFX.out (fun q hq h => .inr h)).setCell ⟨rb, 0, none⟩ _ (.inr (.inl rfl)))⟩
        · go_simp
          refine hK.out _ _ ?_ (fun hHeld2 => ?_)
          · ((try dsimp only); exact ⟨(HX3.out.frm (mbox _ _) (fun h => h)).cell 0, (HX3.out.frm (mbox _ _) (fun h => h)).cell 1, (HX3.out.frm (mbox _ _) (fun h => h)).cell 2⟩)
          clear hK K hHeld; have hHeld := hHeld2; clear hHeld2
          try simp only [Act.put, List.setIfInBounds_toArray, List.set_cons_zero, List.set_cons_succ]
          refine wpAnyH_ready (rs := [4]) (by kernel_rfl) (by simp) ?_
          refine AllReadyH.cons (o := ⟨some 91, _, _, _, _, _⟩) rfl (fun K hK => ?_) AllReadyH.nil
          go_simp
          refine hK.out _ _ ?_ (fun hHeld2 => ?_)
          · ((try dsimp only); exact ⟨(HX3.out.frm (mbox _ _) (fun h => h)).cell 0, (HX3.out.frm (mbox _ _) (fun h => h)).cell 1, (HX3.out.frm (mbox _ _) (fun h => h)).cell 2⟩)
          clear hK K hHeld; have hHeld := hHeld2; clear hHeld2
          try simp only [Act.put, List.setIfInBounds_toArray, List.set_cons_zero, List.set_cons_succ]
          refine wpAnyH_ready (rs := [7]) (by kernel_rfl) (by simp) ?_
          refine AllReadyH.cons (o := ⟨some 94, _, _, _, _, _⟩) rfl (fun K hK => ?_) AllReadyH.nil
          refine wp_moreA (F, s, r) (.tmp 91) (.tmp 93) rfl rfl (HO3.out.quiet (mbox _ _)) (fun q hq => by have h1 := HR3.out.blk.lt; have h2 : q ≤ rb := hq; simp; simp at h1; omega) (Blk.new _ (saC (F, s, r)) TSa) (by rw [HL.out]; have := HFEW.out; omega) rfl rfl ?_
          intro v7 w6 ho' hf' hat'
          obtain ⟨ra7, rc7, hv7⟩ := ho'.slice; (rw [show (Ls ++ [(F, s, r)]).length = k + 1 by rw [List.length_append, HL.out]; rfl] at hv7); subst hv7
          have HO6 := hid ho'; have HFX := hid hf'; have HX6 := hid ((HX3.out.frm (mbox _ _) (fun h => h)).frm hf' (fun e => Nat.lt_irrefl _ (HXV.out _ e))); have HB6 := hid ((HR3.out.blk.frm (mbox _ _) (fun h => h)).frm hf' (fun e => HO3.out.off _ e (Nat.le_refl _)))
          have q6 := HB6.out.cell 0; have z6 := HB6.out.free 0
          simp only [List.getElem?_cons_zero] at q6
          clear ho' hf' hat'
          refine hK.out _ _ ?_ (fun hHeld2 => ?_)
          · ((try dsimp only); exact ⟨HX6.out.cell 0, HX6.out.cell 1, HX6.out.cell 2⟩)
          clear hK K hHeld; have hHeld := hHeld2; clear hHeld2
          try simp only [Act.put, List.setIfInBounds_toArray, List.set_cons_zero, List.set_cons_succ]
          refine wpAnyH_take (i := 8) (oi := ⟨some 95, _, _, _, _, _⟩) (v := ?v65) rfl (by kernel_rfl) (by kernel_rfl) (by kernel_rfl) (fun _ _ _ h => h) (Or.inl ⟨by rfl, ?y65⟩) (by assumption) ?r65
          case y65 => (intro wx hSx; (try dsimp only at hSx); go_simp; (try with_reducible rfl))
          try simp only [Act.put, List.setIfInBounds_toArray, List.set_cons_zero, List.set_cons_succ]
          refine wpAnyH_take (i := 9) (oi := ⟨some 96, _, _, _, _, _⟩) (v := ?v66) rfl (by kernel_rfl) (by kernel_rfl) (by kernel_rfl) (fun _ _ _ h => h) (Or.inl ⟨by rfl, ?y66⟩) (by assumption) ?r66
          case y66 => (intro wx hSx; (try dsimp only at hSx); go_simp; (try with_reducible rfl))
          try simp only [Act.put, List.setIfInBounds_toArray, List.set_cons_zero, List.set_cons_succ]
          refine wpAnyH_ready (rs := [10]) (by kernel_rfl) (by simp) ?_
          refine AllReadyH.cons (o := ⟨none, _, _, _, _, _⟩) rfl (fun K hK => ?_) AllReadyH.nil
          go_simp
          refine hK.out _ _ ?_ (fun hHeld2 => ?_)
          · ((try dsimp only); exact ⟨(HX6.out.setOther ⟨rb, 0, none⟩ _ (fun e => HXR.out e)).cell 0, (HX6.out.setOther ⟨rb, 0, none⟩ _ (fun e => HXR.out e)).cell 1, (HX6.out.setOther ⟨rb, 0, none⟩ _ (fun e => HXR.out e)).cell 2⟩)
          clear hK K hHeld; have hHeld := hHeld2; clear hHeld2
          try simp only [Act.put, List.setIfInBounds_toArray, List.set_cons_zero, List.set_cons_succ]
          refine wpAnyH_done (by kernel_rfl) ?_ _
          go_wp2
          go_ret
          exact ⟨true, _, _, rfl, ⟨HB6.out.setCell 0 _, HO6.out.frm ((Frm.refl (· = rb) _).setCell ⟨rb, 0, none⟩ _ (.inr rfl)) (fun q hq e => HO6.out.off q hq (by show q ≤ rb; rw [show q = rb from e]; exact Nat.le_refl _)), by rw [List.length_append, HL.out]; show k + 1 ≤ 1000; have := HFEW.out; omega, fun x hx => by
            rcases List.mem_append.1 hx with h1 | h1
            · exact HFR.out x h1
            · rw [List.mem_singleton.1 h1]; exact HF4.out⟩, HQD.out, ((((HF3.out.mono (S' := Rdb rb (.slice va k vc)) (fun _ _ h => h.elim)).trans' (mbox _ _) (fun _ _ h => h.elim)).trans' HFX.out (fun q hq h => .inr h)).setCell ⟨rb, 0, none⟩ _ (.inr (.inl rfl)))⟩
      · obtain ⟨j, ⟨zf, z1, z2⟩, hlw, hjk, hjx, hzF, hzm⟩ := HI.out.some_ (by omega)
        subst hlw
        obtain rfl : zf = F := hzF
        obtain ⟨g, c, hv, hgc, hgm, _⟩ := HO2.out.at_ (by rw [HL.out]; omega)
        injection hv with e1 e2 e3
        subst e1 e3
        rw [HL.out] at hgc
        have d0 := HO2.out.cells j _ hjx 0 (by decide); have d1 := HO2.out.cells j _ hjx 1 (by decide); have d2 := HO2.out.cells j _ hjx 2 (by decide)
        simp only [saC, List.getElem?_cons_succ, List.getElem?_cons_zero, Nat.add_zero] at d0 d1 d2
        have hj0 : (0 : Int) ≤ (j : Int) := by omega
        have hjl : (j : Int) < (k : Int) := by omega
        have hn2 : ¬ (N : Int) < 2 := by omega
        have hgl := HO2.out.lt rfl
        have HJK := hid hjk
        have HZM := hid (show ∀ y ∈ Ls, y.1 = zf → z1 ≤ y.2.1 from fun y hy hyF => by
          obtain ⟨p, hp⟩ := List.mem_iff_getElem?.1 hy
          exact hzm p y (by have := (List.getElem?_eq_some_iff.1 hp).1; rw [HL.out] at this; exact this) hp hyF)
        have HJX := hid hjx
        have HC2 := hid (show 2 ≤ cF Ls zf by rw [← HCN.out]; omega)
        clear hN2 hjx hzm hjk e2
        by_cases hzs : z1 < s
        · have HQD := hid (show AddQ Ls zf (s, r) true (Ls.set j (zf, s, r)) from ⟨fun e => absurd e (by decide), fun _ => ⟨HND.out, .inr ⟨HC2.out, j, _, HJX.out, rfl, HZM.out, .inl ⟨hzs, rfl⟩⟩⟩⟩)
          go_wp2_with fail
          have hfa : Frm (fun _ => False) wr (wr.alloc (.cells #[.int .u8 zf, .int .u32 s, .int .u64 r] TSa)).drew := (mbox _ _).trans (frm_drew _)
          have HR3 := hid (HRQ.out.quiet hfa); have HO3 := hid (HO2.out.quiet hfa); have HF3 := hid (HF.out.trans hfa)
          have HX3 := hid (show Blk (wr.alloc (.cells #[.int .u8 zf, .int .u32 s, .int .u64 r] TSa)).drew wr.heap.size (saC (zf, s, r)) TSa from (Blk.new wr (saC (zf, s, r)) TSa).frm (frm_drew _) (fun h => h))
          have HRn := hid (HRQ.out.quiet (mbox wr (.cells #[.int .u8 zf, .int .u32 s, .int .u64 r] TSa))); have HOn := hid (HO2.out.quiet (mbox wr (.cells #[.int .u8 zf, .int .u32 s, .int .u64 r] TSa)))
          have HXn := hid (show Blk (wr.alloc (.cells #[.int .u8 zf, .int .u32 s, .int .u64 r] TSa)) wr.heap.size (saC (zf, s, r)) TSa from Blk.new wr (saC (zf, s, r)) TSa)
          have HXR := hid (show ¬ rb = wr.heap.size by omega)
          have HXV := hid (show ∀ q, (Value.slice (some ⟨g, 0, none⟩) k vc).ownBlock = some q → q < wr.heap.size from fun q hq => HO2.out.lt hq)
          obtain ⟨w3, hw3⟩ : ∃ w3, wr.alloc (.cells #[.int .u8 zf, .int .u32 s, .int .u64 r] TSa) = w3 := ⟨_, rfl⟩
          obtain ⟨xb, hxb⟩ : ∃ xb, wr.heap.size = xb := ⟨_, rfl⟩
          rw [hw3, hxb]
          rw [hw3] at HR3 HO3 HF3 HX3 HRn HOn HXn
          rw [hxb] at HX3 HXR HXV HXn
          clear hw3 hxb hfa q0 hzr hrl
          have q0 := HRn.out.blk.cell 0; have hzr := HRn.out.blk.free 0; have hrl3 := HRn.out.blk.lt
          simp only [List.getElem?_cons_zero] at q0
          have HGX := hid (show ¬ g = xb ∧ ¬ g = rb from ⟨fun e => by have := HXV.out g rfl; omega, fun e => HO3.out.off g rfl (by show g ≤ rb; rw [e]; exact Nat.le_refl _)⟩)
          clear d0 d1 d2
          refine wp_region_held_drew (S := fun wx => wx.cell? ⟨rb, 0, none⟩ = some (.slice (some ⟨g, 0, none⟩) k vc) ∧ wx.cell? ⟨xb, 0, none⟩ = some (.int .u8 zf) ∧ wx.cell? ⟨xb, 1, none⟩ = some (.int .u32 s) ∧ wx.cell? ⟨xb, 2, none⟩ = some (.int .u64 r)) (by kernel_rfl) ?_ (fun hHeld => ?_)
          · exact ⟨HR3.out.blk.cell 0, HX3.out.cell 0, HX3.out.cell 1, HX3.out.cell 2⟩
          refine wpAnyH_take (i := 0) (oi := ⟨some 108, _, _, _, _, _⟩) (v := ?v51) rfl (by kernel_rfl) (by kernel_rfl) (by kernel_rfl) (fun _ _ _ h => h) (Or.inl ⟨by rfl, ?y51⟩) (by assumption) ?r51
          case y51 => (intro wx hSx; (try dsimp only at hSx); go_simp; (try with_reducible rfl))
          try simp only [Act.put, List.setIfInBounds_toArray, List.set_cons_zero, List.set_cons_succ]
          refine wpAnyH_take (i := 1) (oi := ⟨some 109, _, _, _, _, _⟩) (v := ?v52) rfl (by kernel_rfl) (by kernel_rfl) (by kernel_rfl) (fun _ _ _ h => h) (Or.inl ⟨by rfl, ?y52⟩) (by assumption) ?r52
          case y52 => (intro wx hSx; (try dsimp only at hSx); go_simp; (try with_reducible rfl))
          try simp only [Act.put, List.setIfInBounds_toArray, List.set_cons_zero, List.set_cons_succ]
          refine wpAnyH_take (i := 2) (oi := ⟨some 110, _, _, _, _, _⟩) (v := ?v53) rfl (by kernel_rfl) (by kernel_rfl) (by kernel_rfl) (fun _ _ _ h => h) (Or.inl ⟨by rfl, ?y53⟩) (by assumption) ?r53
          case y53 => (intro wx hSx; (try dsimp only at hSx); go_simp; (try with_reducible rfl))
          try simp only [Act.put, List.setIfInBounds_toArray, List.set_cons_zero, List.set_cons_succ]
          refine wpAnyH_take (i := 3) (oi := ⟨some 111, _, _, _, _, _⟩) (v := ?v54) rfl (by kernel_rfl) (by kernel_rfl) (by kernel_rfl) (fun _ _ _ h => h) (Or.inl ⟨by rfl, ?y54⟩) (by assumption) ?r54
          case y54 => (intro wx hSx; (try dsimp only at hSx); go_simp; (try with_reducible rfl))
          try simp only [Act.put, List.setIfInBounds_toArray, List.set_cons_zero, List.set_cons_succ]
          refine wpAnyH_take (i := 4) (oi := ⟨some 112, _, _, _, _, _⟩) (v := ?v55) rfl (by kernel_rfl) (by kernel_rfl) (by kernel_rfl) (fun _ _ _ h => h) (Or.inl ⟨by rfl, ?y55⟩) (by assumption) ?r55
          case y55 => (intro wx hSx; (try dsimp only at hSx); go_simp; (try with_reducible rfl))
          try simp only [Act.put, List.setIfInBounds_toArray, List.set_cons_zero, List.set_cons_succ]
          refine wpAnyH_take (i := 5) (oi := ⟨some 113, _, _, _, _, _⟩) (v := ?v56) rfl (by kernel_rfl) (by kernel_rfl) (by kernel_rfl) (fun _ _ _ h => h) (Or.inl ⟨by rfl, ?y56⟩) (by assumption) ?r56
          case y56 => (intro wx hSx; (try dsimp only at hSx); go_simp; (try with_reducible rfl))
          try simp only [Act.put, List.setIfInBounds_toArray, List.set_cons_zero, List.set_cons_succ]
          refine wpAnyH_take (i := 6) (oi := ⟨some 114, _, _, _, _, _⟩) (v := ?v57) rfl (by kernel_rfl) (by kernel_rfl) (by kernel_rfl) (fun _ _ _ h => h) (Or.inl ⟨by rfl, ?y57⟩) (by assumption) ?r57
          case y57 => (intro wx hSx; (try dsimp only at hSx); go_simp; (try with_reducible rfl))
          try simp only [Act.put, List.setIfInBounds_toArray, List.set_cons_zero, List.set_cons_succ]
          refine wpAnyH_ready (rs := [7]) (by kernel_rfl) (by simp) ?_
          refine AllReadyH.cons (o := ⟨none, _, _, _, _, _⟩) rfl (fun K hK => ?_) AllReadyH.nil
          refine wp_store_sa (.tmp 114) (.tmp 113) rfl HO3.out (by rw [HL.out]) j (by rw [HL.out]; exact HJK.out) (zf, s, r) rfl rfl ?_
          intro w6 ho' hf'
          have HO6 := hid ho'; have HFS := hid hf'; have HX6 := hid (HX3.out.frm hf' (fun e => HGX.out.1 e.symm)); have HB6 := hid (HR3.out.blk.frm hf' (fun e => HGX.out.2 e.symm))
          clear ho' hf'
          refine hK.out _ _ ?_ (fun hHeld2 => ?_)
          · ((try dsimp only); exact ⟨HB6.out.cell 0, HX6.out.cell 0, HX6.out.cell 1, HX6.out.cell 2⟩)
          clear hK K hHeld; have hHeld := hHeld2; clear hHeld2
          try simp only [Act.put, List.setIfInBounds_toArray, List.set_cons_zero, List.set_cons_succ]
          refine wpAnyH_done (by kernel_rfl) ?_ _
          go_wp2
          go_ret
          exact ⟨true, _, _, rfl, ⟨HR3.out.blk.frm HFS.out (fun e => HGX.out.2 e.symm), HO6.out, by rw [List.length_set, HL.out]; have := HFEW.out; omega, fun x hx => by
            rcases List.mem_or_eq_of_mem_set hx with h1 | h1
            · exact HFR.out x h1
            · rw [h1]; exact HF4.out⟩, HQD.out, (HF3.out.mono (S' := Rdb rb (.slice (some ⟨g, 0, none⟩) k vc)) (fun _ _ h => h.elim)).trans' HFS.out (fun q hq e => .inr (by rw [show q = g from e]; rfl))⟩
        · have HQD := hid (show AddQ Ls zf (s, r) true Ls from ⟨fun e => absurd e (by decide), fun _ => ⟨HND.out, .inr ⟨HC2.out, j, _, HJX.out, rfl, HZM.out, .inr ⟨hzs, rfl⟩⟩⟩⟩)
          go_wp2
          go_ret
          first
            | exact ⟨true, _, Ls, rfl, HRQ.out.quiet (mbox _ _), HQD.out, (HF.out.trans (mbox _ _)).mono (fun _ _ h => h.elim)⟩
            | exact .inr ⟨rfl, _, Ls, HRQ.out.quiet (mbox _ _), HQD.out, (HF.out.trans (mbox _ _)).mono (fun _ _ h => h.elim)⟩
end Go.Proofs.Ytiffhkhmkigolaa
