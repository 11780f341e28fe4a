/- Rows of uint32 of one's own, to which more is appended. (Written by gen_own.py.) -/
import Derived.Test.YtljfbaakgjmmfaaOwn
namespace Go.Proofs.Ytljfbaakgjmmfaa
open Go.RowKit Go.ChangeShapes
set_option maxRecDepth 20000
set_option linter.unusedVariables false
set_option linter.unusedSimpArgs false
abbrev bytW (zs : List Int) : List Value := zs.map (.int .u32)
theorem IsInts.cellsrcW {w : World} {a : Option Addr} {c : Nat} {zs : List Int} (h : IsInts .u32 w a c zs) (hp : 0 < zs.length) :
    ∃ ad, a = some ad ∧ ∀ (j : Nat) v, (bytW zs)[j]? = some v → w.cell? (ad.add j) = some v := by
  obtain ⟨b, off, rfl, _, hc⟩ := h.at_ (by omega)
  refine ⟨_, rfl, fun j v hj => ?_⟩
  rw [List.getElem?_map] at hj
  cases hz : zs[j]? with
  | none => rw [hz] at hj; cases hj
  | some x =>
    rw [hz] at hj
    simp only [Option.map_some, Option.some.injEq] at hj
    have hl : j < zs.length := by
      rcases Nat.lt_or_ge j zs.length with hl | hl
      · exact hl
      · rw [List.getElem?_eq_none hl] at hz; cases hz
    rw [addr_add, hc j hl, ← hj, List.getD_eq_getElem?_getD, hz]
    rfl
theorem u8_infoW : (Try.prog.info? 25).map (fun i => (i.zero, i.size, i.bytes)) = some (some (.int .u32 0), 1, 4) := by kernel_rfl
theorem byt_oneW (zs : List Int) : ∀ v ∈ bytW zs, v.oneCell' = true := by
  intro v hv
  obtain ⟨z, _, rfl⟩ := List.mem_map.1 hv
  rfl

theorem app_nilW {w : World} {A : Option Addr} {c : Nat} {x : List Int} (h : IsInts .u32 w A c x) (hl : x.length ≤ 1000000) :
    ∃ A' c' w', (Builtin.append_ #[65, 65] 65 #[.slice none 0 0, .slice A x.length c]).run Try.prog w = .ok (.slice A' x.length c') w' ∧ IsInts .u32 w' A' c' x ∧ Frm (fun _ => False) w w' ∧ ∀ p, A' = some p → w.heap.size ≤ p.block := by
  obtain ⟨i, hi, hzz⟩ := Option.map_eq_some_iff.1 u8_infoW
  simp only [Prod.mk.injEq] at hzz
  obtain ⟨hz, hs, hb⟩ := hzz
  rcases Nat.eq_zero_or_pos x.length with e0 | e0
  · obtain rfl : x = [] := List.eq_nil_of_length_eq_zero e0
    refine ⟨none, 0, w, ?_, ⟨Nat.le_refl _, by omega, fun h => absurd rfl h, fun _ h => by cases h⟩, Frm.refl _ _, fun p hp => by cases hp⟩
    cases A with
    | none => exact run_append_nothing (P := Try.prog) w 65 65 65 25 i Try.underlying65 hi none 0 0 (Nat.le_refl _) _ (Src.ofNil w Try.underlying65 c)
    | some p => exact run_append_nothing (P := Try.prog) w 65 65 65 25 i Try.underlying65 hi none 0 0 (Nat.le_refl _) _ (Src.ofSlice w Try.underlying65 p 0 c [] (by simp) (by simp) (by simp))
  · obtain ⟨ad, rfl, hc⟩ := h.cellsrcW e0
    obtain ⟨v', w', hr, hown, hg, hv⟩ := run_append_own (P := Try.prog) w w.heap.size 65 65 25 i (.int .u32 0) 1 4 Try.underlying65 hi hz hs hb rfl (by decide) (.slice none 0 0) 0 [] (World.ownsRow_nil _ _ _ _)
      ad x.length c (bytW x) (by simp) hc (byt_oneW x) (by simp only [maxLen]; omega) (by omega) (Nat.le_refl _)
    have hf : Frm (fun _ => False) w w' := ⟨hg.os, hg.tape, hg.output, hg.size, fun k hk _ => hg.block k hk (by simp [Value.ownBlock])⟩
    rcases hown.2 with ⟨_, h0⟩ | ⟨g, cap, cur, rfl, hbg, hgg, hnc, hcm, hcs, htk⟩
    · omega
    · refine ⟨some ⟨g, 0, none⟩, cap, w', ?_, ⟨by omega, by simpa only [maxLen] using hcm, fun _ => ⟨g, 0, rfl, ?_, fun i hi => ?_⟩, h.wf⟩, hf, fun p hp => by cases hp; exact hbg⟩
      · rw [hr, Nat.zero_add]
      · exact (Array.getElem?_eq_some_iff.1 hgg).1
      · have h1 := hown.cells (g := g) rfl i (.int .u32 (x.getD i 0)) (by
          rw [List.nil_append, List.getElem?_map, List.getElem?_eq_getElem hi, List.getD_eq_getElem?_getD, List.getElem?_eq_getElem hi]; rfl)
        rwa [addr_add] at h1
/-- append(nil, x...), something in x: a new block of one's own. -/
theorem app_ownW {w : World} {A : Option Addr} {c : Nat} {x : List Int} (h : IsInts .u32 w A c x) (hl : x.length ≤ 1000000) (e0 : 0 < x.length) :
    ∃ g cap cs w', (Builtin.append_ #[65, 65] 65 #[.slice none 0 0, .slice A x.length c]).run Try.prog w = .ok (.slice (some ⟨g, 0, none⟩) x.length cap) w' ∧ Blk w' g cs 25 ∧ cs.take x.length = bytW x ∧ x.length ≤ cap ∧ cap ≤ 9223372036854775807 ∧ Frm (fun _ => False) w w' ∧ w.heap.size ≤ g := by
  obtain ⟨i, hi, hzz⟩ := Option.map_eq_some_iff.1 u8_infoW
  simp only [Prod.mk.injEq] at hzz
  obtain ⟨hz, hs, hb⟩ := hzz
  obtain ⟨ad, rfl, hc⟩ := h.cellsrcW e0
  obtain ⟨v', w', hr, hown, hg, hv⟩ := run_append_own (P := Try.prog) w w.heap.size 65 65 25 i (.int .u32 0) 1 4 Try.underlying65 hi hz hs hb rfl (by decide) (.slice none 0 0) 0 [] (World.ownsRow_nil _ _ _ _)
    ad x.length c (bytW x) (by simp) hc (byt_oneW x) (by simp only [maxLen]; omega) (by omega) (Nat.le_refl _)
  have hf : Frm (fun _ => False) w w' := ⟨hg.os, hg.tape, hg.output, hg.size, fun k hk _ => hg.block k hk (by simp [Value.ownBlock])⟩
  rcases hown.2 with ⟨_, h0⟩ | ⟨g, cap, cur, rfl, hbg, hgg, hnc, hcm, hcs, htk⟩
  · omega
  · refine ⟨g, cap, cur.toList, w', ?_, ?_, ?_, by omega, by simpa only [maxLen] using hcm, hf, hbg⟩
    · rw [hr, Nat.zero_add]
    · unfold Blk; rw [hgg]
    · simpa using htk
theorem IsInts.of_takeW {w : World} {g : Nat} {x : List Int} {cs : List Value} {T cap : Nat} (h : Blk w g cs T) (ht : cs.take x.length = bytW x) (hl : x.length ≤ cap) (hm : cap ≤ 9223372036854775807) (hw : ∀ n ∈ x, (Lit.int .u32 n).wf = true) : IsInts .u32 w (some ⟨g, 0, none⟩) cap x := by
  refine ⟨hl, hm, fun _ => ⟨g, 0, rfl, h.lt, fun i hi => ?_⟩, hw⟩
  have h1 : (cs.take x.length)[i]? = cs[i]? := by rw [List.getElem?_take, if_pos hi]
  rw [h.cell, Nat.zero_add, ← h1, ht, List.getElem?_map, List.getD_eq_getElem?_getD, List.getElem?_eq_getElem hi]
  rfl
theorem own_cellW {x : List Int} {cs : List Value} (ht : cs.take x.length = bytW x) {i : Nat} (hi : i < x.length) : cs[i]? = some (.int .u32 (x.getD i 0)) := by
  have h1 : (cs.take x.length)[i]? = cs[i]? := by rw [List.getElem?_take, if_pos hi]
  rw [← h1, ht, List.getElem?_map, List.getD_eq_getElem?_getD, List.getElem?_eq_getElem hi]
  rfl
theorem IsInts.of_setW {w : World} {g : Nat} {x : List Int} {cs : List Value} {T cap : Nat} (h : Blk w g cs T) (ht : cs.take x.length = bytW x) (hl : x.length ≤ cap) (hm : cap ≤ 9223372036854775807) (hw : ∀ n ∈ x, (Lit.int .u32 n).wf = true) (i : Nat) (v : Int) (hv : (Lit.int .u32 v).wf = true) :
    IsInts .u32 (w.setCell ⟨g, i, none⟩ (.int .u32 v)) (some ⟨g, 0, none⟩) cap (x.set i v) := by
  refine IsInts.of_takeW (h.setCell i (.int .u32 v)) ?_ (by rw [List.length_set]; exact hl) hm (fun n hn => ?_)
  · rw [List.length_set, List.take_set, ht]
    exact List.map_set.symm
  · rcases List.mem_or_eq_of_mem_set hn with h' | rfl
    · exact hw n h'
    · exact hv
abbrev TU8W : Nat := 25
/-- v is a slice of bytes, its block its own: nobody else's, none of A. -/
structure OwnBW (w : World) (A : Nat → Prop) (v : Value) (x : List Int) : Prop where
  own : w.ownsRow 0 TU8W 1 v x.length (bytW x)
  off : ∀ k, v.ownBlock = some k → ¬ A k
  wf : ∀ n ∈ x, (Lit.int .u32 n).wf = true
theorem OwnBW.nil (w : World) (A : Nat → Prop) : OwnBW w A (.slice none 0 0) [] := ⟨World.ownsRow_nil _ _ _ _, fun k h => by simp [Value.ownBlock] at h, fun _ h => by cases h⟩
theorem OwnBW.frm {S : Nat → Prop} {w w' : World} {A : Nat → Prop} {v : Value} {x : List Int} (h : OwnBW w A v x) (f : Frm S w w') (hs : ∀ k, v.ownBlock = some k → ¬ S k) : OwnBW w' A v x :=
  ⟨ownsRow_frm h.own f hs, h.off, h.wf⟩
theorem OwnBW.frm0 {w w' : World} {A : Nat → Prop} {v : Value} {x : List Int} (h : OwnBW w A v x) (f : Frm (fun _ => False) w w') : OwnBW w' A v x := h.frm f fun _ _ h => h
theorem OwnBW.lt {w : World} {A : Nat → Prop} {v : Value} {x : List Int} (h : OwnBW w A v x) {k : Nat} (hk : v.ownBlock = some k) : k < w.heap.size := (h.own.lt k hk).2
/-- It is a slice value of so many bytes. -/
theorem OwnBW.ints {w : World} {A : Nat → Prop} {v : Value} {x : List Int} (h : OwnBW w A v x) : ∃ a c, v = .slice a x.length c ∧ IsInts .u32 w a c x ∧ ∀ p, a = some p → v.ownBlock = some p.block := by
  rcases h.own.2 with ⟨rfl, h0⟩ | ⟨g, cap, cur, rfl, hbg, hgg, hnc, hcm, hcs, htk⟩
  · obtain rfl : x = [] := List.eq_nil_of_length_eq_zero h0
    exact ⟨none, 0, rfl, ⟨Nat.le_refl _, by omega, fun h => absurd rfl h, fun _ h => by cases h⟩, fun p hp => by cases hp⟩
  · have hb : Blk w g cur.toList TU8W := by unfold Blk; rw [hgg]
    exact ⟨some ⟨g, 0, none⟩, cap, rfl, IsInts.of_takeW hb (by simpa using htk) hnc (by simpa only [maxLen] using hcm) h.wf, fun p hp => by cases hp; rfl⟩
theorem app_moreW {w : World} {A : Nat → Prop} {v : Value} {x y : List Int} {a : Option Addr} {c : Nat} (h : OwnBW w A v x) (hA : ∀ k, A k → k < w.heap.size) (hy : IsInts .u32 w a c y) (hl : x.length + y.length ≤ 1000000) :
    ∃ v' w', (Builtin.append_ #[65, 65] 65 #[v, .slice a y.length c]).run Try.prog w = .ok v' w' ∧ OwnBW w' A v' (x ++ y) ∧ Frm (fun k => v.ownBlock = some k) w w' ∧ ∀ k, v'.ownBlock = some k → v.ownBlock = some k ∨ w.heap.size ≤ k := by
  obtain ⟨i, hi, hzz⟩ := Option.map_eq_some_iff.1 u8_infoW
  simp only [Prod.mk.injEq] at hzz
  obtain ⟨hz, hs, hb⟩ := hzz
  have hwf : ∀ n ∈ x ++ y, (Lit.int .u32 n).wf = true := fun n hn => by
    rcases List.mem_append.1 hn with hn | hn
    · exact h.wf n hn
    · exact hy.wf n hn
  rcases Nat.eq_zero_or_pos y.length with e0 | e0
  · obtain rfl : y = [] := List.eq_nil_of_length_eq_zero e0
    refine ⟨v, w, ?_, by rw [List.append_nil]; exact h, Frm.refl _ _, fun k hk => .inl hk⟩
    obtain ⟨av, cv, rfl, hx, _⟩ := h.ints
    cases a with
    | none => exact run_append_nothing (P := Try.prog) w 65 65 65 25 i Try.underlying65 hi av x.length cv hx.le _ (Src.ofNil w Try.underlying65 c)
    | some p => exact run_append_nothing (P := Try.prog) w 65 65 65 25 i Try.underlying65 hi av x.length cv hx.le _ (Src.ofSlice w Try.underlying65 p 0 c [] (by simp) (by simp) (by simp))
  · obtain ⟨ad, rfl, hc⟩ := hy.cellsrcW e0
    obtain ⟨v', w', hr, hown, hg, hv, hat⟩ := run_append_own_at (P := Try.prog) w 0 65 65 25 i (.int .u32 0) 1 4 Try.underlying65 hi hz hs hb rfl (by decide) v x.length (bytW x) h.own
      ad y.length c (bytW y) (by simp) hc (byt_oneW y) (by simp only [maxLen]; omega) (by omega) (Nat.zero_le _)
    have hap : bytW x ++ bytW y = bytW (x ++ y) := List.map_append.symm
    have hw : ∀ k, v'.ownBlock = some k → v.ownBlock = some k ∨ w.heap.size ≤ k := fun k hk => by
      rcases hat with hat | hat
      · exact .inl (hat ▸ hk)
      · rw [hat] at hk; cases hk; exact .inr (Nat.le_refl _)
    refine ⟨v', w', hr, ⟨?_, fun k hk hak => ?_, hwf⟩, ⟨hg.os, hg.tape, hg.output, hg.size, fun k hk hn => hg.block k hk (fun e => hn e.symm)⟩, hw⟩
    · rw [List.length_append, ← hap]; exact hown
    · rcases hw k hk with h1 | h1
      · exact h.off k h1 hak
      · exact absurd (hA k hak) (by omega)
theorem one_intsW (w : World) (d : Int) (T : Nat) (hd : (Lit.int .u32 d).wf = true) : IsInts .u32 (w.alloc (.cells #[.int .u32 d] T)) (some ⟨w.heap.size, 0, none⟩) 1 [d] :=
  IsInts.of_takeW (x := [d]) (cap := 1) (Blk.new w [.int .u32 d] T) rfl (Nat.le_refl _) (by decide) (fun n hn => by rw [List.mem_singleton.1 hn]; exact hd)
/-- append of bytes onto a row of one's own, as a step of a region that draws. -/
theorem step_moreW {ops : Array Oper} {o : Oper} {a : Act} {w : World} {K : Act → World → Prop} {Q : Exit → Act → World → Prop} {E : Prop} {A : Nat → Prop} {v : Value} {xs y : List Int} {ad : Option Addr} {c m : Nat} (hgd : o.guard = none) (s x : Operand)
    (ho : o.op = .call { callee := .builtin .append, args := #[s, x], argTypes := #[65, 65] }) (ht : o.type = 65) (h : OwnBW w A v xs) (hA : ∀ k, A k → k < w.heap.size) (hy : IsInts .u32 w ad c y) (hm : y.length = m) (hl : xs.length + m ≤ 1000000)
    (hs : a.eval s = v) (hx : a.eval x = .slice ad m c) (hK : ∀ a' l' c' w', OwnBW w' A (.slice a' l' c') (xs ++ y) → Frm (fun k => v.ownBlock = some k) w w' → (∀ k, (Value.slice a' l' c').ownBlock = some k → v.ownBlock = some k ∨ w.heap.size ≤ k) → K (a.put o.dst (.slice a' l' c')) w') :
    if Region.wanted o (yielded ops a.tmps) = true then Oper.wp Try.prog o a w K Q else E := by
  subst hm
  obtain ⟨v', w', hr, h1, h2, h3⟩ := app_moreW h hA hy hl
  obtain ⟨a', c', rfl, _, _⟩ := h1.ints
  exact step_run hgd s x _ _ ho hs hx (ht ▸ hr) (hK a' _ c' w' h1 h2 h3)
/-- The same in a plain region. -/
theorem wpList_moreW {ops : Array Oper} {rest : List Oper} {o : Oper} {a : Act} {w : World} {Q : Exit → Act → World → Prop} {A : Nat → Prop} {v : Value} {xs y : List Int} {ad : Option Addr} {c m : Nat} (hgd : o.guard = none) (s x : Operand)
    (ho : o.op = .call { callee := .builtin .append, args := #[s, x], argTypes := #[65, 65] }) (ht : o.type = 65) (h : OwnBW w A v xs) (hA : ∀ k, A k → k < w.heap.size) (hy : IsInts .u32 w ad c y) (hm : y.length = m) (hl : xs.length + m ≤ 1000000)
    (hs : a.eval s = v) (hx : a.eval x = .slice ad m c) (hK : ∀ a' l' c' w', OwnBW w' A (.slice a' l' c') (xs ++ y) → Frm (fun k => v.ownBlock = some k) w w' → (∀ k, (Value.slice a' l' c').ownBlock = some k → v.ownBlock = some k ∨ w.heap.size ≤ k) → wpList Try.prog ops Q rest (a.put o.dst (.slice a' l' c')) w') :
    wpList Try.prog ops Q (o :: rest) a w := by
  subst hm
  obtain ⟨v', w', hr, h1, h2, h3⟩ := app_moreW h hA hy hl
  obtain ⟨a', c', rfl, _, _⟩ := h1.ints
  exact wpList_run hgd s x _ _ ho hs hx (ht ▸ hr) (hK a' _ c' w' h1 h2 h3)

end Go.Proofs.Ytljfbaakgjmmfaa
