/- append of bytes onto nil; one step of a region by a run that is known. -/
import Derived.Test.YtipalebaaejfjaaDoorBytes
import Derived.Laws.AppendOwn
import Derived.Deep.AppendSrc
import Derived.Deep.Upon
namespace Go.Proofs.YtipalebaaejfjaaDoor
open Go.RowKit Go.ChangeShapes
theorem app_nil {w : World} {A : Option Addr} {c : Nat} {x : List Int} (h : IsInts .u8 w A c x) (hl : x.length ≤ 281474976710656 / 4) :
    ∃ A' c' w', (Builtin.append_ #[77, 77] 77 #[.slice none 0 0, .slice A x.length c]).run Tryd.prog w = .ok (.slice A' x.length c') w' ∧ IsInts .u8 w' A' c' x ∧ Frm (fun _ => False) w w' ∧ ∀ p, A' = some p → w.heap.size ≤ p.block := by
  obtain ⟨i, hi, hzz⟩ := Option.map_eq_some_iff.1 u8_info
  simp only [Prod.mk.injEq] at hzz
  obtain ⟨hz, hs, hb⟩ := hzz
  rcases Nat.eq_zero_or_pos x.length with e0 | e0
  · obtain rfl : x = [] := List.eq_nil_of_length_eq_zero e0
    refine ⟨none, 0, w, ?_, ⟨Nat.le_refl _, by omega, fun h => absurd rfl h, fun _ h => by cases h⟩, Frm.refl _ _, fun p hp => by cases hp⟩
    cases A with
    | none => exact run_append_nothing (P := Tryd.prog) w 77 77 77 5 i Tryd.underlying77 hi none 0 0 (Nat.le_refl _) _ (Src.ofNil w Tryd.underlying77 c)
    | some p => exact run_append_nothing (P := Tryd.prog) w 77 77 77 5 i Tryd.underlying77 hi none 0 0 (Nat.le_refl _) _ (Src.ofSlice w Tryd.underlying77 p 0 c [] (by simp) (by simp) (by simp))
  · obtain ⟨ad, rfl, hc⟩ := h.cellsrc e0
    obtain ⟨v', w', hr, hown, hg, hv⟩ := run_append_own (P := Tryd.prog) w w.heap.size 77 77 5 i (.int .u8 0) 1 1 Tryd.underlying77 hi hz hs hb rfl (by decide) (.slice none 0 0) 0 [] (World.ownsRow_nil _ _ _ _)
      ad x.length c (byt x) (by simp) hc (byt_one x) (by simp only [maxLen]; omega) (by omega) (Nat.le_refl _)
    have hf : Frm (fun _ => False) w w' := ⟨hg.os, hg.tape, hg.output, hg.size, fun k hk _ => hg.block k hk (by simp [Value.ownBlock])⟩
    rcases hown.2 with ⟨_, h0⟩ | ⟨g, cap, cur, rfl, hbg, hgg, hnc, hcm, hcs, htk⟩
    · omega
    · refine ⟨some ⟨g, 0, none⟩, cap, w', ?_, ⟨by omega, by simpa only [maxLen] using hcm, fun _ => ⟨g, 0, rfl, ?_, fun i hi => ?_⟩, h.wf⟩, hf, fun p hp => by cases hp; exact hbg⟩
      · rw [hr, Nat.zero_add]
      · exact (Array.getElem?_eq_some_iff.1 hgg).1
      · have h1 := hown.cells (g := g) rfl i (.int .u8 (x.getD i 0)) (by
          rw [List.nil_append, List.getElem?_map, List.getElem?_eq_getElem hi, List.getD_eq_getElem?_getD, List.getElem?_eq_getElem hi]; rfl)
        rwa [addr_add] at h1
theorem step_run {P : Program} {ops : Array Oper} {o : Oper} {a : Act} {w : World} {K : Act → World → Prop} {Q : Exit → Act → World → Prop} {E : Prop} (hgd : o.guard = none) (s x : Operand) (t tx : TypeId)
    (ho : o.op = .call { callee := .builtin .append, args := #[s, x], argTypes := #[t, tx] }) {v1 v2 v' : Value} {w' : World} (hs : a.eval s = v1) (hx : a.eval x = v2)
    (hr : (Builtin.append_ #[t, tx] o.type #[v1, v2]).run P w = .ok v' w') (h : K (a.put o.dst v') w') :
    if Region.wanted o (yielded ops a.tmps) = true then Oper.wp P o a w K Q else E := by
  have hw : Region.wanted o (yielded ops a.tmps) = true := by simp [Region.wanted, hgd]
  rw [if_pos hw]
  unfold Oper.wp execOp
  simp only [ho, resolve, invoke, builtin, Sem.run_bind, Sem.run_pure, Result.andThen_ok, List.map_toArray, List.map_cons, List.map_nil, hs, hx, hr]
  exact h
/-- append(nil, x...), something in x: a new block of one's own. -/
theorem app_own {w : World} {A : Option Addr} {c : Nat} {x : List Int} (h : IsInts .u8 w A c x) (hl : x.length ≤ 281474976710656 / 4) (e0 : 0 < x.length) :
    ∃ g cap cs w', (Builtin.append_ #[77, 77] 77 #[.slice none 0 0, .slice A x.length c]).run Tryd.prog w = .ok (.slice (some ⟨g, 0, none⟩) x.length cap) w' ∧ Blk w' g cs 5 ∧ cs.take x.length = byt x ∧ x.length ≤ cap ∧ cap ≤ 9223372036854775807 ∧ Frm (fun _ => False) w w' ∧ w.heap.size ≤ g := by
  obtain ⟨i, hi, hzz⟩ := Option.map_eq_some_iff.1 u8_info
  simp only [Prod.mk.injEq] at hzz
  obtain ⟨hz, hs, hb⟩ := hzz
  obtain ⟨ad, rfl, hc⟩ := h.cellsrc e0
  obtain ⟨v', w', hr, hown, hg, hv⟩ := run_append_own (P := Tryd.prog) w w.heap.size 77 77 5 i (.int .u8 0) 1 1 Tryd.underlying77 hi hz hs hb rfl (by decide) (.slice none 0 0) 0 [] (World.ownsRow_nil _ _ _ _)
    ad x.length c (byt x) (by simp) hc (byt_one x) (by simp only [maxLen]; omega) (by omega) (Nat.le_refl _)
  have hf : Frm (fun _ => False) w w' := ⟨hg.os, hg.tape, hg.output, hg.size, fun k hk _ => hg.block k hk (by simp [Value.ownBlock])⟩
  rcases hown.2 with ⟨_, h0⟩ | ⟨g, cap, cur, rfl, hbg, hgg, hnc, hcm, hcs, htk⟩
  · omega
  · refine ⟨g, cap, cur.toList, w', ?_, ?_, ?_, by omega, by simpa only [maxLen] using hcm, hf, hbg⟩
    · rw [hr, Nat.zero_add]
    · unfold Blk; rw [hgg]
    · simpa using htk
theorem IsInts.of_take {w : World} {g : Nat} {x : List Int} {cs : List Value} {T cap : Nat} (h : Blk w g cs T) (ht : cs.take x.length = byt x) (hl : x.length ≤ cap) (hm : cap ≤ 9223372036854775807) (hw : ∀ n ∈ x, (Lit.int .u8 n).wf = true) : IsInts .u8 w (some ⟨g, 0, none⟩) cap x := by
  refine ⟨hl, hm, fun _ => ⟨g, 0, rfl, h.lt, fun i hi => ?_⟩, hw⟩
  have h1 : (cs.take x.length)[i]? = cs[i]? := by rw [List.getElem?_take, if_pos hi]
  rw [h.cell, Nat.zero_add, ← h1, ht, List.getElem?_map, List.getD_eq_getElem?_getD, List.getElem?_eq_getElem hi]
  rfl
theorem own_cell {x : List Int} {cs : List Value} (ht : cs.take x.length = byt x) {i : Nat} (hi : i < x.length) : cs[i]? = some (.int .u8 (x.getD i 0)) := by
  have h1 : (cs.take x.length)[i]? = cs[i]? := by rw [List.getElem?_take, if_pos hi]
  rw [← h1, ht, List.getElem?_map, List.getD_eq_getElem?_getD, List.getElem?_eq_getElem hi]
  rfl
theorem IsInts.of_set {w : World} {g : Nat} {x : List Int} {cs : List Value} {T cap : Nat} (h : Blk w g cs T) (ht : cs.take x.length = byt x) (hl : x.length ≤ cap) (hm : cap ≤ 9223372036854775807) (hw : ∀ n ∈ x, (Lit.int .u8 n).wf = true) (i : Nat) (v : Int) (hv : (Lit.int .u8 v).wf = true) :
    IsInts .u8 (w.setCell ⟨g, i, none⟩ (.int .u8 v)) (some ⟨g, 0, none⟩) cap (x.set i v) := by
  refine IsInts.of_take (h.setCell i (.int .u8 v)) ?_ (by rw [List.length_set]; exact hl) hm (fun n hn => ?_)
  · rw [List.length_set, List.take_set, ht]
    exact List.map_set.symm
  · rcases List.mem_or_eq_of_mem_set hn with h' | rfl
    · exact hw n h'
    · exact hv
theorem wpList_run {P : Program} {ops : Array Oper} {rest : List Oper} {o : Oper} {a : Act} {w : World} {Q : Exit → Act → World → Prop} (hgd : o.guard = none) (s x : Operand) (t tx : TypeId)
    (ho : o.op = .call { callee := .builtin .append, args := #[s, x], argTypes := #[t, tx] }) {v1 v2 v' : Value} {w' : World} (hs : a.eval s = v1) (hx : a.eval x = v2)
    (hr : (Builtin.append_ #[t, tx] o.type #[v1, v2]).run P w = .ok v' w') (h : wpList P ops Q rest (a.put o.dst v') w') : wpList P ops Q (o :: rest) a w :=
  wpList_plain hgd fun _ hK => by
    unfold Oper.wp execOp
    simp only [ho, resolve, invoke, builtin, Sem.run_bind, Sem.run_pure, Result.andThen_ok, List.map_toArray, List.map_cons, List.map_nil, hs, hx, hr]
    exact hK _ _ h
end Go.Proofs.YtipalebaaejfjaaDoor
