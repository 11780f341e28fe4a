/- Rows of bytes of one's own, to which more is appended. -/
import Derived.Test.YtipalebaaejfjaaDoorAppend
import Derived.OwnWalk
import Derived.Maps.AppendAt
namespace Go.Proofs.YtipalebaaejfjaaDoor
open Go.RowKit Go.ChangeShapes
set_option maxRecDepth 20000
theorem IsInts.frm {k : IntKind} {w w' : World} {A : Option Addr} {c : Nat} {x : List Int} {S : Nat → Prop} (h : IsInts k w A c x) (f : Frm S w w') (hs : ∀ p, A = some p → ¬ S p.block) : IsInts k w' A c x := by
  refine ⟨h.le, h.small, fun hn => ?_, h.wf⟩
  obtain ⟨g, off, rfl, hg, hc⟩ := h.at_ hn
  refine ⟨g, off, rfl, Nat.lt_of_lt_of_le hg f.size, fun i hi => ?_⟩
  exact (f.cell (p := ⟨g, off + i, none⟩) hg (hs (⟨g, off, none⟩ : Addr) rfl)).trans (hc i hi)
theorem IsInts.take {k : IntKind} {w : World} {A : Option Addr} {c : Nat} {x : List Int} (h : IsInts k w A c x) (n : Nat) : IsInts k w A c (x.take n) := by
  refine ⟨by rw [List.length_take]; have := h.le; omega, h.small, fun hn => ?_, fun m hm => h.wf m (List.mem_of_mem_take hm)⟩
  rw [List.length_take] at hn
  obtain ⟨g, off, rfl, hg, hc⟩ := h.at_ (by omega)
  refine ⟨g, off, rfl, hg, fun i hi => ?_⟩
  rw [List.length_take] at hi
  rw [hc i (by omega), List.getD_eq_getElem?_getD, List.getD_eq_getElem?_getD, List.getElem?_take, if_pos (by omega)]
abbrev TU8 : Nat := 5
/-- v is a slice of bytes, its block its own: nobody else's, none of A. -/
structure OwnB (w : World) (A : Nat → Prop) (v : Value) (x : List Int) : Prop where
  own : w.ownsRow 0 TU8 1 v x.length (byt x)
  off : ∀ k, v.ownBlock = some k → ¬ A k
  wf : ∀ n ∈ x, (Lit.int .u8 n).wf = true
theorem OwnB.nil (w : World) (A : Nat → Prop) : OwnB w A (.slice none 0 0) [] := ⟨World.ownsRow_nil _ _ _ _, fun k h => by simp [Value.ownBlock] at h, fun _ h => by cases h⟩
theorem ownsRow_frm {S : Nat → Prop} {w w' : World} {base : Nat} {e : TypeId} {size : Nat} {v : Value} {n : Nat} {xs : List Value} (h : w.ownsRow base e size v n xs) (f : Frm S w w') (hs : ∀ k, v.ownBlock = some k → ¬ S k) : w'.ownsRow base e size v n xs := by
  refine ⟨h.1, ?_⟩
  rcases h.2 with hn | ⟨g, cap, cur, rfl, hb, hgg, rest⟩
  · exact .inl hn
  · refine .inr ⟨g, cap, cur, rfl, hb, ?_, rest⟩
    rw [f.block g (Array.getElem?_eq_some_iff.1 hgg).1 (hs g (by simp [Value.ownBlock]))]
    exact hgg
theorem OwnB.frm {S : Nat → Prop} {w w' : World} {A : Nat → Prop} {v : Value} {x : List Int} (h : OwnB w A v x) (f : Frm S w w') (hs : ∀ k, v.ownBlock = some k → ¬ S k) : OwnB w' A v x :=
  ⟨ownsRow_frm h.own f hs, h.off, h.wf⟩
theorem OwnB.frm0 {w w' : World} {A : Nat → Prop} {v : Value} {x : List Int} (h : OwnB w A v x) (f : Frm (fun _ => False) w w') : OwnB w' A v x := h.frm f fun _ _ h => h
theorem OwnB.lt {w : World} {A : Nat → Prop} {v : Value} {x : List Int} (h : OwnB w A v x) {k : Nat} (hk : v.ownBlock = some k) : k < w.heap.size := (h.own.lt k hk).2
/-- It is a slice value of so many bytes. -/
theorem OwnB.ints {w : World} {A : Nat → Prop} {v : Value} {x : List Int} (h : OwnB w A v x) : ∃ a c, v = .slice a x.length c ∧ IsInts .u8 w a c x ∧ ∀ p, a = some p → v.ownBlock = some p.block := by
  rcases h.own.2 with ⟨rfl, h0⟩ | ⟨g, cap, cur, rfl, hbg, hgg, hnc, hcm, hcs, htk⟩
  · obtain rfl : x = [] := List.eq_nil_of_length_eq_zero h0
    exact ⟨none, 0, rfl, ⟨Nat.le_refl _, by omega, fun h => absurd rfl h, fun _ h => by cases h⟩, fun p hp => by cases hp⟩
  · have hb : Blk w g cur.toList TU8 := by unfold Blk; rw [hgg]
    exact ⟨some ⟨g, 0, none⟩, cap, rfl, IsInts.of_take hb (by simpa using htk) hnc (by simpa only [maxLen] using hcm) h.wf, fun p hp => by cases hp; rfl⟩
theorem app_more {w : World} {A : Nat → Prop} {v : Value} {x y : List Int} {a : Option Addr} {c : Nat} (h : OwnB w A v x) (hA : ∀ k, A k → k < w.heap.size) (hy : IsInts .u8 w a c y) (hl : x.length + y.length ≤ 140737488355328) :
    ∃ v' w', (Builtin.append_ #[77, 77] 77 #[v, .slice a y.length c]).run Tryd.prog w = .ok v' w' ∧ OwnB w' A v' (x ++ y) ∧ Frm (fun k => v.ownBlock = some k) w w' ∧ ∀ k, v'.ownBlock = some k → v.ownBlock = some k ∨ w.heap.size ≤ k := by
  obtain ⟨i, hi, hzz⟩ := Option.map_eq_some_iff.1 u8_info
  simp only [Prod.mk.injEq] at hzz
  obtain ⟨hz, hs, hb⟩ := hzz
  have hwf : ∀ n ∈ x ++ y, (Lit.int .u8 n).wf = true := fun n hn => by
    rcases List.mem_append.1 hn with hn | hn
    · exact h.wf n hn
    · exact hy.wf n hn
  rcases Nat.eq_zero_or_pos y.length with e0 | e0
  · obtain rfl : y = [] := List.eq_nil_of_length_eq_zero e0
    refine ⟨v, w, ?_, by rw [List.append_nil]; exact h, Frm.refl _ _, fun k hk => .inl hk⟩
    obtain ⟨av, cv, rfl, hx, _⟩ := h.ints
    cases a with
    | none => exact run_append_nothing (P := Tryd.prog) w 77 77 77 5 i Tryd.underlying77 hi av x.length cv hx.le _ (Src.ofNil w Tryd.underlying77 c)
    | some p => exact run_append_nothing (P := Tryd.prog) w 77 77 77 5 i Tryd.underlying77 hi av x.length cv hx.le _ (Src.ofSlice w Tryd.underlying77 p 0 c [] (by simp) (by simp) (by simp))
  · obtain ⟨ad, rfl, hc⟩ := hy.cellsrc e0
    obtain ⟨v', w', hr, hown, hg, hv, hat⟩ := run_append_own_at (P := Tryd.prog) w 0 77 77 5 i (.int .u8 0) 1 1 Tryd.underlying77 hi hz hs hb rfl (by decide) v x.length (byt x) h.own
      ad y.length c (byt y) (by simp) hc (byt_one y) (by simp only [maxLen]; omega) (by omega) (Nat.zero_le _)
    have hap : byt x ++ byt y = byt (x ++ y) := List.map_append.symm
    have hw : ∀ k, v'.ownBlock = some k → v.ownBlock = some k ∨ w.heap.size ≤ k := fun k hk => by
      rcases hat with hat | hat
      · exact .inl (hat ▸ hk)
      · rw [hat] at hk; cases hk; exact .inr (Nat.le_refl _)
    refine ⟨v', w', hr, ⟨?_, fun k hk hak => ?_, hwf⟩, ⟨hg.os, hg.tape, hg.output, hg.size, fun k hk hn => hg.block k hk (fun e => hn e.symm)⟩, hw⟩
    · rw [List.length_append, ← hap]; exact hown
    · rcases hw k hk with h1 | h1
      · exact h.off k h1 hak
      · exact absurd (hA k hak) (by omega)
theorem one_ints (w : World) (d : Int) (T : Nat) (hd : (Lit.int .u8 d).wf = true) : IsInts .u8 (w.alloc (.cells #[.int .u8 d] T)) (some ⟨w.heap.size, 0, none⟩) 1 [d] :=
  IsInts.of_take (x := [d]) (cap := 1) (Blk.new w [.int .u8 d] T) rfl (Nat.le_refl _) (by decide) (fun n hn => by rw [List.mem_singleton.1 hn]; exact hd)
/-- append of bytes onto a row of one's own, as a step of a region that draws. -/
theorem step_more {ops : Array Oper} {o : Oper} {a : Act} {w : World} {K : Act → World → Prop} {Q : Exit → Act → World → Prop} {E : Prop} {A : Nat → Prop} {v : Value} {xs y : List Int} {ad : Option Addr} {c m : Nat} (hgd : o.guard = none) (s x : Operand)
    (ho : o.op = .call { callee := .builtin .append, args := #[s, x], argTypes := #[77, 77] }) (ht : o.type = 77) (h : OwnB w A v xs) (hA : ∀ k, A k → k < w.heap.size) (hy : IsInts .u8 w ad c y) (hm : y.length = m) (hl : xs.length + m ≤ 140737488355328)
    (hs : a.eval s = v) (hx : a.eval x = .slice ad m c) (hK : ∀ a' l' c' w', OwnB w' A (.slice a' l' c') (xs ++ y) → Frm (fun k => v.ownBlock = some k) w w' → (∀ k, (Value.slice a' l' c').ownBlock = some k → v.ownBlock = some k ∨ w.heap.size ≤ k) → K (a.put o.dst (.slice a' l' c')) w') :
    if Region.wanted o (yielded ops a.tmps) = true then Oper.wp Tryd.prog o a w K Q else E := by
  subst hm
  obtain ⟨v', w', hr, h1, h2, h3⟩ := app_more h hA hy hl
  obtain ⟨a', c', rfl, _, _⟩ := h1.ints
  exact step_run hgd s x _ _ ho hs hx (ht ▸ hr) (hK a' _ c' w' h1 h2 h3)
/-- The same in a plain region. -/
theorem wpList_more {ops : Array Oper} {rest : List Oper} {o : Oper} {a : Act} {w : World} {Q : Exit → Act → World → Prop} {A : Nat → Prop} {v : Value} {xs y : List Int} {ad : Option Addr} {c m : Nat} (hgd : o.guard = none) (s x : Operand)
    (ho : o.op = .call { callee := .builtin .append, args := #[s, x], argTypes := #[77, 77] }) (ht : o.type = 77) (h : OwnB w A v xs) (hA : ∀ k, A k → k < w.heap.size) (hy : IsInts .u8 w ad c y) (hm : y.length = m) (hl : xs.length + m ≤ 140737488355328)
    (hs : a.eval s = v) (hx : a.eval x = .slice ad m c) (hK : ∀ a' l' c' w', OwnB w' A (.slice a' l' c') (xs ++ y) → Frm (fun k => v.ownBlock = some k) w w' → (∀ k, (Value.slice a' l' c').ownBlock = some k → v.ownBlock = some k ∨ w.heap.size ≤ k) → wpList Tryd.prog ops Q rest (a.put o.dst (.slice a' l' c')) w') :
    wpList Tryd.prog ops Q (o :: rest) a w := by
  subst hm
  obtain ⟨v', w', hr, h1, h2, h3⟩ := app_more h hA hy hl
  obtain ⟨a', c', rfl, _, _⟩ := h1.ints
  exact wpList_run hgd s x _ _ ho hs hx (ht ▸ hr) (hK a' _ c' w' h1 h2 h3)
end Go.Proofs.YtipalebaaejfjaaDoor
