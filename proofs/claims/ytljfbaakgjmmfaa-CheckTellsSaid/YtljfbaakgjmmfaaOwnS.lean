/- Rows of slices, of one's own. -/
import Derived.Test.YtljfbaakgjmmfaaChkKnown
namespace Go.Proofs.Ytljfbaakgjmmfaa
open Go.RowKit Go.ChangeShapes
set_option maxRecDepth 20000
set_option linter.unusedVariables false
set_option linter.unusedSimpArgs false
structure Sl3 where
  a : Option Addr
  n : Nat
  c : Nat
def slC (s : Sl3) : List Value := [.slice s.a s.n s.c]
def slsC (l : List Sl3) : List Value := l.flatMap slC
theorem slsC_len (l : List Sl3) : (slsC l).length = l.length * 1 := by
  induction l with
  | nil => rfl
  | cons r l ih => show (slC r ++ slsC l).length = _; rw [List.length_append, ih, List.length_cons]; show 1 + _ = _; omega
theorem slsC_at (l : List Sl3) (j : Nat) (r : Sl3) (hj : l[j]? = some r) (i : Nat) (hi : i < 1) : (slsC l)[j * 1 + i]? = (slC r)[i]? := by
  induction l generalizing j with
  | nil => simp at hj
  | cons a l ih =>
    cases j with
    | zero =>
      simp only [List.getElem?_cons_zero, Option.some.injEq] at hj
      subst hj
      show (slC a ++ slsC l)[0 * 1 + i]? = _
      rw [List.getElem?_append_left (by show 0 * 1 + i < 1; omega), show 0 * 1 + i = i by omega]
    | succ j =>
      rw [List.getElem?_cons_succ] at hj
      show (slC a ++ slsC l)[(j + 1) * 1 + i]? = _
      rw [List.getElem?_append_right (by show 1 ≤ (j + 1) * 1 + i; omega), show (j + 1) * 1 + i - (slC a).length = j * 1 + i by show _ - 1 = _; omega]
      exact ih j hj
/-- v is a slice of requests, its block its own: nobody else's, none of A. -/
structure OwnS (w : World) (A : Nat → Prop) (v : Value) (l : List Sl3) : Prop where
  own : w.ownsRow 0 34 1 v l.length (slsC l)
  off : ∀ k, v.ownBlock = some k → ¬ A k
theorem OwnS.nil (w : World) (A : Nat → Prop) : OwnS w A (.slice none 0 0) [] := ⟨World.ownsRow_nil _ _ _ _, fun k h => by simp [Value.ownBlock] at h⟩
theorem OwnS.frm {S : Nat → Prop} {w w' : World} {A : Nat → Prop} {v : Value} {l : List Sl3} (h : OwnS w A v l) (f : Frm S w w') (hs : ∀ k, v.ownBlock = some k → ¬ S k) : OwnS w' A v l := ⟨ownsRow_frm h.own f hs, h.off⟩
theorem OwnS.quiet {w w' : World} {A : Nat → Prop} {v : Value} {l : List Sl3} (h : OwnS w A v l) (f : Frm (fun _ => False) w w') : OwnS w' A v l := h.frm f fun _ _ h => h
theorem OwnS.lt {w : World} {A : Nat → Prop} {v : Value} {l : List Sl3} (h : OwnS w A v l) {k : Nat} (hk : v.ownBlock = some k) : k < w.heap.size := (h.own.lt k hk).2
/-- Another block, of another kind or none of its own. -/
theorem OwnS.not_blk {w : World} {A : Nat → Prop} {v : Value} {l : List Sl3} (h : OwnS w A v l) {b T : Nat} {cs : List Value} (hb : Blk w b cs T) (hT : T ≠ 34) {k : Nat} (hk : v.ownBlock = some k) : k ≠ b := by
  rintro rfl
  rcases h.own.2 with ⟨rfl, _⟩ | ⟨g, cap, cur, rfl, _, hgg, _⟩
  · simp [Value.ownBlock] at hk
  · simp [Value.ownBlock] at hk
    subst hk
    unfold Blk at hb
    rw [hgg] at hb
    injection hb with hb
    injection hb with _ h2
    exact hT h2.symm
theorem OwnS.slice {w : World} {A : Nat → Prop} {v : Value} {l : List Sl3} (h : OwnS w A v l) : ∃ a c, v = .slice a l.length c := by
  rcases h.own.2 with ⟨rfl, h0⟩ | ⟨g, cap, cur, rfl, _⟩
  · exact ⟨none, 0, by rw [h0]⟩
  · exact ⟨_, _, rfl⟩
theorem OwnS.at_ {w : World} {A : Nat → Prop} {v : Value} {l : List Sl3} (h : OwnS w A v l) (hl : 0 < l.length) : ∃ g c, v = .slice (some ⟨g, 0, none⟩) l.length c ∧ l.length ≤ c ∧ c ≤ 9223372036854775807 ∧ ∀ j r, l[j]? = some r → ∀ i, i < 1 → w.cell? ⟨g, j * 1 + i, none⟩ = (slC r)[i]? := by
  rcases h.own.2 with ⟨rfl, h0⟩ | ⟨g, cap, cur, rfl, _, hgg, hc, hcm, _, _⟩
  · omega
  · refine ⟨g, cap, rfl, hc, by simpa only [maxLen] using hcm, fun j r hj i hi => ?_⟩
    have h1 := slsC_at l j r hj i hi
    obtain ⟨u, hu⟩ : ∃ u, (slC r)[i]? = some u := ⟨(slC r)[i]'(by show i < 1; exact hi), List.getElem?_eq_getElem _⟩
    have := h.own.cells (g := g) rfl (j * 1 + i) u (by rw [h1, hu])
    rw [addr_add, Nat.zero_add] at this
    rw [this, hu]
theorem slC_info : (Try.prog.info? 34).map (fun i => (i.zero, i.size, i.bytes)) = some (some (.slice none 0 0), 1, 24) := by kernel_rfl
theorem app_moreS {w : World} {A : Nat → Prop} {v : Value} {l : List Sl3} (r : Sl3) (h : OwnS w A v l) (hA : ∀ k, A k → k < w.heap.size) {g : Nat} (hb : Blk w g (slC r) 34) (hl : l.length ≤ 100000) :
    ∃ v' w', (Builtin.append_ #[33, 33] 33 #[v, .slice (some ⟨g, 0, none⟩) 1 1]).run Try.prog w = .ok v' w' ∧ OwnS w' A v' (l ++ [r]) ∧ Frm (fun k => v.ownBlock = some k) w w' ∧ ∀ k, v'.ownBlock = some k → v.ownBlock = some k ∨ w.heap.size ≤ k := by
  obtain ⟨i, hi, hzz⟩ := Option.map_eq_some_iff.1 slC_info
  simp only [Prod.mk.injEq] at hzz
  obtain ⟨hz, hs, hby⟩ := hzz
  obtain ⟨v', w', hr, hown, hg, hv, hat⟩ := run_append_own_at (P := Try.prog) w 0 33 33 34 i _ 1 24 Try.underlying33 hi hz hs hby rfl (by decide) v l.length (slsC l) h.own
    ⟨g, 0, none⟩ 1 1 (slC r) rfl (fun j u hj => by rw [addr_add, Nat.zero_add, hb.cell, hj]) (by intro u hu; simp [slC] at hu; subst hu; rfl) (by simp only [maxLen]; omega) (by omega) (Nat.zero_le _)
  have hw : ∀ k, v'.ownBlock = some k → v.ownBlock = some k ∨ w.heap.size ≤ k := fun k hk => by
    rcases hat with hat | hat
    · exact .inl (hat ▸ hk)
    · rw [hat] at hk; cases hk; exact .inr (Nat.le_refl _)
  refine ⟨v', w', hr, ⟨?_, fun k hk hak => ?_⟩, ⟨hg.os, hg.tape, hg.output, hg.size, fun k hk hn => hg.block k hk (fun e => hn e.symm)⟩, hw⟩
  · have : slsC (l ++ [r]) = slsC l ++ slC r := by unfold slsC; rw [List.flatMap_append]; simp
    rw [List.length_append, this]; exact hown
  · rcases hw k hk with h1 | h1
    · exact h.off k h1 hak
    · exact absurd (hA k hak) (by omega)
theorem wpList_moreS {ops : Array Oper} {rest : List Oper} {o : Oper} {a : Act} {w : World} {Q : Exit → Act → World → Prop} {A : Nat → Prop} {v : Value} {l : List Sl3} {g : Nat} (r : Sl3) (hgd : o.guard = none) (s x : Operand)
    (ho : o.op = .call { callee := .builtin .append, args := #[s, x], argTypes := #[33, 33] }) (ht : o.type = 33) (h : OwnS w A v l) (hA : ∀ k, A k → k < w.heap.size) (hb : Blk w g (slC r) 34) (hl : l.length ≤ 100000)
    (hs : a.eval s = v) (hx : a.eval x = .slice (some ⟨g, 0, none⟩) 1 1) (hK : ∀ v' w', OwnS w' A v' (l ++ [r]) → Frm (fun k => v.ownBlock = some k) w w' → (∀ k, v'.ownBlock = some k → v.ownBlock = some k ∨ w.heap.size ≤ k) → wpList Try.prog ops Q rest (a.put o.dst v') w') :
    wpList Try.prog ops Q (o :: rest) a w := by
  obtain ⟨v', w', hr, h1, h2, h3⟩ := app_moreS r h hA hb hl
  exact wpList_run hgd s x _ _ ho hs hx (ht ▸ hr) (hK v' w' h1 h2 h3)
end Go.Proofs.Ytljfbaakgjmmfaa
