/- Rows of votes with lists, of one's own. -/
import Derived.Test.YtipalebaaejfjaaDoorDcDef
import Derived.Test.YtipalebaaejfjaaDoorOwn
namespace Go.Proofs.YtipalebaaejfjaaDoor
open Go.RowKit Go.ChangeShapes
set_option maxRecDepth 20000
set_option linter.unusedVariables false
set_option linter.unusedSimpArgs false
abbrev TVm : Nat := 29
def vmsC (l : List Vm) : List Value := l.flatMap vmC
theorem vmsC_len (l : List Vm) : (vmsC l).length = l.length * 7 := by
  induction l with
  | nil => rfl
  | cons r l ih => show (vmC r ++ vmsC l).length = _; rw [List.length_append, ih, List.length_cons]; show 7 + _ = _; omega
theorem vmsC_at (l : List Vm) (j : Nat) (r : Vm) (hj : l[j]? = some r) (i : Nat) (hi : i < 7) : (vmsC l)[j * 7 + i]? = (vmC r)[i]? := by
  induction l generalizing j with
  | nil => simp at hj
  | cons a l ih =>
    cases j with
    | zero =>
      simp only [List.getElem?_cons_zero, Option.some.injEq] at hj
      subst hj
      show (vmC a ++ vmsC l)[0 * 7 + i]? = _
      rw [List.getElem?_append_left (by show 0 * 7 + i < 7; omega), show 0 * 7 + i = i by omega]
    | succ j =>
      rw [List.getElem?_cons_succ] at hj
      show (vmC a ++ vmsC l)[(j + 1) * 7 + i]? = _
      rw [List.getElem?_append_right (by show 7 ≤ (j + 1) * 7 + i; omega), show (j + 1) * 7 + i - (vmC a).length = j * 7 + i by show _ - 7 = _; omega]
      exact ih j hj
/-- v is a slice of requests, its block its own: nobody else's, none of A. -/
structure OwnE (w : World) (A : Nat → Prop) (v : Value) (l : List Vm) : Prop where
  own : w.ownsRow 0 TVm 7 v l.length (vmsC l)
  off : ∀ k, v.ownBlock = some k → ¬ A k
theorem OwnE.nil (w : World) (A : Nat → Prop) : OwnE w A (.slice none 0 0) [] := ⟨World.ownsRow_nil _ _ _ _, fun k h => by simp [Value.ownBlock] at h⟩
theorem OwnE.frm {S : Nat → Prop} {w w' : World} {A : Nat → Prop} {v : Value} {l : List Vm} (h : OwnE w A v l) (f : Frm S w w') (hs : ∀ k, v.ownBlock = some k → ¬ S k) : OwnE w' A v l := ⟨ownsRow_frm h.own f hs, h.off⟩
theorem OwnE.quiet {w w' : World} {A : Nat → Prop} {v : Value} {l : List Vm} (h : OwnE w A v l) (f : Frm (fun _ => False) w w') : OwnE w' A v l := h.frm f fun _ _ h => h
theorem OwnE.lt {w : World} {A : Nat → Prop} {v : Value} {l : List Vm} (h : OwnE w A v l) {k : Nat} (hk : v.ownBlock = some k) : k < w.heap.size := (h.own.lt k hk).2
/-- Another block, of another kind or none of its own. -/
theorem OwnE.not_blk {w : World} {A : Nat → Prop} {v : Value} {l : List Vm} (h : OwnE w A v l) {b T : Nat} {cs : List Value} (hb : Blk w b cs T) (hT : T ≠ TVm) {k : Nat} (hk : v.ownBlock = some k) : k ≠ b := by
  rintro rfl
  rcases h.own.2 with ⟨rfl, _⟩ | ⟨g, cap, cur, rfl, _, hgg, _⟩
  · simp [Value.ownBlock] at hk
  · simp [Value.ownBlock] at hk
    subst hk
    unfold Blk at hb
    rw [hgg] at hb
    injection hb with hb
    injection hb with _ h2
    exact hT h2.symm
theorem OwnE.slice {w : World} {A : Nat → Prop} {v : Value} {l : List Vm} (h : OwnE w A v l) : ∃ a c, v = .slice a l.length c := by
  rcases h.own.2 with ⟨rfl, h0⟩ | ⟨g, cap, cur, rfl, _⟩
  · exact ⟨none, 0, by rw [h0]⟩
  · exact ⟨_, _, rfl⟩
theorem OwnE.at_ {w : World} {A : Nat → Prop} {v : Value} {l : List Vm} (h : OwnE w A v l) (hl : 0 < l.length) : ∃ g c, v = .slice (some ⟨g, 0, none⟩) l.length c ∧ l.length ≤ c ∧ c ≤ 9223372036854775807 ∧ ∀ j r, l[j]? = some r → ∀ i, i < 7 → w.cell? ⟨g, j * 7 + i, none⟩ = (vmC r)[i]? := by
  rcases h.own.2 with ⟨rfl, h0⟩ | ⟨g, cap, cur, rfl, _, hgg, hc, hcm, _, _⟩
  · omega
  · refine ⟨g, cap, rfl, hc, by simpa only [maxLen] using hcm, fun j r hj i hi => ?_⟩
    have h1 := vmsC_at l j r hj i hi
    obtain ⟨u, hu⟩ : ∃ u, (vmC r)[i]? = some u := ⟨(vmC r)[i]'(by show i < 7; exact hi), List.getElem?_eq_getElem _⟩
    have := h.own.cells (g := g) rfl (j * 7 + i) u (by rw [h1, hu])
    rw [addr_add, Nat.zero_add] at this
    rw [this, hu]
theorem vmC_info : (Tryd.prog.info? TVm).map (fun i => (i.zero, i.size, i.bytes)) = some (some (.agg #[.int .u8 0, .int .u8 0, .int .u32 0, .int .u32 0, .slice none 0 0, .slice none 0 0, .slice none 0 0]), 7, 88) := by kernel_rfl
theorem app_moreE {w : World} {A : Nat → Prop} {v : Value} {l : List Vm} (r : Vm) (h : OwnE w A v l) (hA : ∀ k, A k → k < w.heap.size) {g : Nat} (hb : Blk w g (vmC r) TVm) (hl : l.length ≤ 100000) :
    ∃ v' w', (Builtin.append_ #[23, 23] 23 #[v, .slice (some ⟨g, 0, none⟩) 1 1]).run Tryd.prog w = .ok v' w' ∧ OwnE w' A v' (l ++ [r]) ∧ Frm (fun k => v.ownBlock = some k) w w' ∧ ∀ k, v'.ownBlock = some k → v.ownBlock = some k ∨ w.heap.size ≤ k := by
  obtain ⟨i, hi, hzz⟩ := Option.map_eq_some_iff.1 vmC_info
  simp only [Prod.mk.injEq] at hzz
  obtain ⟨hz, hs, hby⟩ := hzz
  obtain ⟨v', w', hr, hown, hg, hv, hat⟩ := run_append_own_at (P := Tryd.prog) w 0 23 23 TVm i _ 7 88 Tryd.underlying23 hi hz hs hby rfl (by decide) v l.length (vmsC l) h.own
    ⟨g, 0, none⟩ 1 1 (vmC r) rfl (fun j u hj => by rw [addr_add, Nat.zero_add, hb.cell, hj]) (by intro u hu; simp [vmC] at hu; rcases hu with rfl | rfl | rfl | rfl | rfl | rfl | rfl <;> rfl) (by simp only [maxLen]; omega) (by omega) (Nat.zero_le _)
  have hw : ∀ k, v'.ownBlock = some k → v.ownBlock = some k ∨ w.heap.size ≤ k := fun k hk => by
    rcases hat with hat | hat
    · exact .inl (hat ▸ hk)
    · rw [hat] at hk; cases hk; exact .inr (Nat.le_refl _)
  refine ⟨v', w', hr, ⟨?_, fun k hk hak => ?_⟩, ⟨hg.os, hg.tape, hg.output, hg.size, fun k hk hn => hg.block k hk (fun e => hn e.symm)⟩, hw⟩
  · have : vmsC (l ++ [r]) = vmsC l ++ vmC r := by unfold vmsC; rw [List.flatMap_append]; simp
    rw [List.length_append, this]; exact hown
  · rcases hw k hk with h1 | h1
    · exact h.off k h1 hak
    · exact absurd (hA k hak) (by omega)
theorem wpList_moreE {ops : Array Oper} {rest : List Oper} {o : Oper} {a : Act} {w : World} {Q : Exit → Act → World → Prop} {A : Nat → Prop} {v : Value} {l : List Vm} {g : Nat} (r : Vm) (hgd : o.guard = none) (s x : Operand)
    (ho : o.op = .call { callee := .builtin .append, args := #[s, x], argTypes := #[23, 23] }) (ht : o.type = 23) (h : OwnE w A v l) (hA : ∀ k, A k → k < w.heap.size) (hb : Blk w g (vmC r) TVm) (hl : l.length ≤ 100000)
    (hs : a.eval s = v) (hx : a.eval x = .slice (some ⟨g, 0, none⟩) 1 1) (hK : ∀ v' w', OwnE w' A v' (l ++ [r]) → Frm (fun k => v.ownBlock = some k) w w' → (∀ k, v'.ownBlock = some k → v.ownBlock = some k ∨ w.heap.size ≤ k) → wpList Tryd.prog ops Q rest (a.put o.dst v') w') :
    wpList Tryd.prog ops Q (o :: rest) a w := by
  obtain ⟨v', w', hr, h1, h2, h3⟩ := app_moreE r h hA hb hl
  exact wpList_run hgd s x _ _ ho hs hx (ht ▸ hr) (hK v' w' h1 h2 h3)
end Go.Proofs.YtipalebaaejfjaaDoor
