/- Rows of what was done, of one's own. -/
import Derived.Test.YtljfbaakgjmmfaaChkKnown
namespace Go.Proofs.Ytljfbaakgjmmfaa
open Go.RowKit Go.ChangeShapes
set_option maxRecDepth 20000
set_option linter.unusedVariables false
set_option linter.unusedSimpArgs false
def dnsC (l : List Dn) : List Value := l.flatMap dnC
theorem dnsC_len (l : List Dn) : (dnsC l).length = l.length * 7 := by
  induction l with
  | nil => rfl
  | cons r l ih => show (dnC r ++ dnsC l).length = _; rw [List.length_append, ih, List.length_cons]; show 7 + _ = _; omega
theorem dnsC_at (l : List Dn) (j : Nat) (r : Dn) (hj : l[j]? = some r) (i : Nat) (hi : i < 7) : (dnsC l)[j * 7 + i]? = (dnC r)[i]? := by
  induction l generalizing j with
  | nil => simp at hj
  | cons a l ih =>
    cases j with
    | zero =>
      simp only [List.getElem?_cons_zero, Option.some.injEq] at hj
      subst hj
      show (dnC a ++ dnsC l)[0 * 7 + i]? = _
      rw [List.getElem?_append_left (by show 0 * 7 + i < 7; omega), show 0 * 7 + i = i by omega]
    | succ j =>
      rw [List.getElem?_cons_succ] at hj
      show (dnC a ++ dnsC l)[(j + 1) * 7 + i]? = _
      rw [List.getElem?_append_right (by show 7 ≤ (j + 1) * 7 + i; omega), show (j + 1) * 7 + i - (dnC a).length = j * 7 + i by show _ - 7 = _; omega]
      exact ih j hj
/-- v is a slice of requests, its block its own: nobody else's, none of A. -/
structure OwnD (w : World) (A : Nat → Prop) (v : Value) (l : List Dn) : Prop where
  own : w.ownsRow 0 TDn 7 v l.length (dnsC l)
  off : ∀ k, v.ownBlock = some k → ¬ A k
theorem OwnD.nil (w : World) (A : Nat → Prop) : OwnD w A (.slice none 0 0) [] := ⟨World.ownsRow_nil _ _ _ _, fun k h => by simp [Value.ownBlock] at h⟩
theorem OwnD.frm {S : Nat → Prop} {w w' : World} {A : Nat → Prop} {v : Value} {l : List Dn} (h : OwnD w A v l) (f : Frm S w w') (hs : ∀ k, v.ownBlock = some k → ¬ S k) : OwnD w' A v l := ⟨ownsRow_frm h.own f hs, h.off⟩
theorem OwnD.quiet {w w' : World} {A : Nat → Prop} {v : Value} {l : List Dn} (h : OwnD w A v l) (f : Frm (fun _ => False) w w') : OwnD w' A v l := h.frm f fun _ _ h => h
theorem OwnD.lt {w : World} {A : Nat → Prop} {v : Value} {l : List Dn} (h : OwnD w A v l) {k : Nat} (hk : v.ownBlock = some k) : k < w.heap.size := (h.own.lt k hk).2
/-- Another block, of another kind or none of its own. -/
theorem OwnD.not_blk {w : World} {A : Nat → Prop} {v : Value} {l : List Dn} (h : OwnD w A v l) {b T : Nat} {cs : List Value} (hb : Blk w b cs T) (hT : T ≠ TDn) {k : Nat} (hk : v.ownBlock = some k) : k ≠ b := by
  rintro rfl
  rcases h.own.2 with ⟨rfl, _⟩ | ⟨g, cap, cur, rfl, _, hgg, _⟩
  · simp [Value.ownBlock] at hk
  · simp [Value.ownBlock] at hk
    subst hk
    unfold Blk at hb
    rw [hgg] at hb
    injection hb with hb
    injection hb with _ h2
    exact hT h2.symm
theorem OwnD.slice {w : World} {A : Nat → Prop} {v : Value} {l : List Dn} (h : OwnD w A v l) : ∃ a c, v = .slice a l.length c := by
  rcases h.own.2 with ⟨rfl, h0⟩ | ⟨g, cap, cur, rfl, _⟩
  · exact ⟨none, 0, by rw [h0]⟩
  · exact ⟨_, _, rfl⟩
theorem OwnD.at_ {w : World} {A : Nat → Prop} {v : Value} {l : List Dn} (h : OwnD w A v l) (hl : 0 < l.length) : ∃ g c, v = .slice (some ⟨g, 0, none⟩) l.length c ∧ l.length ≤ c ∧ c ≤ 9223372036854775807 ∧ ∀ j r, l[j]? = some r → ∀ i, i < 7 → w.cell? ⟨g, j * 7 + i, none⟩ = (dnC r)[i]? := by
  rcases h.own.2 with ⟨rfl, h0⟩ | ⟨g, cap, cur, rfl, _, hgg, hc, hcm, _, _⟩
  · omega
  · refine ⟨g, cap, rfl, hc, by simpa only [maxLen] using hcm, fun j r hj i hi => ?_⟩
    have h1 := dnsC_at l j r hj i hi
    obtain ⟨u, hu⟩ : ∃ u, (dnC r)[i]? = some u := ⟨(dnC r)[i]'(by show i < 7; exact hi), List.getElem?_eq_getElem _⟩
    have := h.own.cells (g := g) rfl (j * 7 + i) u (by rw [h1, hu])
    rw [addr_add, Nat.zero_add] at this
    rw [this, hu]
theorem dnC_info : (Try.prog.info? TDn).map (fun i => (i.zero, i.size, i.bytes)) = some (some (.agg #[.int .u32 0, .int .u8 0, .int .u32 0, .int .u8 0, .int .u8 0, .int .u16 0, .int .u32 0]), 7, 20) := by kernel_rfl
theorem app_moreD {w : World} {A : Nat → Prop} {v : Value} {l : List Dn} (r : Dn) (h : OwnD w A v l) (hA : ∀ k, A k → k < w.heap.size) {g : Nat} (hb : Blk w g (dnC r) TDn) (hl : l.length ≤ 100000) :
    ∃ v' w', (Builtin.append_ #[34, 34] 34 #[v, .slice (some ⟨g, 0, none⟩) 1 1]).run Try.prog w = .ok v' w' ∧ OwnD w' A v' (l ++ [r]) ∧ Frm (fun k => v.ownBlock = some k) w w' ∧ ∀ k, v'.ownBlock = some k → v.ownBlock = some k ∨ w.heap.size ≤ k := by
  obtain ⟨i, hi, hzz⟩ := Option.map_eq_some_iff.1 dnC_info
  simp only [Prod.mk.injEq] at hzz
  obtain ⟨hz, hs, hby⟩ := hzz
  obtain ⟨v', w', hr, hown, hg, hv, hat⟩ := run_append_own_at (P := Try.prog) w 0 34 34 TDn i _ 7 20 Try.underlying34 hi hz hs hby rfl (by decide) v l.length (dnsC l) h.own
    ⟨g, 0, none⟩ 1 1 (dnC r) rfl (fun j u hj => by rw [addr_add, Nat.zero_add, hb.cell, hj]) (by intro u hu; simp [dnC] at hu; rcases hu with rfl | rfl | rfl | rfl | rfl | rfl | rfl <;> rfl) (by simp only [maxLen]; omega) (by omega) (Nat.zero_le _)
  have hw : ∀ k, v'.ownBlock = some k → v.ownBlock = some k ∨ w.heap.size ≤ k := fun k hk => by
    rcases hat with hat | hat
    · exact .inl (hat ▸ hk)
    · rw [hat] at hk; cases hk; exact .inr (Nat.le_refl _)
  refine ⟨v', w', hr, ⟨?_, fun k hk hak => ?_⟩, ⟨hg.os, hg.tape, hg.output, hg.size, fun k hk hn => hg.block k hk (fun e => hn e.symm)⟩, hw⟩
  · have : dnsC (l ++ [r]) = dnsC l ++ dnC r := by unfold dnsC; rw [List.flatMap_append]; simp
    rw [List.length_append, this]; exact hown
  · rcases hw k hk with h1 | h1
    · exact h.off k h1 hak
    · exact absurd (hA k hak) (by omega)
theorem wpList_moreD {ops : Array Oper} {rest : List Oper} {o : Oper} {a : Act} {w : World} {Q : Exit → Act → World → Prop} {A : Nat → Prop} {v : Value} {l : List Dn} {g : Nat} (r : Dn) (hgd : o.guard = none) (s x : Operand)
    (ho : o.op = .call { callee := .builtin .append, args := #[s, x], argTypes := #[34, 34] }) (ht : o.type = 34) (h : OwnD w A v l) (hA : ∀ k, A k → k < w.heap.size) (hb : Blk w g (dnC r) TDn) (hl : l.length ≤ 100000)
    (hs : a.eval s = v) (hx : a.eval x = .slice (some ⟨g, 0, none⟩) 1 1) (hK : ∀ v' w', OwnD w' A v' (l ++ [r]) → Frm (fun k => v.ownBlock = some k) w w' → (∀ k, v'.ownBlock = some k → v.ownBlock = some k ∨ w.heap.size ≤ k) → wpList Try.prog ops Q rest (a.put o.dst v') w') :
    wpList Try.prog ops Q (o :: rest) a w := by
  obtain ⟨v', w', hr, h1, h2, h3⟩ := app_moreD r h hA hb hl
  exact wpList_run hgd s x _ _ ho hs hx (ht ▸ hr) (hK v' w' h1 h2 h3)
end Go.Proofs.Ytljfbaakgjmmfaa
