/- More than one request appended at once. -/
import Derived.Test.YtljfbaakgjmmfaaOwnR
namespace Go.Proofs.Ytljfbaakgjmmfaa
open Go.RowKit Go.ChangeShapes
set_option maxRecDepth 20000
set_option linter.unusedVariables false
theorem rqsC_app (l rs : List Rq) : rqsC (l ++ rs) = rqsC l ++ rqsC rs := by unfold rqsC; rw [List.flatMap_append]
theorem rqsC_one (l : List Rq) : ∀ u ∈ rqsC l, u.oneCell' = true := by
  intro u hu
  obtain ⟨r, _, hr⟩ := List.mem_flatMap.1 hu
  simp [rqC] at hr
  rcases hr with rfl | rfl | rfl | rfl | rfl <;> rfl
theorem app_moreRs {w : World} {A : Nat → Prop} {v : Value} {l : List Rq} (rs : List Rq) (h : OwnR w A v l) (hA : ∀ k, A k → k < w.heap.size) {g : Nat} (hb : Blk w g (rqsC rs) TRq) (h0 : 0 < rs.length) (hl : l.length + rs.length ≤ 100000) :
    ∃ v' w', (Builtin.append_ #[24, 24] 24 #[v, .slice (some ⟨g, 0, none⟩) rs.length rs.length]).run Try.prog w = .ok v' w' ∧ OwnR w' A v' (l ++ rs) ∧ Frm (fun k => v.ownBlock = some k) w w' ∧ ∀ k, v'.ownBlock = some k → v.ownBlock = some k ∨ w.heap.size ≤ k := by
  obtain ⟨i, hi, hzz⟩ := Option.map_eq_some_iff.1 rq_info
  simp only [Prod.mk.injEq] at hzz
  obtain ⟨hz, hs, hby⟩ := hzz
  obtain ⟨v', w', hr, hown, hg, hv, hat⟩ := run_append_own_at (P := Try.prog) w 0 24 24 TRq i _ 5 12 Try.underlying24 hi hz hs hby rfl (by decide) v l.length (rqsC l) h.own
    ⟨g, 0, none⟩ rs.length rs.length (rqsC rs) (rqsC_len rs) (fun j u hj => by rw [addr_add, Nat.zero_add, hb.cell, hj]) (rqsC_one rs) (by simp only [maxLen]; omega) (by omega) (Nat.zero_le _)
  have hw : ∀ k, v'.ownBlock = some k → v.ownBlock = some k ∨ w.heap.size ≤ k := fun k hk => by
    rcases hat with hat | hat
    · exact .inl (hat ▸ hk)
    · rw [hat] at hk; cases hk; exact .inr (Nat.le_refl _)
  refine ⟨v', w', hr, ⟨?_, fun k hk hak => ?_⟩, ⟨hg.os, hg.tape, hg.output, hg.size, fun k hk hn => hg.block k hk (fun e => hn e.symm)⟩, hw⟩
  · rw [List.length_append, rqsC_app]; exact hown
  · rcases hw k hk with h1 | h1
    · exact h.off k h1 hak
    · exact absurd (hA k hak) (by omega)
theorem wpList_moreRs {ops : Array Oper} {rest : List Oper} {o : Oper} {a : Act} {w : World} {Q : Exit → Act → World → Prop} {A : Nat → Prop} {v : Value} {l : List Rq} {g : Nat} (rs : List Rq) (n : Nat) (hn : rs.length = n) (hgd : o.guard = none) (s x : Operand)
    (ho : o.op = .call { callee := .builtin .append, args := #[s, x], argTypes := #[24, 24] }) (ht : o.type = 24) (h : OwnR w A v l) (hA : ∀ k, A k → k < w.heap.size) (hb : Blk w g (rqsC rs) TRq) (h0 : 0 < n) (hl : l.length + n ≤ 100000)
    (hs : a.eval s = v) (hx : a.eval x = .slice (some ⟨g, 0, none⟩) n n) (hK : ∀ v' w', OwnR w' A v' (l ++ rs) → Frm (fun k => v.ownBlock = some k) w w' → (∀ k, v'.ownBlock = some k → v.ownBlock = some k ∨ w.heap.size ≤ k) → wpList Try.prog ops Q rest (a.put o.dst v') w') :
    wpList Try.prog ops Q (o :: rest) a w := by
  subst hn
  obtain ⟨v', w', hr, h1, h2, h3⟩ := app_moreRs rs h hA hb h0 hl
  exact wpList_run hgd s x _ _ ho hs hx (ht ▸ hr) (hK v' w' h1 h2 h3)
end Go.Proofs.Ytljfbaakgjmmfaa
