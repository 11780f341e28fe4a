/- Runs of votes appended at once. -/
import Derived.Test.YtipalebaaejfjaaDoorOwnE
namespace Go.Proofs.YtipalebaaejfjaaDoor
open Go.RowKit Go.ChangeShapes
set_option linter.unusedVariables false
set_option linter.unusedSimpArgs false
set_option maxRecDepth 20000
theorem vmsC_app (l rs : List Vm) : vmsC (l ++ rs) = vmsC l ++ vmsC rs := by unfold vmsC; rw [List.flatMap_append]
theorem vmsC_one (l : List Vm) : ∀ u ∈ vmsC l, u.oneCell' = true := by
  intro u hu
  obtain ⟨r, _, hr⟩ := List.mem_flatMap.1 hu
  simp [vmC] at hr
  rcases hr with rfl | rfl | rfl | rfl | rfl | rfl | rfl <;> rfl
/-- The cells of a run of votes. -/
def RunE (w : World) (g o : Nat) (rs : List Vm) : Prop := ∀ j r, rs[j]? = some r → ∀ i, i < 7 → w.cell? ⟨g, o + j * 7 + i, none⟩ = (vmC r)[i]?
theorem RunE.take {w : World} {g o : Nat} {rs : List Vm} (h : RunE w g o rs) (k : Nat) : RunE w g o (rs.take k) := fun j r hj i hi => h j r (by
  rw [List.getElem?_take] at hj
  split at hj
  · exact hj
  · cases hj) i hi
theorem RunE.drop {w : World} {g o : Nat} {rs : List Vm} (h : RunE w g o rs) (k : Nat) : RunE w g (o + k * 7) (rs.drop k) := fun j r hj i hi => by
  rw [List.getElem?_drop] at hj
  have := h (k + j) r hj i hi
  rw [show o + k * 7 + j * 7 + i = o + (k + j) * 7 + i by rw [Nat.add_mul]; omega]; exact this
theorem RunE.frm {w w' : World} {g o : Nat} {rs : List Vm} (h : RunE w g o rs) {S : Nat → Prop} (f : Frm S w w') (hg : g < w.heap.size) (hs : ¬ S g) : RunE w' g o rs := fun j r hj i hi => (f.cell (p := ⟨g, o + j * 7 + i, none⟩) hg hs).trans (h j r hj i hi)
theorem app_runE {w : World} {A : Nat → Prop} {v : Value} {l : List Vm} (rs : List Vm) (h : OwnE w A v l) (hA : ∀ k, A k → k < w.heap.size) {g o c n : Nat} (hr : RunE w g o rs) (hn : rs.length = n) (hl : l.length + n ≤ 100000) :
    ∃ v' w', (Builtin.append_ #[23, 23] 23 #[v, .slice (some ⟨g, o, none⟩) n c]).run Tryd.prog w = .ok v' w' ∧ OwnE w' A v' (l ++ rs) ∧ Frm (fun k => v.ownBlock = some k) w w' ∧ ∀ k, v'.ownBlock = some k → v.ownBlock = some k ∨ w.heap.size ≤ k := by
  subst hn
  obtain ⟨i, hi, hzz⟩ := Option.map_eq_some_iff.1 vmC_info
  simp only [Prod.mk.injEq] at hzz
  obtain ⟨hz, hs, hby⟩ := hzz
  obtain ⟨v', w', hr', hown, hg, hv, hat⟩ := run_append_own_at (P := Tryd.prog) w 0 23 23 TVm i _ 7 88 Tryd.underlying23 hi hz hs hby rfl (by decide) v l.length (vmsC l) h.own
    ⟨g, o, none⟩ rs.length c (vmsC rs) (vmsC_len rs) (fun j u hj => by
      have hlt : j < rs.length * 7 := by rw [← vmsC_len]; exact (List.getElem?_eq_some_iff.1 hj).1
      have hq : j / 7 < rs.length := by omega
      have hm : j % 7 < 7 := Nat.mod_lt _ (by decide)
      have e : j = j / 7 * 7 + j % 7 := by omega
      rw [e, vmsC_at rs (j / 7) _ (List.getElem?_eq_getElem hq) _ hm] at hj
      rw [addr_add, show o + j = o + j / 7 * 7 + j % 7 by omega, hr (j / 7) _ (List.getElem?_eq_getElem hq) _ hm, hj]) (vmsC_one rs) (by simp only [maxLen]; omega) (by omega) (Nat.zero_le _)
  have hw : ∀ k, v'.ownBlock = some k → v.ownBlock = some k ∨ w.heap.size ≤ k := fun k hk => by
    rcases hat with hat | hat
    · exact .inl (hat ▸ hk)
    · rw [hat] at hk; cases hk; exact .inr (Nat.le_refl _)
  refine ⟨v', w', hr', ⟨?_, fun k hk hak => ?_⟩, ⟨hg.os, hg.tape, hg.output, hg.size, fun k hk hn => hg.block k hk (fun e => hn e.symm)⟩, hw⟩
  · rw [List.length_append, vmsC_app]; exact hown
  · rcases hw k hk with h1 | h1
    · exact h.off k h1 hak
    · exact absurd (hA k hak) (by omega)
theorem wpList_runE {ops : Array Oper} {rest : List Oper} {o : Oper} {a : Act} {w : World} {Q : Exit → Act → World → Prop} {A : Nat → Prop} {v : Value} {l : List Vm} {g of c n : Nat} (rs : List Vm) (hgd : o.guard = none) (s x : Operand)
    (ho : o.op = .call { callee := .builtin .append, args := #[s, x], argTypes := #[23, 23] }) (ht : o.type = 23) (h : OwnE w A v l) (hA : ∀ k, A k → k < w.heap.size) (hr : RunE w g of rs) (hn : rs.length = n) (hl : l.length + n ≤ 100000)
    (hs : a.eval s = v) (hx : a.eval x = .slice (some ⟨g, of, none⟩) n c) (hK : ∀ v' w', OwnE w' A v' (l ++ rs) → Frm (fun k => v.ownBlock = some k) w w' → (∀ k, v'.ownBlock = some k → v.ownBlock = some k ∨ w.heap.size ≤ k) → wpList Tryd.prog ops Q rest (a.put o.dst v') w') :
    wpList Tryd.prog ops Q (o :: rest) a w := by
  obtain ⟨v', w', hr', h1, h2, h3⟩ := app_runE (c := c) rs h hA hr hn hl
  exact wpList_run hgd s x _ _ ho hs hx (ht ▸ hr') (hK v' w' h1 h2 h3)
end Go.Proofs.YtipalebaaejfjaaDoor
