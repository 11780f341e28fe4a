/- Votes of one's own, some with lists that were handed in. -/
import Derived.Test.YtipalebaaejfjaaDoorDcVmT
namespace Go.Proofs.YtipalebaaejfjaaDoor
open Go.RowKit Go.ChangeShapes
set_option linter.unusedVariables false
set_option linter.unusedSimpArgs false
set_option maxRecDepth 100000
theorem IsRow.appN {α : Type} {n : Nat} {C : α → List Value} {w w' : World} {a : Option Addr} {cap : Nat} {l : List α} (h : IsRow n C w a cap l) {S : Nat → Prop} (f : Frm S w w') (hs : l ≠ [] → ∀ b o i, a = some ⟨b, o, i⟩ → ¬ S b) : IsRow n C w' a cap l := by
  by_cases hne : l = []
  · exact ⟨h.le, h.small, fun hn => absurd (by rw [hne]; rfl) hn⟩
  · exact h.app f (hs hne)
/-- Such rows lie in no block of votes. -/
def OffA (w : World) (A : Nat → Prop) (a : Option Addr) : Prop := ∀ b o i, a = some ⟨b, o, i⟩ → b < w.heap.size ∧ (A b ∨ ∃ cs T fr, w.heap[b]? = some (.cells cs T fr) ∧ T ≠ TVm)
theorem OffA.none (w : World) (A : Nat → Prop) : OffA w A none := fun _ _ _ h => by cases h
theorem OffA.old {w : World} {A : Nat → Prop} {a : Option Addr} (h : ∀ b o i, a = some ⟨b, o, i⟩ → b < w.heap.size ∧ A b) : OffA w A a := fun b o i e => ⟨(h b o i e).1, .inl (h b o i e).2⟩
theorem OffA.blk {w : World} {A : Nat → Prop} {b T : Nat} {cs : List Value} (h : Blk w b cs T) (hT : T ≠ TVm) : OffA w A (some ⟨b, 0, Option.none⟩) := fun b' o i e => by
  cases e
  have hl := h.lt
  unfold Blk at h
  exact ⟨hl, .inr ⟨_, _, _, h, hT⟩⟩
theorem OffA.quiet {w w' : World} {A : Nat → Prop} {a : Option Addr} (h : OffA w A a) (f : Frm (fun _ => False) w w') : OffA w' A a := fun b o i e => by
  obtain ⟨hb, hA | ⟨cs, T, fr, hh, hT⟩⟩ := h b o i e
  · exact ⟨Nat.lt_of_lt_of_le hb f.size, .inl hA⟩
  · exact ⟨Nat.lt_of_lt_of_le hb f.size, .inr ⟨cs, T, fr, (f.block b hb (fun h => h)).trans hh, hT⟩⟩
theorem OffA.own {w : World} {A : Nat → Prop} {a : Option Addr} (h : OffA w A a) {v : Value} {l : List Vm} (hO : OwnE w A v l) {b o : Nat} {i : Option Nat} (e : a = some ⟨b, o, i⟩) : ¬ v.ownBlock = some b := fun hk => by
  obtain ⟨hb, hA | ⟨cs, T, fr, hh, hT⟩⟩ := h b o i e
  · exact hO.off _ hk hA
  rcases hO.own.2 with ⟨rfl, _⟩ | ⟨g, cap, cur, rfl, _, hgg, _⟩
  · simp [Value.ownBlock] at hk
  · simp [Value.ownBlock] at hk
    subst hk
    rw [hh] at hgg
    injection hgg with hgg
    injection hgg with _ h2
    exact hT h2
theorem OffA.app {w w' : World} {A : Nat → Prop} {a : Option Addr} (h : OffA w A a) {v : Value} {l : List Vm} (hO : OwnE w A v l) (f : Frm (fun k => v.ownBlock = some k) w w') : OffA w' A a := fun b o i e => by
  have hn := h.own hO e
  obtain ⟨hb, hA | ⟨cs, T, fr, hh, hT⟩⟩ := h b o i e
  · exact ⟨Nat.lt_of_lt_of_le hb f.size, .inl hA⟩
  · exact ⟨Nat.lt_of_lt_of_le hb f.size, .inr ⟨cs, T, fr, (f.block b hb hn).trans hh, hT⟩⟩
/-- A vote whose lists lie there, none of them in a block of votes. -/
structure VmA (w : World) (A : Nat → Prop) (x : Vm) : Prop where
  ok : VmOk w x
  ma : x.ms ≠ [] → OffA w A x.ma
  pa : x.p ≠ [] → OffA w A x.pa
  qa : x.q ≠ [] → OffA w A x.qa
theorem VmA.quiet {w w' : World} {A : Nat → Prop} {x : Vm} (h : VmA w A x) (f : Frm (fun _ => False) w w') : VmA w' A x := ⟨h.ok.quiet f, fun n => (h.ma n).quiet f, fun n => (h.pa n).quiet f, fun n => (h.qa n).quiet f⟩
theorem VmA.app {w w' : World} {A : Nat → Prop} {x : Vm} (h : VmA w A x) {v : Value} {l : List Vm} (hO : OwnE w A v l) (f : Frm (fun k => v.ownBlock = some k) w w') : VmA w' A x :=
  ⟨⟨h.ok.ms.appN f (fun n _ _ _ e => (h.ma n).own hO e), h.ok.p.appN f (fun n _ _ _ e => (h.pa n).own hO e), h.ok.q.appN f (fun n _ _ _ e => (h.qa n).own hO e)⟩, fun n => (h.ma n).app hO f, fun n => (h.pa n).app hO f, fun n => (h.qa n).app hO f⟩
theorem OffA.row {α : Type} {n : Nat} {C : α → List Value} {w : World} {A : Nat → Prop} {a : Option Addr} {cap : Nat} {l : List α} (h : IsRow n C w a cap l) (hne : l ≠ []) (hA : ∀ q, q < w.heap.size → A q) : OffA w A a := OffA.old fun b o i e => by
  obtain ⟨b', o', e', hb, _⟩ := h.at_ (fun hl => hne (List.eq_nil_of_length_eq_zero hl))
  rw [e] at e'; cases e'
  exact ⟨hb, hA _ hb⟩
theorem vma_app {wr wx w6 : World} {A : Nat → Prop} {v : Value} {l : List Vm} {r : Vm} (hf : Frm (fun k => v.ownBlock = some k) wx w6) (hO : OwnE wr A v l) (h : ∀ vm ∈ l, VmA wr A vm) (f : Frm (fun _ => False) wr wx) (hr : VmA wx A r) : ∀ vm ∈ l ++ [r], VmA w6 A vm := by
  intro vm hm
  rw [List.mem_append] at hm
  rcases hm with hm | hm
  · exact ((h vm hm).quiet f).app (hO.quiet f) hf
  · simp at hm; subst hm; exact hr.app (hO.quiet f) hf
end Go.Proofs.YtipalebaaejfjaaDoor
