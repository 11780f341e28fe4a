/- Votes of one's own, appended one by one. -/
import Derived.Test.YtipalebaaejfjaaDoorDcKnP
import Derived.Test.YtipalebaaejfjaaDoorOwnE
namespace Go.Proofs.YtipalebaaejfjaaDoor
open Go.RowKit Go.ChangeShapes
set_option linter.unusedVariables false
set_option linter.unusedSimpArgs false
set_option maxRecDepth 100000
/-- Such rows lie in no block of votes. -/
def OffT (w : World) (a : Option Addr) : Prop := ∀ b o i, a = some ⟨b, o, i⟩ → b < w.heap.size ∧ ∃ cs T fr, w.heap[b]? = some (.cells cs T fr) ∧ T ≠ TVm
theorem OffT.none (w : World) : OffT w none := fun _ _ _ h => by cases h
theorem OffT.blk {w : World} {b T : Nat} {cs : List Value} (h : Blk w b cs T) (hT : T ≠ TVm) : OffT w (some ⟨b, 0, Option.none⟩) := fun b' o i e => by
  cases e
  have hl := h.lt
  unfold Blk at h
  exact ⟨hl, _, _, _, h, hT⟩
theorem OffT.quiet {w w' : World} {a : Option Addr} (h : OffT w a) (f : Frm (fun _ => False) w w') : OffT w' a := fun b o i e => by
  obtain ⟨hb, cs, T, fr, hh, hT⟩ := h b o i e
  exact ⟨Nat.lt_of_lt_of_le hb f.size, cs, T, fr, (f.block b hb (fun h => h)).trans hh, hT⟩
theorem OffT.own {w : World} {a : Option Addr} (h : OffT w a) {A : Nat → Prop} {v : Value} {l : List Vm} (hO : OwnE w A v l) {b o : Nat} {i : Option Nat} (e : a = some ⟨b, o, i⟩) : ¬ v.ownBlock = some b := fun hk => by
  obtain ⟨hb, cs, T, fr, hh, hT⟩ := h b o i e
  rcases hO.own.2 with ⟨rfl, _⟩ | ⟨g, cap, cur, rfl, _, hgg, _⟩
  · simp [Value.ownBlock] at hk
  · simp [Value.ownBlock] at hk
    subst hk
    rw [hh] at hgg
    injection hgg with hgg
    injection hgg with _ h2
    exact hT h2
theorem OffT.app {w w' : World} {a : Option Addr} (h : OffT w a) {A : Nat → Prop} {v : Value} {l : List Vm} (hO : OwnE w A v l) (f : Frm (fun k => v.ownBlock = some k) w w') : OffT w' a := fun b o i e => by
  have hn := h.own hO e
  obtain ⟨hb, cs, T, fr, hh, hT⟩ := h b o i e
  exact ⟨Nat.lt_of_lt_of_le hb f.size, cs, T, fr, (f.block b hb hn).trans hh, hT⟩
theorem IsRow.app {α : Type} {n : Nat} {C : α → List Value} {w w' : World} {a : Option Addr} {cap : Nat} {l : List α} (h : IsRow n C w a cap l) {S : Nat → Prop} (f : Frm S w w') (hs : ∀ b o i, a = some ⟨b, o, i⟩ → ¬ S b) : IsRow n C w' a cap l :=
  ⟨h.le, h.small, fun hn => by
    obtain ⟨b, o, e, hb, hc⟩ := h.at_ hn
    exact ⟨b, o, e, Nat.lt_of_lt_of_le hb f.size, fun j r hj i hi => (f.cell (p := ⟨b, o + j * n + i, none⟩) hb (hs _ _ _ e)).trans (hc j r hj i hi)⟩⟩
/-- A vote whose lists lie there, none of them in a block of votes. -/
structure VmT (w : World) (x : Vm) : Prop where
  ok : VmOk w x
  ma : OffT w x.ma
  pa : OffT w x.pa
  qa : OffT w x.qa
theorem VmT.quiet {w w' : World} {x : Vm} (h : VmT w x) (f : Frm (fun _ => False) w w') : VmT w' x := ⟨h.ok.quiet f, h.ma.quiet f, h.pa.quiet f, h.qa.quiet f⟩
theorem VmT.app {w w' : World} {x : Vm} (h : VmT w x) {A : Nat → Prop} {v : Value} {l : List Vm} (hO : OwnE w A v l) (f : Frm (fun k => v.ownBlock = some k) w w') : VmT w' x :=
  ⟨⟨h.ok.ms.app f (fun _ _ _ e => h.ma.own hO e), h.ok.p.app f (fun _ _ _ e => h.pa.own hO e), h.ok.q.app f (fun _ _ _ e => h.qa.own hO e)⟩, h.ma.app hO f, h.pa.app hO f, h.qa.app hO f⟩
theorem OwnE.row {w : World} {A : Nat → Prop} {v : Value} {l : List Vm} (h : OwnE w A v l) (hl : 0 < l.length) : ∃ g c, v = .slice (some ⟨g, 0, none⟩) l.length c ∧ ¬ A g ∧ l.length ≤ c ∧ c ≤ 9223372036854775807 ∧ IsRow 7 vmC w (some ⟨g, 0, none⟩) c l := by
  obtain ⟨g, c, hv, hle, hm, hc⟩ := h.at_ hl
  have hb : v.ownBlock = some g := by rw [hv]; rfl
  exact ⟨g, c, hv, h.off g hb, hle, hm, hle, hm, fun _ => ⟨g, 0, rfl, h.lt hb, fun j r hj i hi => by rw [Nat.zero_add]; exact hc j r hj i hi⟩⟩
theorem row_one {α : Type} {C : α → List Value} {n : Nat} (hC : ∀ x, (C x).length = n) {w : World} {b T : Nat} {x : α} (h : Blk w b (C x) T) : IsRow n C w (some ⟨b, 0, none⟩) 1 [x] :=
  IsRow.of_blk hC (l := [x]) (by simpa using h) (by show 1 ≤ _; decide)
end Go.Proofs.YtipalebaaejfjaaDoor
