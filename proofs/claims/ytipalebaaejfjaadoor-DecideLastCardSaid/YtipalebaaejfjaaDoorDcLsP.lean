/- Of two requests prepared at one place the younger one is picked, plain. -/
import Derived.Test.YtipalebaaejfjaaDoorDcPick
namespace Go.Proofs.YtipalebaaejfjaaDoor
open Go.RowKit Go.ChangeShapes
set_option linter.unusedVariables false
set_option linter.unusedSimpArgs false
set_option maxRecDepth 100000
/-- The i-th vote: two tell that x is prepared, the third one y; those of S saw y. -/
structure LstV (x y : En) (vw : Int) (S : Nat → Bool) (i : Nat) (v : Vm) : Prop where
  hf : v.f = i
  he : v.e = 1
  hv : v.v = vw
  hl : v.l = 0
  hms : v.ms = [(0, 3)]
  hp : v.p = [if i = 2 then y else x]
  hq : v.q = if S i = true then [y] else []
def nS (S : Nat → Bool) : Nat → Nat
  | 0 => 0
  | j + 1 => nS S j + (if S j = true then 1 else 0)
theorem last_plain {x y : En} {vw : Int} {S : Nat → Bool} {l : List Vm} (hl : l.length = 3) (h : ∀ i v, l[i]? = some v → LstV x y vw S i v) (hx : x.s = 1) (hy : y.s = 1) (hv : x.v < y.v) (hr : reE x y = false) :
    pickR l 1 = (if 2 ≤ nS S 3 then ⟨true, 2, y⟩ else ⟨false, 0, en0⟩) ∧ emptyR l 1 = false := by
  match l, hl with
  | [a, b, c], _ =>
    have ha := h 0 a rfl; have hb := h 1 b rfl; have hc := h 2 c rfl
    have hap : a.p = [x] := ha.hp
    have hbp : b.p = [x] := hb.hp
    have hcp : c.p = [y] := hc.hp
    have hyx : reE y x = false := by
      rw [Bool.eq_false_iff] at hr ⊢
      intro h; apply hr
      simp only [reE, Bool.and_eq_true, beq_iff_eq] at h ⊢
      obtain ⟨h1, h2, h3, h4, h5⟩ := h
      exact ⟨h1.symm, h2.symm, h3.symm, h4.symm, h5.symm⟩
    have eyx : enE y x = false := by rw [enE, hyx]; simp
    have exx : enE x x = true := by simp [enE, reE]
    have eyy : enE y y = true := by simp [enE, reE]
    have cxy : clash x y = true := by rw [clash, eyx, hx, hy, decide_eq_true (by omega : x.v ≤ y.v)]; rfl
    have cyx : clash y x = false := by rw [clash, decide_eq_false (by omega : ¬ y.v ≤ x.v)]; simp
    have cyy : clash y y = false := by rw [clash, eyy]; simp
    have syy : sawE y y = true := by simp [sawE, reE]
    have A1 : alwB c x = false := by simp [alwB, hcp, cxy]
    have A2 : alwB a y = true := by simp [alwB, hap, cyx, ha.hl, hy]
    have A3 : alwB b y = true := by simp [alwB, hbp, cyx, hb.hl, hy]
    have A4 : alwB c y = true := by simp [alwB, hcp, cyy, hc.hl, hy]
    have N1 : ¬ 3 ≤ alwC [a, b, c] x := by
      have : (List.filter (fun v => alwB v x) [a, b, c]).length ≤ 2 := by
        simp only [List.filter_cons, A1, List.filter_nil]
        split <;> split <;> simp
      unfold alwC cnt; omega
    have N2 : 3 ≤ alwC [a, b, c] y := by simp [alwC, cnt, A2, A3, A4]
    have Q : ∀ i v, LstV x y vw S i v → v.q.any (sawE y) = S i := fun i v hv => by
      rw [hv.hq]; cases S i <;> simp [syy]
    have N3 : sawC [a, b, c] y = nS S 3 := by
      simp only [sawC, cnt, List.filter_cons, List.filter_nil, Q _ _ ha, Q _ _ hb, Q _ _ hc, nS]
      cases S 0 <;> cases S 1 <;> cases S 2 <;> rfl
    have K1 : ∀ f A, pickM [a, b, c] 1 f A x = A := fun f A => by
      rw [pickM, pickT, decide_eq_false N1]; simp
    refine ⟨?_, ?_⟩
    · show pickV _ 1 (pickV _ 1 (pickV _ 1 ⟨false, 0, en0⟩ a) b) c = _
      simp only [pickV, hap, hbp, hcp, List.foldl_cons, List.foldl_nil, K1]
      rw [pickM, pickT, decide_eq_true N2, N3, hy, hc.hf]
      by_cases h2 : 2 ≤ nS S 3
      · simp [h2]
      · simp [h2]
    · have E : ∀ v : Vm, ∀ e : En, v.p = [e] → e.s = 1 → empB 1 v = false := fun v e hp he => by simp [empB, hp, he]
      simp [emptyR, cnt, E a x hap hx, E b x hbp hx, E c y hcp hy]
end Go.Proofs.YtipalebaaejfjaaDoor
