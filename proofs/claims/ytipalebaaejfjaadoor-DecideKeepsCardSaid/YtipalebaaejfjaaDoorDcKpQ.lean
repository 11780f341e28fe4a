/- What three replicas committed: lists of which one vote is left out. -/
import Derived.Test.YtipalebaaejfjaaDoorDcLies
import Derived.Test.YtipalebaaejfjaaDoorDcKpP
import Derived.Test.YtipalebaaejfjaaDoorOwnEs
namespace Go.Proofs.YtipalebaaejfjaaDoor
open Go.RowKit Go.ChangeShapes
set_option linter.unusedVariables false
set_option linter.unusedSimpArgs false
set_option maxRecDepth 100000
/-- An append of a run at the operation itself. -/
theorem wp_runE {o : Oper} {a : Act} {w : World} {K : Act → World → Prop} {Q : Exit → Act → World → Prop} {A : Nat → Prop} {v : Value} {l : List Vm} {g of c n : Nat} (rs : List Vm) (s x : Operand)
    (ho : o.op = .call { callee := .builtin .append, args := #[s, x], argTypes := #[23, 23] }) (ht : o.type = 23) (h : OwnE w A v l) (hA : ∀ k, A k → k < w.heap.size) (hr : RunE w g of rs) (hn : rs.length = n) (hl : l.length + n ≤ 100000)
    (hs : a.eval s = v) (hx : a.eval x = .slice (some ⟨g, of, none⟩) n c) (hK : ∀ v' w', OwnE w' A v' (l ++ rs) → Frm (fun k => v.ownBlock = some k) w w' → (∀ k, v'.ownBlock = some k → v.ownBlock = some k ∨ w.heap.size ≤ k) → K (a.put o.dst v') w') :
    o.wp Tryd.prog a w K Q := by
  obtain ⟨v', w', hr', h1, h2, h3⟩ := app_runE (c := c) rs h hA hr hn hl
  unfold Oper.wp execOp
  simp only [ho, resolve, invoke, builtin, Sem.run_bind, Sem.run_pure, Result.andThen_ok, List.map_toArray, List.map_cons, List.map_nil, hs, hx, ht, hr']
  exact hK v' w' h1 h2 h3
theorem IsRow.run {w : World} {g o cap : Nat} {l : List Vm} (h : IsRow 7 vmC w (some ⟨g, o, none⟩) cap l) : RunE w g o l := fun j r hj i hi => by
  obtain ⟨b, o', e, _, hc⟩ := h.at_ (by have := (List.getElem?_eq_some_iff.1 hj).1; omega)
  cases e
  exact hc j r hj i hi
theorem IsVos2.sub {w W : World} {a a' : Option Addr} {cap cap' : Nat} {l m : List Vm} (h : IsVos2 w a cap l) (f : Frm (fun _ => False) w W) (hm : ∀ x ∈ m, x ∈ l) (hr : IsRow 7 vmC W a' cap' m) : IsVos2 W a' cap' m :=
  ⟨hr, fun x hx => (h.ok x (hm x hx)).quiet f, fun x hx => h.bp x (hm x hx), fun x hx => h.bq x (hm x hx), fun x hx => h.bm x (hm x hx), h.tab.frm f⟩
theorem KeepI.sub {E : En} {k m : Int} {l l' : List Vm} (h : KeepI E k m l) (hs : List.Sublist l' l) : KeepI E k m l' := by
  have C : ∀ p : Vm → Bool, cnt p l' ≤ cnt p l := fun p => (hs.filter p).length_le
  exact ⟨fun v hv => h.hon v (hs.subset hv), fun v hv => h.mis v (hs.subset hv), Nat.le_trans (C _) h.one, Nat.le_trans (C _) h.two⟩
theorem cnt_f {l : List Vm} (hl : l.length = 4) (h : ∀ (i : Nat) (v : Vm), l[i]? = some v → v.f = (i : Int)) (k : Nat) : cnt (fun v => v.f == (k : Int)) l ≤ 1 := by
  match l, hl with
  | [a, b, c, d], _ =>
    have h0 : a.f = 0 := h 0 a rfl
    have h1 : b.f = 1 := h 1 b rfl
    have h2 : c.f = 2 := h 2 c rfl
    have h3 : d.f = 3 := h 3 d rfl
    simp only [cnt_cons, cnt_nil, h0, h1, h2, h3, beq_iff_eq]
    split <;> split <;> split <;> split <;> omega
/-- The i-th of the votes: the liar's bears X's lists. -/
structure KpI (E : En) (k m : Nat) (X : Vm) (i : Nat) (v : Vm) : Prop where
  hf : v.f = i
  hon : i ≠ k → i ≠ m → HonK E v
  mis : i ≠ k → i = m → MisK v
  lie : i = k → v.ms = X.ms ∧ v.p = X.p ∧ v.q = X.q
theorem kp_app {E : En} {k m : Nat} {X : Vm} {l : List Vm} {j : Nat} {r : Vm} (h : ∀ i vm, l[i]? = some vm → KpI E k m X i vm) (hl : l.length = j) (hr : KpI E k m X j r) : ∀ i vm, (l ++ [r])[i]? = some vm → KpI E k m X i vm := by
  intro i vm hi
  rcases Nat.lt_or_ge i l.length with h1 | h1
  · rw [List.getElem?_append_left h1] at hi; exact h i vm hi
  · rw [List.getElem?_append_right h1] at hi
    have h2 : i = j := by
      have := (List.getElem?_eq_some_iff.1 hi).1
      simp at this; omega
    subst h2
    rw [hl, Nat.sub_self] at hi
    simp at hi
    subst hi; exact hr
theorem kp_vos {E : En} {k m : Nat} {X : Vm} {l : List Vm} {w : World} {A : Nat → Prop} {a : Option Addr} {cap : Nat} (hE : EnB E) (hp : ∀ e ∈ X.p, EnB e) (hq : ∀ e ∈ X.q, EnB e) (hm : ∀ q ∈ X.ms, 0 ≤ q.1) (ht : Tab w) (hr : IsRow 7 vmC w a cap l) (hv : ∀ vm ∈ l, VmA w A vm) (h : ∀ i vm, l[i]? = some vm → KpI E k m X i vm) : IsVos2 w a cap l := by
  have H : ∀ vm ∈ l, (∀ e ∈ vm.p, EnB e) ∧ (∀ e ∈ vm.q, EnB e) ∧ ∀ q ∈ vm.ms, 0 ≤ q.1 := fun vm hvm => by
    obtain ⟨i, hi⟩ := List.getElem?_of_mem hvm
    have hL := h i vm hi
    by_cases e : i = k
    · obtain ⟨h1, h2, h3⟩ := hL.lie e
      rw [h1, h2, h3]; exact ⟨hp, hq, hm⟩
    · by_cases e2 : i = m
      · have hh := hL.mis e e2
        rw [hh.hp, hh.hq, hh.hms]
        exact ⟨fun e he => by simp at he, fun e he => by simp at he, fun m hm => by simp at hm; subst hm; decide⟩
      · have hh := hL.hon e e2
        rw [hh.hp, hh.hq, hh.hms]
        exact ⟨fun e he => by simp at he; subst he; exact hE, fun e he => by simp at he; subst he; exact hE, fun m hm => by simp at hm; subst hm; decide⟩
  exact ⟨hr, fun vm hvm => (hv vm hvm).ok, fun vm hvm e he => ((H vm hvm).1 e he).sv, fun vm hvm => (H vm hvm).2.1, fun vm hvm => (H vm hvm).2.2, ht⟩
theorem keep_of {E : En} {k m : Nat} {X : Vm} {l : List Vm} (hl : l.length = 4) (h : ∀ i vm, l[i]? = some vm → KpI E k m X i vm) : KeepI E k m l := by
  have H : ∀ v ∈ l, ∃ i : Nat, KpI E k m X i v := fun v hv => by
    obtain ⟨i, hi⟩ := List.getElem?_of_mem hv
    exact ⟨i, h i v hi⟩
  refine ⟨fun v hv h1 h2 => ?_, fun v hv h1 h2 => ?_, cnt_f hl (fun i v hi => (h i v hi).hf) k, cnt_f hl (fun i v hi => (h i v hi).hf) m⟩
  · obtain ⟨i, hi⟩ := H v hv
    have := hi.hf
    exact hi.hon (by omega) (by omega)
  · obtain ⟨i, hi⟩ := H v hv
    have := hi.hf
    exact hi.mis (by omega) (by omega)
theorem w64 {z : Int} (h0 : 0 ≤ z) (h1 : z < 1000000) : wrap64 z = z := by
  unfold wrap64
  rw [Int.emod_eq_of_lt (by omega) (by omega)]; omega
theorem neq_dm0 (w : World) (s r : Int) : (binOp .neq DMk (.agg #[.int .u32 s, .int .u64 r]) (.agg #[.int .u32 s, .int .u64 r])).run Tryd.prog w = .ok (.bool false) w := by
  go_simp
  repeat' split
  all_goals simp_all
theorem neq_re0 (w : World) (c t k y v : Int) : (binOp .neq TRe (.agg #[.int .u8 c, .int .u32 t, .int .u8 k, .int .u8 y, .int .u16 v]) (.agg #[.int .u8 c, .int .u32 t, .int .u8 k, .int .u8 y, .int .u16 v])).run Tryd.prog w = .ok (.bool false) w := by
  go_simp
  repeat' split
  all_goals simp_all
/-- All but the i-th. -/
def but (i : Nat) (l : List Vm) : List Vm := l.take i ++ l.drop (i + 1)
theorem but_sub (i : Nat) (l : List Vm) : List.Sublist (but i l) l := by
  have := List.eraseIdx_sublist l i
  rwa [List.eraseIdx_eq_take_drop_succ] at this
theorem but_len {i : Nat} {l : List Vm} (hl : l.length = 4) (hi : i < 4) : (but i l).length = 3 := by
  unfold but; rw [List.length_append, List.length_take, List.length_drop, hl]; omega
end Go.Proofs.YtipalebaaejfjaaDoor
