/- Votes as arguments. -/
import Derived.Test.YtipalebaaejfjaaDoorRq
import Derived.Test.YtipalebaaejfjaaDoorDcVts2
namespace Go.Proofs.YtipalebaaejfjaaDoor
open Go.RowKit Go.ChangeShapes
set_option linter.unusedVariables false
set_option linter.unusedSimpArgs false
set_option maxRecDepth 100000
theorem IsRow.of_slk {t : TypeId} {α β : Type} {c : Cod Tryd.prog t α} {C : β → List Value} {f : α → β} {n : Nat} (hn : Tryd.prog.cellsOf t = n) (hC : ∀ y, (C y).length = n) {w : World} {a : Option Addr} {cap : Nat} {xs : List α} (h : SlK c w a cap xs) (hK : ∀ x cs, c.K w x cs → cs = C (f x)) : IsRow n C w a cap (xs.map f) :=
  ⟨by rw [List.length_map]; exact h.le, h.small, fun hne => by
    obtain ⟨b, o, e, hb, hc⟩ := h.at_ (by rwa [List.length_map] at hne)
    refine ⟨b, o, e, hb, fun j r hj i hi => ?_⟩
    rw [List.getElem?_map] at hj
    cases hx : xs[j]? with
    | none => rw [hx] at hj; cases hj
    | some x =>
      rw [hx] at hj
      simp only [Option.map_some, Option.some.injEq] at hj
      subst hj
      obtain ⟨cs, hk, hcell⟩ := hc j x hx
      have he := hK x cs hk
      subst he
      obtain ⟨v, hv⟩ : ∃ v, (C (f x))[i]? = some v := ⟨_, List.getElem?_eq_getElem (by rw [hC]; exact hi)⟩
      have := hcell i v hv
      rw [hn] at this
      rw [this, hv]⟩
theorem IsRow.mem {t : TypeId} {α : Type} {c : Cod Tryd.prog t α} {w : World} {a : Option Addr} {cap : Nat} {xs : List α} (h : SlK c w a cap xs) {x : α} (hx : x ∈ xs) : ∃ cs, c.K w x cs := by
  obtain ⟨i, hi⟩ := List.getElem?_of_mem hx
  obtain ⟨b, o, e, hb, hc⟩ := h.at_ (by have := (List.getElem?_eq_some_iff.1 hi).1; omega)
  obtain ⟨cs, hk, _⟩ := hc i x hi
  exact ⟨cs, hk⟩
abbrev RqX : Type := Int × Int × (Int × Int × Int × Unit) × Unit
abbrev EnX : Type := Int × Int × RqX × Unit
abbrev MkX : Type := Int × Int × Unit
def toEn (x : EnX) : En := ⟨x.1, x.2.1, x.2.2.1.1, x.2.2.1.2.1, x.2.2.1.2.2.1.1, x.2.2.1.2.2.1.2.1, x.2.2.1.2.2.1.2.2.1⟩
def toMk (x : MkX) : Mk := (x.1, x.2.1)
theorem rq_is {w : World} {x : RqX} {cs : List Value} (h : c39.K w x cs) : cs = [.int .u8 x.1, .int .u32 x.2.1, .int .u8 x.2.2.1.1, .int .u8 x.2.2.1.2.1, .int .u16 x.2.2.1.2.2.1] ∧ TxB x.1 ∧ TxB x.2.1 ∧ TxB x.2.2.1.1 ∧ TxB x.2.2.1.2.1 ∧ TxB x.2.2.1.2.2.1 := by
  obtain ⟨hl, h0, b0, h1, b1, h2⟩ := k39 h
  obtain ⟨_, g0, d0, g1, d1, g2, d2⟩ := k37 h2
  rw [List.getElem?_take, if_pos (by decide), List.getElem?_drop] at g0 g1 g2
  have e0 := bnd8 b0; have e1 := bnd32 b1; have e2 := bnd8 d0; have e3 := bnd8 d1; have e4 := bnd16 d2
  exact ⟨list5 hl h0 h1 g0 g1 g2, ⟨e0.1, by omega⟩, ⟨e1.1, by omega⟩, ⟨e2.1, by omega⟩, ⟨e3.1, by omega⟩, ⟨e4.1, by omega⟩⟩
theorem en_is {w : World} {x : EnX} {cs : List Value} (h : c53.K w x cs) : cs = enC (toEn x) ∧ EnB (toEn x) := by
  obtain ⟨hl, h0, b0, h1, b1, h2⟩ := k53 h
  obtain ⟨hr, r0, r1, r2, r3, r4⟩ := rq_is h2
  refine ⟨?_, ⟨⟨(bnd32 b0).1, (bnd32 b1).1⟩, r0, r1, r2, r3, r4⟩⟩
  match cs, hl with
  | [a0, a1, a2, a3, a4, a5, a6], _ =>
    simp only [List.getElem?_cons_zero, List.getElem?_cons_succ, Option.some.injEq] at h0 h1
    have e : [a2, a3, a4, a5, a6] = _ := hr
    show a0 :: a1 :: [a2, a3, a4, a5, a6] = _
    rw [e, h0, h1]; rfl
theorem mk_is {w : World} {x : MkX} {cs : List Value} (h : c32.K w x cs) : cs = mkC (toMk x) ∧ 0 ≤ (toMk x).1 := by
  obtain ⟨hl, h0, b0, h1, b1⟩ := k32 h
  refine ⟨?_, (bnd32 b0).1⟩
  match cs, hl with
  | [a0, a1], _ =>
    simp only [List.getElem?_cons_zero, List.getElem?_cons_succ, Option.some.injEq] at h0 h1
    rw [h0, h1]; rfl
theorem cells_en : Tryd.prog.cellsOf 53 = 7 := by kernel_rfl
theorem cells_mk : Tryd.prog.cellsOf 32 = 2 := by kernel_rfl
theorem cells_vt : Tryd.prog.cellsOf 29 = 7 := by kernel_rfl
abbrev VtX : Type := Int × Int × Int × Int × List MkX × List EnX × List EnX × Unit
/-- A vote that was handed in: its lists lie there, what stands in them are numbers of their types. -/
structure VmIn (w : World) (x : VtX) (v : Vm) : Prop where
  hf : v.f = x.1 ∧ 0 ≤ v.f ∧ v.f ≤ 255
  hv : 0 ≤ v.v ∧ v.v ≤ 4294967295
  hl : 0 ≤ v.l ∧ v.l ≤ 4294967295
  hms : v.ms = x.2.2.2.2.1.map toMk
  hp : v.p = x.2.2.2.2.2.1.map toEn
  hq : v.q = x.2.2.2.2.2.2.1.map toEn
  ok : VmOk w v
  bp : ∀ e ∈ v.p, EnB e
  bq : ∀ e ∈ v.q, EnB e
  bm : ∀ m ∈ v.ms, 0 ≤ m.1
theorem vt_is {w : World} {x : VtX} {cs : List Value} (h : c29.K w x cs) : ∃ v, cs = vmC v ∧ VmIn w x v := by
  obtain ⟨hl, h0, b0, h1, b1, h2, b2, h3, b3, ⟨a4, n4, h4, s4⟩, ⟨a5, n5, h5, s5⟩, ⟨a6, n6, h6, s6⟩⟩ := k29 h
  refine ⟨⟨x.1, x.2.1, x.2.2.1, x.2.2.2.1, a4, n4, x.2.2.2.2.1.map toMk, a5, n5, x.2.2.2.2.2.1.map toEn, a6, n6, x.2.2.2.2.2.2.1.map toEn⟩, ?_, ?_⟩
  · match cs, hl with
    | [z0, z1, z2, z3, z4, z5, z6], _ =>
      simp only [List.getElem?_cons_zero, List.getElem?_cons_succ, Option.some.injEq] at h0 h1 h2 h3 h4 h5 h6
      subst h0 h1 h2 h3 h4 h5 h6
      simp only [vmC, List.length_map]
  · refine ⟨⟨rfl, bnd8 b0⟩, bnd32 b2, bnd32 b3, rfl, rfl, rfl, ⟨IsRow.of_slk cells_mk (fun _ => rfl) s4 (fun y cs hk => (mk_is hk).1), IsRow.of_slk cells_en (fun _ => rfl) s5 (fun y cs hk => (en_is hk).1), IsRow.of_slk cells_en (fun _ => rfl) s6 (fun y cs hk => (en_is hk).1)⟩, fun e he => ?_, fun e he => ?_, fun m hm => ?_⟩
    · obtain ⟨y, hy, rfl⟩ := List.mem_map.1 he
      obtain ⟨cs, hk⟩ := IsRow.mem s5 hy
      exact (en_is hk).2
    · obtain ⟨y, hy, rfl⟩ := List.mem_map.1 he
      obtain ⟨cs, hk⟩ := IsRow.mem s6 hy
      exact (en_is hk).2
    · obtain ⟨y, hy, rfl⟩ := List.mem_map.1 hm
      obtain ⟨cs, hk⟩ := IsRow.mem s4 hy
      exact (mk_is hk).2
/-- Votes that were handed in. -/
theorem vos_of {w : World} {a : Option Addr} {cap : Nat} {xs : List VtX} (h : SlK c29 w a cap xs) (ht : Tab w) : ∃ l : List Vm, l.length = xs.length ∧ IsVos2 w a cap l ∧ ∀ (i : Nat) x, xs[i]? = some x → ∃ v, l[i]? = some v ∧ VmIn w x v := by
  by_cases hn : xs.length = 0
  · have hx : xs = [] := List.eq_nil_of_length_eq_zero hn
    subst hx
    exact ⟨[], rfl, ⟨⟨Nat.zero_le _, h.small, fun h => absurd rfl h⟩, fun x hx => by simp at hx, fun x hx => by simp at hx, fun x hx => by simp at hx, fun x hx => by simp at hx, ht⟩, fun i x hi => by simp at hi⟩
  · obtain ⟨b, o, e, hb, hc⟩ := h.at_ hn
    obtain ⟨l, hl, hv⟩ := choice_list xs.length (fun i (v : Vm) => ∃ x, xs[i]? = some x ∧ VmIn w x v ∧ ∀ j u, (vmC v)[j]? = some u → w.cell? ⟨b, o + i * 7 + j, none⟩ = some u) (fun i hi => by
      obtain ⟨cs, hk, hcell⟩ := hc i xs[i] (List.getElem?_eq_getElem hi)
      obtain ⟨v, hcs, hvi⟩ := vt_is hk
      subst hcs
      exact ⟨v, _, List.getElem?_eq_getElem hi, hvi, fun j u hj => by have := hcell j u hj; rwa [cells_vt] at this⟩)
    have hm : ∀ v ∈ l, ∃ x, VmIn w x v := fun v hvm => by
      obtain ⟨i, hi⟩ := List.getElem?_of_mem hvm
      obtain ⟨x, _, h1, _⟩ := hv i v hi
      exact ⟨x, h1⟩
    refine ⟨l, hl, ⟨⟨by rw [hl]; exact h.le, h.small, fun _ => ⟨b, o, e, hb, fun j r hj i hi => ?_⟩⟩, fun v hv => ?_, fun v hv e he => ?_, fun v hv => ?_, fun v hv => ?_, ht⟩, fun i x hi => ?_⟩
    · obtain ⟨x, _, _, h2⟩ := hv j r hj
      obtain ⟨u, hu⟩ : ∃ u, (vmC r)[i]? = some u := ⟨_, List.getElem?_eq_getElem (by show i < 7; exact hi)⟩
      rw [h2 i u hu, hu]
    · obtain ⟨x, h1⟩ := hm v hv; exact h1.ok
    · obtain ⟨x, h1⟩ := hm v hv; exact (h1.bp e he).sv
    · obtain ⟨x, h1⟩ := hm v hv; exact h1.bq
    · obtain ⟨x, h1⟩ := hm v hv; exact h1.bm
    · have hil : i < l.length := by rw [hl]; exact (List.getElem?_eq_some_iff.1 hi).1
      obtain ⟨y, hy, h1, _⟩ := hv i l[i] (List.getElem?_eq_getElem hil)
      rw [hi] at hy; obtain rfl := Option.some.inj hy
      exact ⟨_, List.getElem?_eq_getElem hil, h1⟩
end Go.Proofs.YtipalebaaejfjaaDoor
