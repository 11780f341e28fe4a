/- How arguments lie in memory, type by type: whole numbers, bools, structs, arrays, slices. -/
import Derived.Test.YtipalebaaejfjaaDoorArgs
import Derived.OpenShut
import Derived.Deep.Slices
namespace Go.Proofs.YtipalebaaejfjaaDoor
open Go.RowKit Go.ChangeShapes Go.WideShapes Go.Deep

/-- How a value of type t is read off its cells. -/
structure Cod (P : Program) (t : TypeId) (α : Type) where
  K : World → α → List Value → Prop
  sound : ∀ {H : Type} {enc : TypeId × Value → H} {w : World} {base : Nat} {spare : Nat → Bool} {held : Bool} {fuel : Nat} {cs : List Value} {y : DataW H × List MemPlace},
    DataW.trod enc P w base spare held fuel t cs = some y → ∃ x, K w x cs
  len : ∀ {w : World} {x : α} {cs : List Value}, K w x cs → cs.length = P.cellsOf t
  below : ∀ {w w' : World} {B : Nat} {x : α} {cs : List Value}, Below B w w' → w.heap.size ≤ B → K w x cs → K w' x cs

def codInt {P : Program} {t : TypeId} {k : IntKind} (hu : P.underlying t = some (.int k)) (hc : P.cellsOf t = 1) : Cod P t Int where
  K _ n cs := cs = [.int k n] ∧ (Lit.int k n).wf = true
  sound h := by
    obtain ⟨n, hcs, _, hw⟩ := DataW.trod_int hu h
    exact ⟨n, hcs, hw⟩
  len h := by rw [h.1, hc]; rfl
  below _ _ h := h
def codBool {P : Program} {t : TypeId} (hu : P.underlying t = some .bool) (hc : P.cellsOf t = 1) : Cod P t Bool where
  K _ b cs := cs = [.bool b]
  sound h := by
    obtain ⟨b, hcs, _⟩ := DataW.trod_bool hu h
    exact ⟨b, hcs⟩
  len h := by rw [h, hc]; rfl
  below _ _ h := h

/-- A slice's elements, as they lie in memory. -/
structure SlK {P : Program} {e : TypeId} {α : Type} (c : Cod P e α) (w : World) (a : Option Addr) (cap : Nat) (xs : List α) : Prop where
  le : xs.length ≤ cap
  small : cap ≤ 9223372036854775807
  at_ : xs.length ≠ 0 → ∃ b off, a = some ⟨b, off, none⟩ ∧ b < w.heap.size ∧ ∀ i x, xs[i]? = some x → ∃ cs, c.K w x cs ∧ ∀ j v, cs[j]? = some v → w.cell? ⟨b, off + i * P.cellsOf e + j, none⟩ = some v
theorem SlK.below {P : Program} {e : TypeId} {α : Type} {c : Cod P e α} {w w' : World} {a : Option Addr} {cap : Nat} {xs : List α} (h : SlK c w a cap xs) {B : Nat} (f : Below B w w') (hB : w.heap.size ≤ B) : SlK c w' a cap xs :=
  ⟨h.le, h.small, fun hn => by
    obtain ⟨b, off, e, hb, hc⟩ := h.at_ hn
    refine ⟨b, off, e, Nat.lt_of_lt_of_le hb f.size, fun i x hi => ?_⟩
    obtain ⟨cs, hk, hcell⟩ := hc i x hi
    refine ⟨cs, c.below f hB hk, fun j v hj => ?_⟩
    rw [f.cell (p := ⟨b, _, none⟩) (by show b < B; omega)]
    exact hcell j v hj⟩
theorem choice_list {α : Type} (n : Nat) (R : Nat → α → Prop) (h : ∀ i, i < n → ∃ x, R i x) : ∃ xs : List α, xs.length = n ∧ ∀ i x, xs[i]? = some x → R i x := by
  induction n with
  | zero => exact ⟨[], rfl, fun i x hx => by simp at hx⟩
  | succ n ih =>
    obtain ⟨xs, hl, hx⟩ := ih (fun i hi => h i (by omega))
    obtain ⟨x, hn⟩ := h n (by omega)
    refine ⟨xs ++ [x], by simp [hl], fun i y hy => ?_⟩
    rcases Nat.lt_trichotomy i n with h1 | h1 | h1
    · rw [List.getElem?_append_left (by omega)] at hy; exact hx i y hy
    · subst h1
      rw [List.getElem?_append_right (by omega), hl, Nat.sub_self] at hy
      simp at hy; subst hy; exact hn
    · rw [List.getElem?_eq_none (by simp; omega)] at hy; cases hy
theorem SlK.of_trod {P : Program} {t e : TypeId} {α : Type} (hu : P.underlying t = some (.slice e)) (c : Cod P e α) (h0 : 0 < P.cellsOf e)
    {H : Type} {enc : TypeId × Value → H} {w : World} {base : Nat} {spare : Nat → Bool} {held : Bool} {fuel : Nat} {cs : List Value} {y : DataW H × List MemPlace}
    (h : DataW.trod enc P w base spare held fuel t cs = some y) : ∃ a cap xs, cs = [.slice a xs.length cap] ∧ SlK c w a cap xs := by
  rcases open_slice hu h with ⟨hcs, _⟩ | ⟨a, len, cap, m, n, D, Pl, hcs, _, hl, hm, hmm, _, hel⟩
  · exact ⟨none, 0, [], hcs, Nat.zero_le _, by omega, fun h => absurd rfl h⟩
  · have hlm : len ≤ m := by rw [hmm]; split <;> omega
    obtain ⟨xs, hxl, hxs⟩ := choice_list len (fun i x => ∃ cs, c.K w x cs ∧ ∀ j, j < P.cellsOf e → w.cell? ((a.add (i * P.cellsOf e)).add j) = cs[j]?) (fun i hi => by
      obtain ⟨cs', hcs', ht⟩ := hel i (by omega)
      obtain ⟨x, hx⟩ := c.sound ht
      obtain ⟨_, hl', hcell⟩ := World.cells?_some hcs'
      exact ⟨x, cs', hx, hcell⟩)
    refine ⟨some a, cap, xs, by rw [hxl]; exact hcs, by omega, hm, fun hne => ?_⟩
    have hlen : 0 < len := by omega
    obtain ⟨x0, hx0⟩ : ∃ x, xs[0]? = some x := ⟨xs[0], List.getElem?_eq_getElem (by omega)⟩
    obtain ⟨cs0, hk0, hc0⟩ := hxs 0 x0 hx0
    have hl0 := c.len hk0
    have hcell0 := hc0 0 h0
    rw [List.getElem?_eq_getElem (by omega)] at hcell0
    obtain ⟨b, off, spot⟩ := a
    have hb := World.block_lt_of_cell? _ _ hcell0
    have hs := spot_none hcell0
    have hs' : spot = none := by simpa [Addr.add] using hs
    subst hs'
    refine ⟨b, off, rfl, by simpa [Addr.add] using hb, fun i x hi => ?_⟩
    obtain ⟨cs1, hk1, hc1⟩ := hxs i x hi
    refine ⟨cs1, hk1, fun j v hj => ?_⟩
    have hjl : j < P.cellsOf e := by rw [← c.len hk1]; exact (List.getElem?_eq_some_iff.1 hj).1
    have := hc1 j hjl
    rw [addr_add, addr_add] at this
    rw [this, hj]
def codSlice {P : Program} {t e : TypeId} {α : Type} (hu : P.underlying t = some (.slice e)) (hc : P.cellsOf t = 1) (c : Cod P e α) (h0 : 0 < P.cellsOf e) : Cod P t (List α) where
  K w xs cs := ∃ a cap, cs = [.slice a xs.length cap] ∧ SlK c w a cap xs
  sound h := by
    obtain ⟨a, cap, xs, hcs, hk⟩ := SlK.of_trod hu c h0 h
    exact ⟨xs, a, cap, hcs, hk⟩
  len h := by obtain ⟨_, _, h, _⟩ := h; rw [h, hc]; rfl
  below f hB h := by
    obtain ⟨a, cap, hcs, hk⟩ := h
    exact ⟨a, cap, hcs, hk.below f hB⟩

/-- The fields of a struct. -/
structure CodF (P : Program) (fs : List Field) (α : Type) where
  K : World → α → List Value → Prop
  sound : ∀ {H : Type} {enc : TypeId × Value → H} {w : World} {base : Nat} {spare : Nat → Bool} {held : Bool} {fuel : Nat} {cs : List Value},
    (∀ (i : Nat) (f : Field), fs[i]? = some f → ∃ y, DataW.trod enc P w base spare held fuel f.type ((cs.drop f.offset).take (P.cellsOf f.type)) = some y) → ∃ x, K w x cs
  below : ∀ {w w' : World} {B : Nat} {x : α} {cs : List Value}, Below B w w' → w.heap.size ≤ B → K w x cs → K w' x cs
def codNil {P : Program} : CodF P [] Unit where
  K _ _ _ := True
  sound _ := ⟨(), trivial⟩
  below _ _ h := h
def codCons {P : Program} {α β : Type} (f : Field) (c : Cod P f.type α) {fs : List Field} (r : CodF P fs β) : CodF P (f :: fs) (α × β) where
  K w x cs := c.K w x.1 ((cs.drop f.offset).take (P.cellsOf f.type)) ∧ r.K w x.2 cs
  sound h := by
    obtain ⟨y, hy⟩ := h 0 f rfl
    obtain ⟨x, hx⟩ := c.sound hy
    obtain ⟨xs, hxs⟩ := r.sound (fun i g hg => h (i + 1) g (by simpa using hg))
    exact ⟨(x, xs), hx, hxs⟩
  below f hB h := ⟨c.below f hB h.1, r.below f hB h.2⟩
def codStruct {P : Program} {t : TypeId} {fs : Array Field} {α : Type} (hu : P.underlying t = some (.struct fs)) (r : CodF P fs.toList α) : Cod P t α where
  K w x cs := cs.length = P.cellsOf t ∧ r.K w x cs
  sound h := by
    obtain ⟨xs, n, _, _, hl, hxl, hf⟩ := DataW.trod_struct hu h
    obtain ⟨x, hx⟩ := r.sound (fun i f hi => by
      have hi' : fs[i]? = some f := by simpa using hi
      have := hf i f hi'
      have hlt : i < xs.length := by rw [hxl]; exact (Array.getElem?_eq_some_iff.1 hi').1
      exact ⟨xs[i], by rw [this, List.getElem?_eq_getElem hlt]⟩)
    exact ⟨x, hl, hx⟩
  len h := h.1
  below f hB h := ⟨h.1, r.below f hB h.2⟩
def codArray {P : Program} {t e : TypeId} {n : Nat} {α : Type} (hu : P.underlying t = some (.array n e)) (c : Cod P e α) : Cod P t (List α) where
  K w xs cs := xs.length = n ∧ cs.length = P.cellsOf t ∧ ∀ i x, xs[i]? = some x → c.K w x ((cs.drop (i * P.cellsOf e)).take (P.cellsOf e))
  sound {H enc w base spare held fuel cs y} h := by
    obtain ⟨xs, m, _, _, hl, hxl, hf⟩ := DataW.trod_array hu h
    obtain ⟨zs, hzl, hz⟩ := choice_list n (fun i x => c.K w x ((cs.drop (i * P.cellsOf e)).take (P.cellsOf e))) (fun i hi => by
      have := hf i hi
      rw [List.getElem?_eq_getElem (by omega)] at this
      exact c.sound this)
    exact ⟨zs, hzl, hl, hz⟩
  len h := h.2.1
  below f hB h := ⟨h.1, h.2.1, fun i x hi => c.below f hB (h.2.2 i x hi)⟩
theorem array_ints {P : Program} {t e : TypeId} {n : Nat} {k : IntKind} {hu : P.underlying t = some (.array n e)} {he : P.underlying e = some (.int k)} {hc : P.cellsOf e = 1} (hct : P.cellsOf t = n)
    {w : World} {xs : List Int} {cs : List Value} (h : (codArray hu (codInt he hc)).K w xs cs) : cs = xs.map (Value.int k) ∧ xs.length = n ∧ ∀ x ∈ xs, (Lit.int k x).wf = true := by
  obtain ⟨hn, hl, hx⟩ := h
  rw [hct] at hl
  have hone : ∀ (i : Nat) (x : Int), xs[i]? = some x → cs[i]? = some (Value.int k x) ∧ (Lit.int k x).wf = true := by
    intro i x hi
    obtain ⟨h1, h2⟩ := hx i x hi
    rw [hc, Nat.mul_one] at h1
    have : ((cs.drop i).take 1)[0]? = some (Value.int k x) := by rw [h1]; rfl
    rw [List.getElem?_take, if_pos (by decide), List.getElem?_drop, Nat.add_zero] at this
    exact ⟨this, h2⟩
  refine ⟨List.ext_getElem? fun i => ?_, hn, fun x hx' => ?_⟩
  · rw [List.getElem?_map]
    rcases Nat.lt_or_ge i n with h1 | h1
    · rw [List.getElem?_eq_getElem (show i < xs.length by omega)]
      exact (hone i _ (List.getElem?_eq_getElem (by omega))).1
    · rw [List.getElem?_eq_none (by omega), List.getElem?_eq_none (by omega)]; rfl
  · obtain ⟨i, hi, rfl⟩ := List.mem_iff_getElem.1 hx'
    exact (hone i _ (List.getElem?_eq_getElem hi)).2
/-- An argument that is a slice: its value, its elements. -/
theorem arg_slice {P : Program} {t e : TypeId} {α : Type} (hu : P.underlying t = some (.slice e)) (c : Cod P e α) (h0 : 0 < P.cellsOf e) {H : Type} {enc : TypeId × Value → H} {W : World} {base : Nat} {spare : Nat → Bool} {held : Bool}
    {a : Option Addr} {len cap : Nat} {d : DataW H} {ps : List MemPlace} (h : DataW.Trod enc P W base spare held t (.slice a len cap) d ps) : ∃ xs : List α, xs.length = len ∧ SlK c W a cap xs := by
  obtain ⟨fuel, hf⟩ := h
  obtain ⟨a', cap', xs, hcs, hk⟩ := SlK.of_trod hu c h0 hf
  simp [Value.cells] at hcs
  obtain ⟨rfl, rfl, rfl⟩ := hcs
  exact ⟨xs, rfl, hk⟩
/-- An argument by value: a struct. -/
theorem arg_struct {P : Program} {t : TypeId} {fs : Array Field} {α : Type} (hu : P.underlying t = some (.struct fs)) (c : Cod P t α) {r : Reach} {b0 : Nat} {H : Type} {enc : TypeId × Value → H} {W : World} {base : Nat} {spare : Nat → Bool} {held : Bool}
    {v : Value} {d : DataW H} {ps : List MemPlace} (hv : Value.okWide P W r b0 t v) (h : DataW.Trod enc P W base spare held t v d ps) : ∃ (l : List Value) (x : α), v = .agg l.toArray ∧ c.K W x l := by
  obtain ⟨cs, rfl, _⟩ := okWide_struct hu hv
  obtain ⟨fuel, hf⟩ := h
  obtain ⟨x, hx⟩ := c.sound hf
  refine ⟨cs.toList, x, by simp, ?_⟩
  simpa [Value.cells] using hx
theorem okWide_array {P : Program} {w : World} {r : Reach} {base : Nat} {t : TypeId} {v : Value} {n : Nat} {e : TypeId} (ht : P.underlying t = some (.array n e)) (h : Value.okWide P w r base t v) : ∃ cs, v = .agg cs ∧ cs.size = P.cellsOf t := by
  simp only [Value.okWide, ht] at h
  obtain ⟨cs, h1, h2, _⟩ := h
  exact ⟨cs, h1, h2⟩
/-- An argument by value: an array. -/
theorem arg_array {P : Program} {t e : TypeId} {n : Nat} {α : Type} (hu : P.underlying t = some (.array n e)) (c : Cod P t α) {r : Reach} {b0 : Nat} {H : Type} {enc : TypeId × Value → H} {W : World} {base : Nat} {spare : Nat → Bool} {held : Bool}
    {v : Value} {d : DataW H} {ps : List MemPlace} (hv : Value.okWide P W r b0 t v) (h : DataW.Trod enc P W base spare held t v d ps) : ∃ (l : List Value) (x : α), v = .agg l.toArray ∧ c.K W x l := by
  obtain ⟨cs, rfl, _⟩ := okWide_array hu hv
  obtain ⟨fuel, hf⟩ := h
  obtain ⟨x, hx⟩ := c.sound hf
  refine ⟨cs.toList, x, by simp, ?_⟩
  simpa [Value.cells] using hx
end Go.Proofs.YtipalebaaejfjaaDoor
