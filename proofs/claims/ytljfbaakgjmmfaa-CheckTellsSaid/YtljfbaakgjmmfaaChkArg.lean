/- What was done, requests, answers as arguments; the lists, whatever they tell. -/
import Derived.Test.YtljfbaakgjmmfaaRq
import Derived.Test.YtljfbaakgjmmfaaChkDocL
import Derived.Test.YtljfbaakgjmmfaaPgPage
import Derived.Test.YtljfbaakgjmmfaaRPage
namespace Go.Proofs.Ytljfbaakgjmmfaa
open Go.RowKit Go.ChangeShapes
set_option linter.unusedVariables false
set_option linter.unusedSimpArgs false
set_option maxRecDepth 100000
abbrev RqX : Type := Int × Int × (Int × Int × Int × Unit) × Unit
abbrev DnX : Type := Int × RqX × Int × Unit
abbrev AnX : Type := RqX × Int × Unit
def toRq (x : RqX) : Rq := ⟨x.1, x.2.1, x.2.2.1.1, x.2.2.1.2.1, x.2.2.1.2.2.1⟩
def toDn (x : DnX) : Dn := ⟨x.1, toRq x.2.1, x.2.2.1⟩
def toAn (x : AnX) : Rq × Int := (toRq x.1, x.2.1)
theorem rq_is {w : World} {x : RqX} {cs : List Value} (h : c30.K w x cs) : cs = rqC (toRq x) ∧ RqOk (toRq x) := by
  obtain ⟨hl, h0, b0, h1, b1, h2⟩ := k30 h
  obtain ⟨_, g0, d0, g1, d1, g2, d2⟩ := k28 h2
  rw [List.getElem?_take, if_pos (by decide), List.getElem?_drop] at g0 g1 g2
  exact ⟨list5 hl h0 h1 g0 g1 g2, bnd8 b0, bnd32 b1, bnd8 d0, bnd8 d1, bnd16 d2⟩
theorem dn_is {w : World} {x : DnX} {cs : List Value} (h : c36.K w x cs) : cs = dnC (toDn x) ∧ 0 ≤ (toDn x).s ∧ RqOk (toDn x).r := by
  obtain ⟨hl, h0, b0, hr, h6, b6⟩ := k36 h
  obtain ⟨hr1, hr2⟩ := rq_is hr
  refine ⟨?_, (bnd32 b0).1, hr2⟩
  match cs, hl with
  | [a0, a1, a2, a3, a4, a5, a6], _ =>
    simp only [List.getElem?_cons_zero, List.getElem?_cons_succ, Option.some.injEq] at h0 h6
    have e : [a1, a2, a3, a4, a5] = rqC (toRq x.2.1) := hr1
    show a0 :: ([a1, a2, a3, a4, a5] ++ [a6]) = _
    rw [e, h0, h6]
    rfl
theorem an_is {w : World} {x : AnX} {cs : List Value} (h : c44.K w x cs) : cs = anC (toAn x).1 (toAn x).2 := by
  obtain ⟨hl, hr, h5, b5⟩ := k44 h
  obtain ⟨hr1, _⟩ := rq_is hr
  match cs, hl with
  | [a0, a1, a2, a3, a4, a5], _ =>
    simp only [List.getElem?_cons_zero, List.getElem?_cons_succ, Option.some.injEq] at h5
    have e : [a0, a1, a2, a3, a4] = rqC (toRq x.1) := hr1
    show [a0, a1, a2, a3, a4] ++ [a5] = _
    rw [e, h5]
    rfl
theorem cells_rqT : Try.prog.cellsOf TRq = 5 := by kernel_rfl
theorem cells_dnT : Try.prog.cellsOf TDn = 7 := by kernel_rfl
theorem cells_anT : Try.prog.cellsOf TAn = 6 := by kernel_rfl
theorem cells_dsT : Try.prog.cellsOf TDs = 1 := by kernel_rfl
theorem some_at {l : List Value} {i : Nat} (h : i < l.length) : ∃ u, l[i]? = some u := ⟨l[i], List.getElem?_eq_getElem h⟩
theorem mem_at {α : Type} {l : List α} {x : α} (h : x ∈ l) : ∃ i : Nat, l[i]? = some x := List.mem_iff_getElem?.1 h
theorem IsRqs.of_slk {w : World} {a : Option Addr} {cap : Nat} {xs : List RqX} (h : SlK c30 w a cap xs) : IsRqs w a cap (xs.map toRq) := by
  refine ⟨by rw [List.length_map]; exact h.le, h.small, fun hn => ?_, fun r hr => ?_⟩
  · rw [List.length_map] at hn
    obtain ⟨b, off, e, hb, hc⟩ := h.at_ hn
    refine ⟨b, off, e, hb, fun j r hj i hi => ?_⟩
    rw [List.getElem?_map] at hj
    obtain ⟨x, hx, rfl⟩ := Option.map_eq_some_iff.1 hj
    obtain ⟨cs, hk, hcell⟩ := hc j x hx
    obtain ⟨rfl, _⟩ := rq_is hk
    rw [cells_rqT] at hcell
    obtain ⟨u, hu⟩ := some_at (l := rqC (toRq x)) (i := i) (by show i < 5; exact hi)
    rw [hcell i u hu, hu]
  · obtain ⟨x, hx, rfl⟩ := List.mem_map.1 hr
    obtain ⟨i, hi⟩ := mem_at hx
    obtain ⟨b, off, e, hb, hc⟩ := h.at_ (fun h0 => by rw [List.eq_nil_of_length_eq_zero h0] at hx; cases hx)
    obtain ⟨cs, hk, _⟩ := hc i x hi
    exact (rq_is hk).2
theorem IsDns.of_slk {w : World} {a : Option Addr} {cap : Nat} {xs : List DnX} (h : SlK c36 w a cap xs) : IsDns w a cap (xs.map toDn) ∧ ∀ d ∈ xs.map toDn, 0 ≤ d.s ∧ RqOk d.r := by
  refine ⟨⟨by rw [List.length_map]; exact h.le, h.small, fun hn => ?_⟩, fun r hr => ?_⟩
  · rw [List.length_map] at hn
    obtain ⟨b, off, e, hb, hc⟩ := h.at_ hn
    refine ⟨b, off, e, hb, fun j r hj i hi => ?_⟩
    rw [List.getElem?_map] at hj
    obtain ⟨x, hx, rfl⟩ := Option.map_eq_some_iff.1 hj
    obtain ⟨cs, hk, hcell⟩ := hc j x hx
    obtain ⟨rfl, _⟩ := dn_is hk
    rw [cells_dnT] at hcell
    obtain ⟨u, hu⟩ := some_at (l := dnC (toDn x)) (i := i) (by show i < 7; exact hi)
    rw [hcell i u hu, hu]
  · obtain ⟨x, hx, rfl⟩ := List.mem_map.1 hr
    obtain ⟨i, hi⟩ := mem_at hx
    obtain ⟨b, off, e, hb, hc⟩ := h.at_ (fun h0 => by rw [List.eq_nil_of_length_eq_zero h0] at hx; cases hx)
    obtain ⟨cs, hk, _⟩ := hc i x hi
    exact (dn_is hk).2
theorem IsAns.of_slk {w : World} {a : Option Addr} {cap : Nat} {xs : List AnX} (h : SlK c44 w a cap xs) : IsAns w a cap (xs.map toAn) := by
  refine ⟨by rw [List.length_map]; exact h.le, h.small, fun hn => ?_⟩
  rw [List.length_map] at hn
  obtain ⟨b, off, e, hb, hc⟩ := h.at_ hn
  refine ⟨b, off, e, hb, fun j r hj i hi => ?_⟩
  rw [List.getElem?_map] at hj
  obtain ⟨x, hx, rfl⟩ := Option.map_eq_some_iff.1 hj
  obtain ⟨cs, hk, hcell⟩ := hc j x hx
  obtain rfl := an_is hk
  rw [cells_anT] at hcell
  obtain ⟨u, hu⟩ := some_at (l := anC (toAn x).1 (toAn x).2) (i := i) (by show i < 6; exact hi)
  rw [hcell i u hu, hu]
theorem IsDss.of_slk {w : World} {a : Option Addr} {cap : Nat} {xs : List (List DnX)} (h : SlK c34 w a cap xs) : IsDss w a cap (xs.map fun l => l.map toDn) ∧ ∀ l ∈ xs.map (fun l => l.map toDn), ∀ d ∈ l, 0 ≤ d.s ∧ RqOk d.r := by
  refine ⟨⟨by rw [List.length_map]; exact h.le, h.small, fun hn => ?_⟩, fun r hr => ?_⟩
  · rw [List.length_map] at hn
    obtain ⟨b, off, e, hb, hc⟩ := h.at_ hn
    refine ⟨b, off, e, hb, fun j l hj => ?_⟩
    rw [List.getElem?_map] at hj
    obtain ⟨x, hx, rfl⟩ := Option.map_eq_some_iff.1 hj
    obtain ⟨cs, ⟨a', cap', rfl, hk⟩, hcell⟩ := hc j x hx
    rw [cells_dsT] at hcell
    have h0 := hcell 0 _ rfl
    rw [Nat.mul_one, Nat.add_zero] at h0
    exact ⟨a', cap', by rw [List.length_map]; exact h0, (IsDns.of_slk hk).1⟩
  · obtain ⟨x, hx, rfl⟩ := List.mem_map.1 hr
    obtain ⟨i, hi⟩ := mem_at hx
    obtain ⟨b, off, e, hb, hc⟩ := h.at_ (fun h0 => by rw [List.eq_nil_of_length_eq_zero h0] at hx; cases hx)
    obtain ⟨cs, ⟨a', cap', rfl, hk⟩, _⟩ := hc i x hi
    exact (IsDns.of_slk hk).2
theorem IsDns.bel {w w' : World} {a : Option Addr} {c : Nat} {l : List Dn} (h : IsDns w a c l) (f : Below w.heap.size w w') : IsDns w' a c l :=
  ⟨h.le, h.small, fun hn => by
    obtain ⟨b, o, e, hb, hc⟩ := h.at_ hn
    exact ⟨b, o, e, Nat.lt_of_lt_of_le hb f.size, fun j d hj i hi => by rw [f.cell (p := ⟨b, o + j * 7 + i, none⟩) hb]; exact hc j d hj i hi⟩⟩
theorem IsDss.bel {w w' : World} {a : Option Addr} {c : Nat} {ls : List (List Dn)} (h : IsDss w a c ls) (f : Below w.heap.size w w') : IsDss w' a c ls :=
  ⟨h.le, h.small, fun hn => by
    obtain ⟨b, o, e, hb, hc⟩ := h.at_ hn
    refine ⟨b, o, e, Nat.lt_of_lt_of_le hb f.size, fun j l hj => ?_⟩
    obtain ⟨aj, cj, h1, h2⟩ := hc j l hj
    exact ⟨aj, cj, by rw [f.cell (p := ⟨b, o + j, none⟩) hb]; exact h1, h2.bel f⟩⟩
theorem IsAns.bel {w w' : World} {a : Option Addr} {c : Nat} {l : List (Rq × Int)} (h : IsAns w a c l) (f : Below w.heap.size w w') : IsAns w' a c l :=
  ⟨h.le, h.small, fun hn => by
    obtain ⟨b, o, e, hb, hc⟩ := h.at_ hn
    exact ⟨b, o, e, Nat.lt_of_lt_of_le hb f.size, fun j d hj i hi => by rw [f.cell (p := ⟨b, o + j * 6 + i, none⟩) hb]; exact hc j d hj i hi⟩⟩
theorem run_okR (l : List Dn) : ∀ (g : Int → Option Rq) (m : Int) (n : Nat) (last : Int) (g' : Int → Option Rq) (m' : Int) (n' : Nat), runF g m n last l = some (g', m', n') → (∀ i r, g i = some r → RqOk r) → (∀ d ∈ l, RqOk d.r) → ∀ i r, g' i = some r → RqOk r := by
  induction l with
  | nil =>
    intro g m n last g' m' n' h hg _
    injection h with h
    injection h with h1 _
    subst h1
    exact hg
  | cons d l ih =>
    intro g m n last g' m' n' h hg hd
    rw [runF] at h
    split at h
    · cases h
    · refine ih _ _ _ _ _ _ _ h (fun i r hi => ?_) (fun d' hd' => hd d' (List.mem_cons_of_mem _ hd'))
      unfold updR at hi
      split at hi
      · injection hi with hi; subst hi; exact hd d List.mem_cons_self
      · exact hg i r hi
theorem rq0_ok : RqOk rq0 := ⟨by decide, by decide, by decide, by decide, by decide⟩
theorem tot_okR (ls : List (List Dn)) : ∀ (g : Int → Option Rq) (m : Int) (n : Nat) (out : List Rq), totF g m n ls = some out → (∀ i r, g i = some r → RqOk r) → (∀ l ∈ ls, ∀ d ∈ l, RqOk d.r) → ∀ r ∈ out, RqOk r := by
  induction ls with
  | nil =>
    intro g m n out h hg _ r hr
    have h : finF g m n = some out := h
    unfold finF at h
    split at h
    · injection h with h
      subst h
      obtain ⟨i, _, rfl⟩ := List.mem_map.1 hr
      cases hgi : g ((i : Int) + 1) with
      | none => exact rq0_ok
      | some q => exact hg _ q hgi
    · cases h
  | cons l ls ih =>
    intro g m n out h hg hd
    rw [totF] at h
    split at h
    · cases h
    · rename_i g' m' n' hr
      exact ih _ _ _ _ h (run_okR l _ _ _ _ _ _ _ hr hg (hd l List.mem_cons_self)) (fun l' hl' => hd l' (List.mem_cons_of_mem _ hl'))
def resX (z : Option (List Rq)) : List Rq := z.getD []
def resE : Option (List Rq) → Int
  | none => 240
  | some _ => 0
theorem IsRqs.none (w : World) : IsRqs w none 0 [] := ⟨Nat.le_refl _, by decide, fun h => absurd rfl h, fun r hr => by cases hr⟩
theorem LRes.tells {B : Nat} {w' : World} {e : Ending} {z : Option (List Rq)} (h : LRes B w' e z) (ok : ∀ r ∈ resX z, RqOk r) : ∃ a c, e = .returned (.tuple #[.slice a (resX z).length c, .int .i64 (resE z)]) ∧ IsRqs w' a c (resX z) := by
  cases z with
  | none => exact ⟨none, 0, h, IsRqs.none w'⟩
  | some out =>
    obtain ⟨v', rfl, ho⟩ := h
    obtain ⟨a, c, rfl, hq⟩ := ho.rqs ok
    exact ⟨a, c, rfl, hq⟩
theorem Page_bs {w : World} {b : Nat} {vs cs : List Int} (h : IsMap w b vs cs) (p : Nat) (hp : p ≤ 7) :
    Calls Try.prog 18 #[.pointer (some ⟨b, 0, none⟩), .int .i64 p] w fun e w' => ∃ a c, e = .returned (.slice a (pageB vs cs p).length c) ∧ IsInts .u8 w' a c (pageB vs cs p) ∧ Frm (fun _ => False) w w' := by
  by_cases h7 : p = 7
  · subst h7
    refine (Page_clis h).mono ?_
    rintro e w' ⟨g, rfl, _, hi, f⟩
    exact ⟨_, _, rfl, hi, f⟩
  · refine (Page_vals h p (by omega)).mono ?_
    rintro e w' ⟨g, rfl, _, hi, f⟩
    exact ⟨_, _, rfl, hi, f⟩
theorem RPage_bs {w : World} {b : Nat} {vs cs : List Int} (h : IsRM w b vs cs) (h00 : cs.getD 0 0 = 0) (p : Nat) (hp : p ≤ 7) :
    Calls Try.prog 19 #[.pointer (some ⟨b, 0, none⟩), .int .i64 p] w fun e w' => ∃ a c, e = .returned (.slice a (pageB vs cs p).length c) ∧ IsInts .u8 w' a c (pageB vs cs p) ∧ Below w.heap.size w w' := by
  by_cases h7 : p = 7
  · subst h7
    refine (RPage_clis h h00 _ rfl).mono ?_
    rintro e w' ⟨v, rfl, ho, f⟩
    obtain ⟨a, c, rfl, hi, _⟩ := ho.ints
    exact ⟨_, _, rfl, hi, f⟩
  · refine (RPage_vals h p (by omega)).mono ?_
    rintro e w' ⟨v, rfl, ho, f⟩
    obtain ⟨a, c, rfl, hi, _⟩ := ho.ints
    exact ⟨_, _, rfl, hi, f⟩
end Go.Proofs.Ytljfbaakgjmmfaa
