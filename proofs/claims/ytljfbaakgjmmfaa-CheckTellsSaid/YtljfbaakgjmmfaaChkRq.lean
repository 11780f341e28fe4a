/- Rows of requests that are read; a request done, whatever it is. -/
import Derived.Test.YtljfbaakgjmmfaaSvcPure
import Derived.Test.YtljfbaakgjmmfaaOwnR
namespace Go.Proofs.Ytljfbaakgjmmfaa
open Go.RowKit Go.ChangeShapes
set_option maxRecDepth 20000
set_option linter.unusedVariables false
set_option linter.unusedSimpArgs false
structure RqOk (r : Rq) : Prop where
  c : 0 ≤ r.c ∧ r.c ≤ 255
  t : 0 ≤ r.t ∧ r.t ≤ 4294967295
  k : 0 ≤ r.k ∧ r.k ≤ 255
  y : 0 ≤ r.y ∧ r.y ≤ 255
  v : 0 ≤ r.v ∧ r.v ≤ 65535
def Rq.eqb (r q : Rq) : Bool := (r.c == q.c && (r.t == q.t && (r.k == q.k && (r.y == q.y && r.v == q.v))))
theorem Rq.eqb_iff (r q : Rq) : r.eqb q = true ↔ r = q := by
  obtain ⟨a, b, c, d, e⟩ := r
  obtain ⟨a', b', c', d', e'⟩ := q
  simp [Rq.eqb]
theorem Rq.eqb_self (r : Rq) : r.eqb r = true := (Rq.eqb_iff r r).2 rfl
/-- A slice of requests, as it lies in memory. -/
structure IsRqs (w : World) (a : Option Addr) (cap : Nat) (l : List Rq) : Prop where
  le : l.length ≤ cap
  small : cap ≤ 9223372036854775807
  at_ : l.length ≠ 0 → ∃ b o, a = some ⟨b, o, none⟩ ∧ b < w.heap.size ∧ ∀ j r, l[j]? = some r → ∀ i, i < 5 → w.cell? ⟨b, o + j * 5 + i, none⟩ = (rqC r)[i]?
  ok : ∀ r ∈ l, RqOk r
theorem IsRqs.below {w w' : World} {a : Option Addr} {cap : Nat} {l : List Rq} (h : IsRqs w a cap l) {B : Nat} (f : Below B w w') (hB : ∀ b o, a = some ⟨b, o, none⟩ → b < B) : IsRqs w' a cap l :=
  ⟨h.le, h.small, fun hn => by
    obtain ⟨b, o, e, hb, hc⟩ := h.at_ hn
    exact ⟨b, o, e, Nat.lt_of_lt_of_le hb f.size, fun j r hj i hi => by rw [f.cell (p := ⟨b, o + j * 5 + i, none⟩) (hB b o e)]; exact hc j r hj i hi⟩, h.ok⟩
theorem OwnR.rqs {w : World} {A : Nat → Prop} {v : Value} {l : List Rq} (h : OwnR w A v l) (ok : ∀ r ∈ l, RqOk r) : ∃ a c, v = .slice a l.length c ∧ IsRqs w a c l := by
  by_cases hl : 0 < l.length
  · obtain ⟨g, c, rfl, h1, h2, h3⟩ := h.at_ hl
    exact ⟨_, c, rfl, h1, h2, fun _ => ⟨g, 0, rfl, h.lt rfl, fun j r hj i hi => by rw [Nat.zero_add]; exact h3 j r hj i hi⟩, ok⟩
  · obtain ⟨a, c, rfl⟩ := h.slice
    rcases h.own.2 with ⟨e, h0⟩ | ⟨g, cap, cur, e, hl1, hgg, hc, hcm, h5, h6⟩
    · injection e with e1 e2 e3
      subst e1 e3
      exact ⟨_, _, rfl, by omega, by omega, fun hn => by omega, ok⟩
    · injection e with e1 e2 e3
      subst e1 e3
      simp only [maxLen] at hcm
      exact ⟨_, _, rfl, by omega, by omega, fun hn => by omega, ok⟩
theorem eqlRq (w : World) (c t k y v c' t' k' y' v' : Int) (z : Bool) (hz : (c == c' && (t == t' && (k == k' && (y == y' && v == v')))) = z) : (binOp .eql TRq (.agg #[.int .u8 c, .int .u32 t, .int .u8 k, .int .u8 y, .int .u16 v]) (.agg #[.int .u8 c', .int .u32 t', .int .u8 k', .int .u8 y', .int .u16 v'])).run Try.prog w = .ok (.bool z) w := by
  subst hz
  go_simp
  repeat' split
  all_goals simp_all
theorem neqRq (w : World) (c t k y v c' t' k' y' v' : Int) (z : Bool) (hz : (c == c' && (t == t' && (k == k' && (y == y' && v == v')))) = z) : (binOp .neq TRq (.agg #[.int .u8 c, .int .u32 t, .int .u8 k, .int .u8 y, .int .u16 v]) (.agg #[.int .u8 c', .int .u32 t', .int .u8 k', .int .u8 y', .int .u16 v'])).run Try.prog w = .ok (.bool (!z)) w := by
  subst hz
  go_simp
  repeat' split
  all_goals simp_all
theorem Apply_any {w : World} {b : Nat} {vs cs : List Int} (h : IsMap w b vs cs) (c t k y v : Int) (hc : 0 ≤ c) (ht : 0 ≤ t ∧ t ≤ 4294967295) (hy : 0 ≤ y) (hv : 0 ≤ v ∧ v ≤ 65535) (x : Int) (ok : Bool) (vs' cs' : List Int) (hx : applyM vs cs c t k y v = (x, ok, vs', cs')) :
    Calls Try.prog 25 #[.pointer (some ⟨b, 0, none⟩), .agg #[.int .u8 c, .int .u32 t, .int .u8 k, .int .u8 y, .int .u16 v]] w fun e w' => e = .returned (.tuple #[.int .u32 x, .bool ok]) ∧ IsMap w' b vs' cs' ∧ Frm (· = b) w w' := by
  unfold applyM at hx
  split at hx
  · rename_i hr
    split at hx
    · rename_i hlt
      simp only [Prod.mk.injEq] at hx
      obtain ⟨rfl, rfl, rfl, rfl⟩ := hx
      exact Apply_new h c t k y v hc ht hy hv (by rw [isNew, hr, Bool.true_and]; exact decide_eq_true hlt) _ _ rfl rfl
    · rename_i hlt
      split at hx
      · rename_i he
        simp only [Prod.mk.injEq] at hx
        obtain ⟨rfl, rfl, rfl, rfl⟩ := hx
        refine (Apply_same h c t k y v hc hy hv hr he _ rfl).mono ?_
        rintro e w' ⟨rfl, f⟩
        exact ⟨rfl, h.frm f (fun h => h), Frm0.any f⟩
      · rename_i he
        simp only [Prod.mk.injEq] at hx
        obtain ⟨rfl, rfl, rfl, rfl⟩ := hx
        refine (Apply_none h c t k y v hc (by rw [isNew, hr, Bool.true_and]; exact decide_eq_false hlt) (fun h => he h.2)).mono ?_
        rintro e w' ⟨rfl, f⟩
        exact ⟨rfl, h.frm f (fun h => h), Frm0.any f⟩
  · rename_i hr
    simp only [Prod.mk.injEq] at hx
    obtain ⟨rfl, rfl, rfl, rfl⟩ := hx
    refine (Apply_none h c t k y v hc (by rw [isNew, Bool.eq_false_iff.2 hr, Bool.false_and]) (fun h => hr h.1)).mono ?_
    rintro e w' ⟨rfl, f⟩
    exact ⟨rfl, h.frm f (fun h => h), Frm0.any f⟩
end Go.Proofs.Ytljfbaakgjmmfaa
