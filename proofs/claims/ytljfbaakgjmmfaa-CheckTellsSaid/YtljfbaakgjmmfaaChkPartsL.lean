/- Slices of slices of what was done. -/
import Derived.Test.YtljfbaakgjmmfaaOwnD
import Derived.Test.YtljfbaakgjmmfaaOwnS
import Derived.Test.YtljfbaakgjmmfaaChkPartsP
import Derived.Test.YtljfbaakgjmmfaaOwnRs
namespace Go.Proofs.Ytljfbaakgjmmfaa
open Go.RowKit Go.ChangeShapes
set_option linter.unusedVariables false
set_option linter.unusedSimpArgs false
set_option maxRecDepth 20000
theorem IsDns.frm {S : Nat → Prop} {w w' : World} {a : Option Addr} {c : Nat} {l : List Dn} (h : IsDns w a c l) (f : Frm S w w') (hs : ∀ b o, a = some ⟨b, o, none⟩ → ¬ S b) : IsDns w' a c l :=
  ⟨h.le, h.small, fun hn => by
    obtain ⟨b, o, e, hb, hc⟩ := h.at_ hn
    exact ⟨b, o, e, Nat.lt_of_lt_of_le hb f.size, fun j d hj i hi => by rw [f.cell (p := ⟨b, o + j * 7 + i, none⟩) hb (hs b o e)]; exact hc j d hj i hi⟩⟩
theorem IsRqs.frm {S : Nat → Prop} {w w' : World} {a : Option Addr} {c : Nat} {l : List Rq} (h : IsRqs w a c l) (f : Frm S w w') (hs : ∀ b o, a = some ⟨b, o, none⟩ → b < w.heap.size → ¬ S b) : IsRqs w' a c l :=
  ⟨h.le, h.small, fun hn => by
    obtain ⟨b, o, e, hb, hc⟩ := h.at_ hn
    exact ⟨b, o, e, Nat.lt_of_lt_of_le hb f.size, fun j d hj i hi => by rw [f.cell (p := ⟨b, o + j * 5 + i, none⟩) hb (hs b o e hb)]; exact hc j d hj i hi⟩, h.ok⟩
theorem OwnD.dns {w : World} {A : Nat → Prop} {v : Value} {l : List Dn} (h : OwnD w A v l) : ∃ a c, v = .slice a l.length c ∧ IsDns w a c l ∧ ∀ b o, a = some ⟨b, o, none⟩ → v.ownBlock = some b := by
  by_cases hl : 0 < l.length
  · obtain ⟨g, c, rfl, h1, h2, h3⟩ := h.at_ hl
    exact ⟨_, c, rfl, ⟨h1, h2, fun _ => ⟨g, 0, rfl, h.lt rfl, fun j r hj i hi => by rw [Nat.zero_add]; exact h3 j r hj i hi⟩⟩, fun b o e => by injection e with e; injection e with e1 e2; subst e1; rfl⟩
  · obtain ⟨a, c, rfl⟩ := h.slice
    rcases h.own.2 with ⟨e, h0⟩ | ⟨g, cap, cur, e, hl1, hgg, hc, hcm, h5, h6⟩
    · injection e with e1 e2 e3
      subst e1 e3
      exact ⟨_, _, rfl, ⟨by omega, by omega, fun hn => by omega⟩, fun b o e => by cases e⟩
    · injection e with e1 e2 e3
      subst e1 e3
      simp only [maxLen] at hcm
      exact ⟨_, _, rfl, ⟨by omega, by omega, fun hn => by omega⟩, fun b o e => by injection e with e; injection e with e1 e2; subst e1; rfl⟩
/-- The slices in this row are these, in blocks of their own, none of them below B, none the row's. -/
structure Lnk (w : World) (B : Nat) (lv : Value) (ss : List Sl3) (ls : List (List Dn)) : Prop where
  len : ss.length = ls.length
  at_ : ∀ (j : Nat) (l : List Dn), ls[j]? = some l → ∃ a c, ss[j]? = some ⟨a, l.length, c⟩ ∧ IsDns w a c l ∧ ∀ b o, a = some ⟨b, o, none⟩ → B ≤ b ∧ b < w.heap.size ∧ ¬ lv.ownBlock = some b
theorem Lnk.nil (w : World) (B : Nat) : Lnk w B (.slice none 0 0) [] [] := ⟨rfl, fun j l h => by simp at h⟩
theorem Lnk.frm {S : Nat → Prop} {w w' : World} {B : Nat} {lv : Value} {ss : List Sl3} {ls : List (List Dn)} (h : Lnk w B lv ss ls) (f : Frm S w w') (hs : ∀ b, B ≤ b → b < w.heap.size → ¬ lv.ownBlock = some b → ¬ S b) : Lnk w' B lv ss ls :=
  ⟨h.len, fun j l hj => by
    obtain ⟨a, c, h1, h2, h3⟩ := h.at_ j l hj
    exact ⟨a, c, h1, h2.frm f (fun b o e => by obtain ⟨x, y, z⟩ := h3 b o e; exact hs b x y z), fun b o e => by obtain ⟨x, y, z⟩ := h3 b o e; exact ⟨x, Nat.lt_of_lt_of_le y f.size, z⟩⟩⟩
theorem Lnk.more {w w' : World} {B : Nat} {lv lv' : Value} {ss : List Sl3} {ls : List (List Dn)} {a : Option Addr} {n c : Nat} {l : List Dn} (h : Lnk w B lv ss ls) (f : Frm (fun k => lv.ownBlock = some k) w w') (hat : ∀ k, lv'.ownBlock = some k → lv.ownBlock = some k ∨ w.heap.size ≤ k)
    (hn : l.length = n) (hd : IsDns w a c l) (ha : ∀ b o, a = some ⟨b, o, none⟩ → B ≤ b ∧ b < w.heap.size ∧ ¬ lv.ownBlock = some b) : Lnk w' B lv' (ss ++ [⟨a, n, c⟩]) (ls ++ [l]) := by
  subst hn
  have key : ∀ b, b < w.heap.size → ¬ lv.ownBlock = some b → ¬ lv'.ownBlock = some b := fun b hb hn e => by
    rcases hat b e with h1 | h1
    · exact hn h1
    · omega
  refine ⟨by rw [List.length_append, List.length_append, h.len]; rfl, fun j l' hj => ?_⟩
  by_cases hjl : j < ls.length
  · rw [List.getElem?_append_left hjl] at hj
    obtain ⟨a', c', h1, h2, h3⟩ := h.at_ j l' hj
    refine ⟨a', c', by rw [List.getElem?_append_left (by rw [h.len]; exact hjl)]; exact h1, h2.frm f (fun b o e => (h3 b o e).2.2), fun b o e => ?_⟩
    obtain ⟨x, y, z⟩ := h3 b o e
    exact ⟨x, Nat.lt_of_lt_of_le y f.size, key b y z⟩
  · rw [List.getElem?_append_right (by omega)] at hj
    have hj0 : j - ls.length = 0 := by
      rcases Nat.eq_zero_or_pos (j - ls.length) with h0 | h0
      · exact h0
      · rw [List.getElem?_eq_none (by show 1 ≤ _; omega)] at hj; cases hj
    rw [hj0] at hj
    injection hj with hj
    subst hj
    refine ⟨a, c, by rw [List.getElem?_append_right (by rw [h.len]; omega), h.len, hj0]; rfl, hd.frm f (fun b o e => (ha b o e).2.2), fun b o e => ?_⟩
    obtain ⟨x, y, z⟩ := ha b o e
    exact ⟨x, Nat.lt_of_lt_of_le y f.size, key b y z⟩
theorem OwnS.dss {w : World} {A : Nat → Prop} {B : Nat} {lv : Value} {ss : List Sl3} {ls : List (List Dn)} (h : OwnS w A lv ss) (hl : Lnk w B lv ss ls) : ∃ a c, lv = .slice a ls.length c ∧ IsDss w a c ls := by
  by_cases h0 : 0 < ss.length
  · obtain ⟨g, c, rfl, h1, h2, h3⟩ := h.at_ h0
    rw [hl.len] at h1 ⊢
    refine ⟨_, c, rfl, h1, h2, fun _ => ⟨g, 0, rfl, h.lt rfl, fun j l hj => ?_⟩⟩
    obtain ⟨a', c', e1, e2, _⟩ := hl.at_ j l hj
    have := h3 j _ e1 0 (by decide)
    rw [Nat.mul_one, Nat.add_zero] at this
    rw [Nat.zero_add]
    exact ⟨a', c', this, e2⟩
  · obtain ⟨a, c, rfl⟩ := h.slice
    have hl0 : ls.length = 0 := by rw [← hl.len]; omega
    rcases h.own.2 with ⟨e, h0⟩ | ⟨g, cap, cur, e, hl1, hgg, hc, hcm, h5, h6⟩
    · injection e with e1 e2 e3
      subst e1 e3
      rw [hl.len]
      exact ⟨_, _, rfl, by omega, by omega, fun hn => absurd hl0 hn⟩
    · injection e with e1 e2 e3
      subst e1 e3
      simp only [maxLen] at hcm
      rw [hl.len]
      exact ⟨_, _, rfl, by omega, by omega, fun hn => absurd hl0 hn⟩
theorem allR_ok (i : Nat) (hi : i < 12) : RqOk (allR i) := ⟨by simp only [allR]; omega, by simp only [allR]; omega, by simp only [allR]; decide, by simp only [allR]; decide, by simp only [allR]; decide⟩
theorem dnP_ok (i : Nat) (hi : i < 12) : DnOk (dnP i) := ⟨by simp only [dnP]; omega, allR_ok i hi⟩
theorem dnsP_ok {ps : List (List Nat)} (h : GoodP 12 ps) : ∀ l ∈ dnsP ps, ∀ d ∈ l, DnOk d := fun l hl d hd => by
  obtain ⟨q, hq, rfl⟩ := List.mem_map.1 hl
  obtain ⟨i, hi, rfl⟩ := List.mem_map.1 hd
  exact dnP_ok i ((h q hq).1 i hi)
theorem List_none {w : World} {a : Option Addr} {c n : Nat} {ls : List (List Dn)} (h : IsDss w a c ls) (hn : ls.length = n) (hok : ∀ l ∈ ls, ∀ d ∈ l, DnOk d) (hlen : ∀ l ∈ ls, l.length ≤ 60) (hls : n ≤ 6) (hz : totF (fun _ => none) 0 0 ls = none) :
    Calls Try.prog 9 #[.slice a n c] w fun e w' => e = .returned (.tuple #[.slice none 0 0, .int .i64 240]) ∧ Below w.heap.size w w' := by
  subst hn
  exact List_calls h hok hlen hls none hz
theorem List_some {w : World} {a : Option Addr} {c n : Nat} {ls : List (List Dn)} (h : IsDss w a c ls) (hn : ls.length = n) (hok : ∀ l ∈ ls, ∀ d ∈ l, DnOk d) (hlen : ∀ l ∈ ls, l.length ≤ 60) (hls : n ≤ 6) (out : List Rq) (M : Nat) (hM : out.length = M) (ok : ∀ r ∈ out, RqOk r) (hz : totF (fun _ => none) 0 0 ls = some out) :
    Calls Try.prog 9 #[.slice a n c] w fun e w' => ∃ a' c', e = .returned (.tuple #[.slice a' M c', .int .i64 0]) ∧ IsRqs w' a' c' out ∧ Below w.heap.size w w' := by
  subst hn hM
  refine (List_calls h hok hlen hls (some out) hz).mono ?_
  rintro e w' ⟨⟨v', rfl, ho⟩, f⟩
  obtain ⟨a', c', rfl, hq⟩ := ho.rqs ok
  exact ⟨a', c', rfl, hq, f⟩
theorem Reqs_same {w : World} {a b : Option Addr} {ca cb M : Nat} {l : List Rq} (h : IsRqs w a ca l) (h' : IsRqs w b cb l) (hM : l.length = M) :
    Calls Try.prog 10 #[.slice a M ca, .slice b M cb] w fun e w' => e = .returned (.bool true) ∧ Frm (fun _ => False) w w' := by
  subst hM
  refine Reqs_calls h h' true ?_
  rw [beq_self_eq_true, Bool.true_and]
  clear h h'
  induction l with
  | nil => rfl
  | cons r l ih => simp [reqsF, Rq.eqb_self, ih]
end Go.Proofs.Ytljfbaakgjmmfaa
