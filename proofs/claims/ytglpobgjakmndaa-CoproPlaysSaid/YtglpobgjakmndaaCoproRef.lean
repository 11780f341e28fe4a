/- Contracts of the document's coprocessor (the reference): the same numbers, another block. -/
import Derived.Test.YtglpobgjakmndaaCopro
namespace Go.Proofs.Ytglpobgjakmndaa
open Go.RowKit
set_option linter.unusedSimpArgs false
abbrev IsRc (w : World) (b : Nat) (s : Cp) : Prop := Blk w b s.cells 45
section
variable (b : Nat) (s : Cp) (w : World) (h : IsRc w b s)
include h
theorem RPeer_calls (i : Int) (hi : 0 ≤ i) : Calls Try.prog 21 #[.pointer (some ⟨b, 0, none⟩), .int .u8 i] w fun e w' => e = .returned (.int .u8 (s.peer i)) ∧ w = w' := by
  have h0 := h.cell 0
  have h1 := h.cell 1
  have h3 := h.cell 3
  have h4 := h.cell 4
  have h5 := h.cell 5
  have h6 := h.cell 6
  simp only [Cp.cells, List.getElem?_cons_succ, List.getElem?_cons_zero] at h0 h1 h3 h4 h5 h6
  clear h
  have hp : s.peer i = if i = s.id then s.epoch else if i ≥ 4 then 0 else if i = 0 then s.p0 else if i = 1 then s.p1 else if i = 2 then s.p2 else s.p3 := rfl
  by_cases c1 : i = s.id
  · rw [if_pos c1] at hp
    rw [hp]; clear hp
    have c1b : (i == s.id) = true := beq_iff_eq.2 c1
    clear c1
    go_enter Try.func21, Try.ntmps21
    go_wp2
    go_ret
    exact ⟨rfl, rfl⟩
  · rw [if_neg c1] at hp
    have c1b : (i == s.id) = false := beq_eq_false_iff_ne.2 c1
    clear c1
    by_cases c2 : i ≥ 4
    · rw [if_pos c2] at hp
      rw [hp]; clear hp
      go_enter Try.func21, Try.ntmps21
      go_wp2
      go_ret
      exact ⟨rfl, rfl⟩
    · rw [if_neg c2] at hp
      rw [hp]; clear hp
      have c3 : i = 0 ∨ i = 1 ∨ i = 2 ∨ i = 3 := by omega
      rcases c3 with rfl | rfl | rfl | rfl
      all_goals
        go_enter Try.func21, Try.ntmps21
        go_wp2
        go_ret
        exact ⟨rfl, rfl⟩
theorem RRaise_calls (v : Int) : Calls Try.prog 19 #[.pointer (some ⟨b, 0, none⟩), .int .u32 v] w fun e' w' =>
    e' = .returned (.tuple #[]) ∧ IsRc w' b (s.raise v) ∧ Frm (· = b) w w' := by
  obtain ⟨i0, e0, v0, p0, p1, p2, p3, ht⟩ := s
  have hB := h
  have h2 := h.cell 2
  have h7 := h.cell 7
  have f := h.free
  simp only [Cp.cells, List.getElem?_cons_succ, List.getElem?_cons_zero] at h2 h7
  clear h
  have HB := hid hB; clear hB
  cases ht with
  | true =>
    go_enter Try.func19, Try.ntmps19
    go_wp2
    go_end0
    exact ⟨rfl, HB.out, Frm.refl _ _⟩
  | false =>
    have hs : (Cp.raise ⟨i0, e0, v0, p0, p1, p2, p3, false⟩ v) = ⟨i0, e0, max v0 (min v 1048576), p0, p1, p2, p3, false⟩ := rfl
    rw [hs]; clear hs
    go_enter Try.func19, Try.ntmps19
    go_wp2
    all_goals
      go_end0
      first
      | rw [show max v0 (min v 1048576) = 1048576 by omega]
      | rw [show max v0 (min v 1048576) = v0 by omega]
      | rw [show max v0 (min v 1048576) = v by omega]
      exact ⟨rfl, HB.out.setCell _ _, (Frm.refl _ _).setCell _ _ (.inr rfl)⟩
theorem RNext_calls (he0 : 0 ≤ s.epoch) : Calls Try.prog 18 #[.pointer (some ⟨b, 0, none⟩)] w fun e' w' =>
    e' = .returned (.bool !s.ends) ∧ IsRc w' b s.next ∧ Frm (· = b) w w' := by
  have hB := h
  have h1 := h.cell 1
  have h7 := h.cell 7
  have f := h.free
  simp only [Cp.cells, List.getElem?_cons_succ, List.getElem?_cons_zero] at h1 h7
  have hs : s.next = if s.ends = true then { s with halted := true } else { s with epoch := s.epoch + 1 } := rfl
  have he : s.ends = (s.halted || decide (s.epoch ≥ 200)) := rfl
  clear h
  have HB := hid hB; clear hB
  cases c0 : s.halted with
  | true =>
    rw [c0] at he h7; simp only [Bool.true_or] at he
    rw [he, if_pos rfl] at hs
    rw [he, hs]; clear hs c0 he
    go_enter Try.func18, Try.ntmps18
    go_wp2
    go_ret
    exact ⟨rfl, HB.out.setCell _ _, (Frm.refl _ _).setCell _ _ (.inr rfl)⟩
  | false =>
    rw [c0] at he h7; simp only [Bool.false_or] at he
    clear c0
    by_cases c1 : s.epoch ≥ 200
    · rw [decide_eq_true c1] at he
      rw [he, if_pos rfl] at hs
      rw [he, hs]; clear hs he
      go_enter Try.func18, Try.ntmps18
      go_wp2
      go_ret
      exact ⟨rfl, HB.out.setCell _ _, (Frm.refl _ _).setCell _ _ (.inr rfl)⟩
    · rw [decide_eq_false c1] at he
      rw [he, if_neg (by decide)] at hs
      rw [he, hs]; clear hs he
      go_enter Try.func18, Try.ntmps18
      go_wp2
      go_ret
      exact ⟨rfl, HB.out.setCell _ _, (Frm.refl _ _).setCell _ _ (.inr rfl)⟩
theorem RMeet_calls (i e : Int) (hi : 0 ≤ i) (g0 : 0 ≤ s.p0) (g1 : 0 ≤ s.p1) (g2 : 0 ≤ s.p2) (g3 : 0 ≤ s.p3) : Calls Try.prog 20 #[.pointer (some ⟨b, 0, none⟩), .int .u8 i, .int .u8 e] w fun e' w' =>
    e' = .returned (.bool (s.meets i e)) ∧ IsRc w' b (s.met i e) ∧ Frm (· = b) w w' := by
  have hB := h
  have h0 := h.cell 0
  have h3 := h.cell 3
  have h4 := h.cell 4
  have h5 := h.cell 5
  have h6 := h.cell 6
  have h7 := h.cell 7
  have f := h.free
  simp only [Cp.cells, List.getElem?_cons_succ, List.getElem?_cons_zero] at h0 h3 h4 h5 h6 h7
  have hm : s.meets i e = !(s.halted || decide (i = s.id) || decide (i ≥ 4) || decide (e > 200) || decide (e ≤ s.peer i)) := rfl
  have hs : s.met i e = if s.meets i e = true then s.set i e else s := rfl
  clear h
  have HB := hid hB; clear hB
  cases c0 : s.halted with
  | true =>
    rw [c0] at hm h7; simp only [Bool.true_or, Bool.not_true] at hm
    rw [hm, if_neg (by decide)] at hs
    rw [hm, hs]; clear hm hs c0
    go_enter Try.func20, Try.ntmps20
    go_wp2
    go_ret
    exact ⟨rfl, HB.out, Frm.refl _ _⟩
  | false =>
    rw [c0] at hm h7; simp only [Bool.false_or] at hm
    clear c0
    by_cases c1 : i = s.id
    · rw [decide_eq_true c1] at hm; simp only [Bool.true_or, Bool.not_true] at hm
      rw [hm, if_neg (by decide)] at hs
      rw [hm, hs]; clear hm hs
      have c1b : (i == s.id) = true := beq_iff_eq.2 c1
      clear c1
      go_enter Try.func20, Try.ntmps20
      go_wp2
      go_ret
      exact ⟨rfl, HB.out, Frm.refl _ _⟩
    · rw [decide_eq_false c1] at hm; simp only [Bool.false_or] at hm
      have hp0 : ¬ i ≥ 4 → s.peer i = if i = 0 then s.p0 else if i = 1 then s.p1 else if i = 2 then s.p2 else s.p3 := fun h4 => by unfold Cp.peer; rw [if_neg c1, if_neg h4]
      have hp := hid hp0; clear hp0
      have c1b : (i == s.id) = false := beq_eq_false_iff_ne.2 c1
      clear c1
      by_cases c2 : i ≥ 4
      · rw [decide_eq_true c2] at hm; simp only [Bool.true_or, Bool.not_true] at hm
        rw [hm, if_neg (by decide)] at hs
        rw [hm, hs]; clear hm hs
        go_enter Try.func20, Try.ntmps20
        go_wp2
        go_ret
        exact ⟨rfl, HB.out, Frm.refl _ _⟩
      · rw [decide_eq_false c2] at hm; simp only [Bool.false_or] at hm
        rw [hp.out c2] at hm
        clear hp
        by_cases c3 : e > 200
        · rw [decide_eq_true c3] at hm; simp only [Bool.true_or, Bool.not_true] at hm
          rw [hm, if_neg (by decide)] at hs
          rw [hm, hs]; clear hm hs
          go_enter Try.func20, Try.ntmps20
          go_wp2
          go_ret
          exact ⟨rfl, HB.out, Frm.refl _ _⟩
        · rw [decide_eq_false c3] at hm; simp only [Bool.false_or] at hm
          have c5 : i = 0 ∨ i = 1 ∨ i = 2 ∨ i = 3 := by omega
          rcases c5 with rfl | rfl | rfl | rfl
          · replace hm : s.meets 0 e = !decide (e ≤ s.p0) := hm
            by_cases c7 : e ≤ s.p0
            · rw [decide_eq_true c7] at hm; simp only [Bool.not_true] at hm
              rw [hm, if_neg (by decide)] at hs
              rw [hm, hs]; clear hm hs
              by_cases c6 : e < 1
              all_goals
                go_enter Try.func20, Try.ntmps20
                go_wp2
                go_ret
                exact ⟨rfl, HB.out, Frm.refl _ _⟩
            · rw [decide_eq_false c7] at hm; simp only [Bool.not_false] at hm
              rw [hm, if_pos rfl] at hs
              rw [hm, hs]; clear hm hs
              have c6 : ¬ e < 1 := by omega
              go_enter Try.func20, Try.ntmps20
              go_wp2
              go_ret
              exact ⟨rfl, HB.out.setCell _ _, (Frm.refl _ _).setCell _ _ (.inr rfl)⟩
          · replace hm : s.meets 1 e = !decide (e ≤ s.p1) := hm
            by_cases c7 : e ≤ s.p1
            · rw [decide_eq_true c7] at hm; simp only [Bool.not_true] at hm
              rw [hm, if_neg (by decide)] at hs
              rw [hm, hs]; clear hm hs
              by_cases c6 : e < 1
              all_goals
                go_enter Try.func20, Try.ntmps20
                go_wp2
                go_ret
                exact ⟨rfl, HB.out, Frm.refl _ _⟩
            · rw [decide_eq_false c7] at hm; simp only [Bool.not_false] at hm
              rw [hm, if_pos rfl] at hs
              rw [hm, hs]; clear hm hs
              have c6 : ¬ e < 1 := by omega
              go_enter Try.func20, Try.ntmps20
              go_wp2
              go_ret
              exact ⟨rfl, HB.out.setCell _ _, (Frm.refl _ _).setCell _ _ (.inr rfl)⟩
          · replace hm : s.meets 2 e = !decide (e ≤ s.p2) := hm
            by_cases c7 : e ≤ s.p2
            · rw [decide_eq_true c7] at hm; simp only [Bool.not_true] at hm
              rw [hm, if_neg (by decide)] at hs
              rw [hm, hs]; clear hm hs
              by_cases c6 : e < 1
              all_goals
                go_enter Try.func20, Try.ntmps20
                go_wp2
                go_ret
                exact ⟨rfl, HB.out, Frm.refl _ _⟩
            · rw [decide_eq_false c7] at hm; simp only [Bool.not_false] at hm
              rw [hm, if_pos rfl] at hs
              rw [hm, hs]; clear hm hs
              have c6 : ¬ e < 1 := by omega
              go_enter Try.func20, Try.ntmps20
              go_wp2
              go_ret
              exact ⟨rfl, HB.out.setCell _ _, (Frm.refl _ _).setCell _ _ (.inr rfl)⟩
          · replace hm : s.meets 3 e = !decide (e ≤ s.p3) := hm
            by_cases c7 : e ≤ s.p3
            · rw [decide_eq_true c7] at hm; simp only [Bool.not_true] at hm
              rw [hm, if_neg (by decide)] at hs
              rw [hm, hs]; clear hm hs
              by_cases c6 : e < 1
              all_goals
                go_enter Try.func20, Try.ntmps20
                go_wp2
                go_ret
                exact ⟨rfl, HB.out, Frm.refl _ _⟩
            · rw [decide_eq_false c7] at hm; simp only [Bool.not_false] at hm
              rw [hm, if_pos rfl] at hs
              rw [hm, hs]; clear hm hs
              have c6 : ¬ e < 1 := by omega
              go_enter Try.func20, Try.ntmps20
              go_wp2
              go_ret
              exact ⟨rfl, HB.out.setCell _ _, (Frm.refl _ _).setCell _ _ (.inr rfl)⟩
end
theorem RNew_calls (i : Int) (w : World) : Calls Try.prog 17 #[.int .u8 i] w fun e w' =>
    ∃ b, w.heap.size ≤ b ∧ e = .returned (.pointer (some ⟨b, 0, none⟩)) ∧ IsRc w' b (cpNew i) ∧ Frm0 w w' := by
  go_enter Try.func17, Try.ntmps17
  go_wp2
  go_ret
  exact ⟨_, Nat.le_refl _, rfl, Blk.new _ _ _, (Frm.refl _ _).alloc _⟩
end Go.Proofs.Ytglpobgjakmndaa
