/- Contracts of the coprocessor's methods: its block holds the numbers of a Lean structure; each method turns that structure alone. -/
import Derived.Test.YtglpobgjakmndaaProg
import Derived.Test.YtglpobgjakmndaaLib
namespace Go.Proofs.Ytglpobgjakmndaa
open Go.RowKit
set_option linter.unusedSimpArgs false

/-- The coprocessor as numbers. -/
structure Cp where
  id : Int
  epoch : Int
  view : Int
  p0 : Int
  p1 : Int
  p2 : Int
  p3 : Int
  halted : Bool

def Cp.cells (s : Cp) : List Value := [.int .u8 s.id, .int .u8 s.epoch, .int .u32 s.view, .int .u8 s.p0, .int .u8 s.p1, .int .u8 s.p2, .int .u8 s.p3, .bool s.halted]
def Cp.peer (s : Cp) (i : Int) : Int :=
  if i = s.id then s.epoch else if i ≥ 4 then 0 else if i = 0 then s.p0 else if i = 1 then s.p1 else if i = 2 then s.p2 else s.p3
def Cp.set (s : Cp) (i e : Int) : Cp := if i = 0 then { s with p0 := e } else if i = 1 then { s with p1 := e } else if i = 2 then { s with p2 := e } else { s with p3 := e }
def Cp.meets (s : Cp) (i e : Int) : Bool := !(s.halted || decide (i = s.id) || decide (i ≥ 4) || decide (e > 200) || decide (e ≤ s.peer i))
def Cp.met (s : Cp) (i e : Int) : Cp := if s.meets i e = true then s.set i e else s
def Cp.ends (s : Cp) : Bool := s.halted || decide (s.epoch ≥ 200)
def Cp.next (s : Cp) : Cp := if s.ends = true then { s with halted := true } else { s with epoch := s.epoch + 1 }
def Cp.raise (s : Cp) (v : Int) : Cp := if s.halted = true then s else { s with view := max s.view (min v 1048576) }
def cpNew (i : Int) : Cp := ⟨i, 1, 0, 1, 1, 1, 1, false⟩

abbrev IsCp (w : World) (b : Nat) (s : Cp) : Prop := Blk w b s.cells 48

section
variable (b : Nat) (s : Cp) (w : World) (h : IsCp w b s)
include h
theorem Epoch_calls : Calls Try.prog 13 #[.pointer (some ⟨b, 0, none⟩)] w fun e w' => e = .returned (.int .u8 s.epoch) ∧ w = w' := by
  have h1 := h.cell 1
  simp only [Cp.cells, List.getElem?_cons_succ, List.getElem?_cons_zero] at h1
  clear h
  go_enter Try.func13, Try.ntmps13
  go_wp2
  go_ret
  exact ⟨rfl, rfl⟩
theorem View_calls : Calls Try.prog 12 #[.pointer (some ⟨b, 0, none⟩)] w fun e w' => e = .returned (.int .u32 s.view) ∧ w = w' := by
  have h1 := h.cell 2
  simp only [Cp.cells, List.getElem?_cons_succ, List.getElem?_cons_zero] at h1
  clear h
  go_enter Try.func12, Try.ntmps12
  go_wp2
  go_ret
  exact ⟨rfl, rfl⟩
theorem Id_calls : Calls Try.prog 14 #[.pointer (some ⟨b, 0, none⟩)] w fun e w' => e = .returned (.int .u8 s.id) ∧ w = w' := by
  have h1 := h.cell 0
  simp only [Cp.cells, List.getElem?_cons_succ, List.getElem?_cons_zero] at h1
  clear h
  go_enter Try.func14, Try.ntmps14
  go_wp2
  go_ret
  exact ⟨rfl, rfl⟩
theorem Halted_calls : Calls Try.prog 16 #[.pointer (some ⟨b, 0, none⟩)] w fun e w' => e = .returned (.bool s.halted) ∧ w = w' := by
  have h1 := h.cell 7
  simp only [Cp.cells, List.getElem?_cons_succ, List.getElem?_cons_zero] at h1
  clear h
  go_enter Try.func16, Try.ntmps16
  go_wp2
  go_ret
  exact ⟨rfl, rfl⟩
theorem Peer_calls (i : Int) (hi : 0 ≤ i) : Calls Try.prog 10 #[.pointer (some ⟨b, 0, none⟩), .int .u8 i] w fun e w' => e = .returned (.int .u8 (s.peer i)) ∧ w = w' := by
  have h0 := h.cell 0
  have h1 := h.cell 1
  have h3 := h.cell 3
  have h4 := h.cell 4
  have h5 := h.cell 5
  have h6 := h.cell 6
  simp only [Cp.cells, List.getElem?_cons_succ, List.getElem?_cons_zero] at h0 h1 h3 h4 h5 h6
  clear h
  have hp : s.peer i = if i = s.id then s.epoch else if i ≥ 4 then 0 else if i = 0 then s.p0 else if i = 1 then s.p1 else if i = 2 then s.p2 else s.p3 := rfl
  by_cases c1 : i = s.id
  · rw [if_pos c1] at hp
    rw [hp]; clear hp
    have c1b : (i == s.id) = true := beq_iff_eq.2 c1
    clear c1
    go_enter Try.func10, Try.ntmps10
    go_wp2
    go_ret
    exact ⟨rfl, rfl⟩
  · rw [if_neg c1] at hp
    have c1b : (i == s.id) = false := beq_eq_false_iff_ne.2 c1
    clear c1
    by_cases c2 : i ≥ 4
    · rw [if_pos c2] at hp
      rw [hp]; clear hp
      go_enter Try.func10, Try.ntmps10
      go_wp2
      go_ret
      exact ⟨rfl, rfl⟩
    · rw [if_neg c2] at hp
      rw [hp]; clear hp
      have c3 : i = 0 ∨ i = 1 ∨ i = 2 ∨ i = 3 := by omega
      rcases c3 with rfl | rfl | rfl | rfl
      all_goals
        go_enter Try.func10, Try.ntmps10
        go_wp2
        go_ret
        exact ⟨rfl, rfl⟩
theorem Meet_calls (i e : Int) (hi : 0 ≤ i) : Calls Try.prog 9 #[.pointer (some ⟨b, 0, none⟩), .int .u8 i, .int .u8 e] w fun e' w' =>
    e' = .returned (.bool (s.meets i e)) ∧ IsCp w' b (s.met i e) ∧ Frm (· = b) w w' := by
  have hB := h
  have h0 := h.cell 0
  have h3 := h.cell 3
  have h4 := h.cell 4
  have h5 := h.cell 5
  have h6 := h.cell 6
  have h7 := h.cell 7
  have f := h.free
  simp only [Cp.cells, List.getElem?_cons_succ, List.getElem?_cons_zero] at h0 h3 h4 h5 h6 h7
  have P := Peer_calls b s w h i hi
  have hm : s.meets i e = !(s.halted || decide (i = s.id) || decide (i ≥ 4) || decide (e > 200) || decide (e ≤ s.peer i)) := rfl
  have hs : s.met i e = if s.meets i e = true then s.set i e else s := rfl
  clear h
  have HB := hid hB; clear hB
  have HP := hid P; clear P
  cases c0 : s.halted with
  | true =>
    rw [c0] at hm h7; simp only [Bool.true_or, Bool.not_true] at hm
    rw [hm, if_neg (by decide)] at hs
    rw [hm, hs]; clear hm hs c0
    go_enter Try.func9, Try.ntmps9
    go_wp2
    go_ret
    exact ⟨rfl, HB.out, Frm.refl _ _⟩
  | false =>
    rw [c0] at hm h7; simp only [Bool.false_or] at hm
    clear c0
    by_cases c1 : i = s.id
    · rw [decide_eq_true c1] at hm; simp only [Bool.true_or, Bool.not_true] at hm
      rw [hm, if_neg (by decide)] at hs
      rw [hm, hs]; clear hm hs
      have c1b : (i == s.id) = true := beq_iff_eq.2 c1
      clear c1
      go_enter Try.func9, Try.ntmps9
      go_wp2
      go_ret
      exact ⟨rfl, HB.out, Frm.refl _ _⟩
    · rw [decide_eq_false c1] at hm; simp only [Bool.false_or] at hm
      have c1b : (i == s.id) = false := beq_eq_false_iff_ne.2 c1
      clear c1
      by_cases c2 : i ≥ 4
      · rw [decide_eq_true c2] at hm; simp only [Bool.true_or, Bool.not_true] at hm
        rw [hm, if_neg (by decide)] at hs
        rw [hm, hs]; clear hm hs
        go_enter Try.func9, Try.ntmps9
        go_wp2
        go_ret
        exact ⟨rfl, HB.out, Frm.refl _ _⟩
      · rw [decide_eq_false c2] at hm; simp only [Bool.false_or] at hm
        by_cases c3 : e > 200
        · rw [decide_eq_true c3] at hm; simp only [Bool.true_or, Bool.not_true] at hm
          rw [hm, if_neg (by decide)] at hs
          rw [hm, hs]; clear hm hs
          go_enter Try.func9, Try.ntmps9
          go_wp2
          go_ret
          exact ⟨rfl, HB.out, Frm.refl _ _⟩
        · rw [decide_eq_false c3] at hm; simp only [Bool.false_or] at hm
          by_cases c4 : e ≤ s.peer i
          · rw [decide_eq_true c4] at hm; simp only [Bool.not_true] at hm
            rw [hm, if_neg (by decide)] at hs
            rw [hm, hs]; clear hm hs
            go_enter Try.func9, Try.ntmps9
            go_wp2_with (go_at_call 10; refine HP.out.mono ?_; rintro e' w' ⟨rfl, rfl⟩)
            go_ret
            exact ⟨rfl, HB.out, Frm.refl _ _⟩
          · rw [decide_eq_false c4] at hm; simp only [Bool.not_false] at hm
            rw [hm, if_pos rfl] at hs
            rw [hm, hs]; clear hm hs
            have c5 : i = 0 ∨ i = 1 ∨ i = 2 ∨ i = 3 := by omega
            rcases c5 with rfl | rfl | rfl | rfl
            all_goals
              go_enter Try.func9, Try.ntmps9
              go_wp2_with (go_at_call 10; refine HP.out.mono ?_; rintro e' w' ⟨rfl, rfl⟩)
              go_ret
              exact ⟨rfl, HB.out.setCell _ _, (Frm.refl _ _).setCell _ _ (.inr rfl)⟩
theorem Raise_calls (v : Int) : Calls Try.prog 11 #[.pointer (some ⟨b, 0, none⟩), .int .u32 v] w fun e' w' =>
    e' = .returned (.tuple #[]) ∧ IsCp w' b (s.raise v) ∧ Frm (· = b) w w' := by
  obtain ⟨i0, e0, v0, p0, p1, p2, p3, ht⟩ := s
  have hB := h
  have h2 := h.cell 2
  have h7 := h.cell 7
  have f := h.free
  simp only [Cp.cells, List.getElem?_cons_succ, List.getElem?_cons_zero] at h2 h7
  clear h
  have HB := hid hB; clear hB
  cases ht with
  | true =>
    go_enter Try.func11, Try.ntmps11
    go_wp2
    go_end0
    exact ⟨rfl, HB.out, Frm.refl _ _⟩
  | false =>
    have hs : (Cp.raise ⟨i0, e0, v0, p0, p1, p2, p3, false⟩ v) = ⟨i0, e0, max v0 (min v 1048576), p0, p1, p2, p3, false⟩ := rfl
    rw [hs]; clear hs
    go_enter Try.func11, Try.ntmps11
    go_wp2
    all_goals
      go_end0
      first
      | rw [show max v0 (min v 1048576) = 1048576 by omega]
      | rw [show max v0 (min v 1048576) = v0 by omega]
      | rw [show max v0 (min v 1048576) = v by omega]
      exact ⟨rfl, HB.out.setCell _ _, (Frm.refl _ _).setCell _ _ (.inr rfl)⟩
theorem Next_calls (he0 : 0 ≤ s.epoch) : Calls Try.prog 15 #[.pointer (some ⟨b, 0, none⟩)] w fun e' w' =>
    e' = .returned (.int .i64 (if s.ends = true then 50 else 0)) ∧ IsCp w' b s.next ∧ Frm (· = b) w w' := by
  have hB := h
  have h1 := h.cell 1
  have h7 := h.cell 7
  have f := h.free
  simp only [Cp.cells, List.getElem?_cons_succ, List.getElem?_cons_zero] at h1 h7
  have hs : s.next = if s.ends = true then { s with halted := true } else { s with epoch := s.epoch + 1 } := rfl
  have he : s.ends = (s.halted || decide (s.epoch ≥ 200)) := rfl
  clear h
  have HB := hid hB; clear hB
  cases c0 : s.halted with
  | true =>
    rw [c0] at he h7; simp only [Bool.true_or] at he
    rw [he, if_pos rfl] at hs
    rw [he, hs]; clear hs c0 he
    go_enter Try.func15, Try.ntmps15
    go_wp2
    go_ret
    exact ⟨rfl, HB.out.setCell _ _, (Frm.refl _ _).setCell _ _ (.inr rfl)⟩
  | false =>
    rw [c0] at he h7; simp only [Bool.false_or] at he
    clear c0
    by_cases c1 : s.epoch ≥ 200
    · rw [decide_eq_true c1] at he
      rw [he, if_pos rfl] at hs
      rw [he, hs]; clear hs he
      go_enter Try.func15, Try.ntmps15
      go_wp2
      go_ret
      exact ⟨rfl, HB.out.setCell _ _, (Frm.refl _ _).setCell _ _ (.inr rfl)⟩
    · rw [decide_eq_false c1] at he
      rw [he, if_neg (by decide)] at hs
      rw [he, hs]; clear hs he
      go_enter Try.func15, Try.ntmps15
      go_wp2
      go_ret
      exact ⟨rfl, HB.out.setCell _ _, (Frm.refl _ _).setCell _ _ (.inr rfl)⟩
end
theorem New_calls (i : Int) (w : World) : Calls Try.prog 8 #[.int .u8 i] w fun e w' =>
    ∃ b, w.heap.size ≤ b ∧ e = .returned (.pointer (some ⟨b, 0, none⟩)) ∧ IsCp w' b (cpNew i) ∧ Frm0 w w' := by
  go_enter Try.func8, Try.ntmps8
  go_wp2
  go_loopw [8] (fun i8 wr => ∃ k : Nat, k ≤ 4 ∧ i8 = .int .i64 k ∧ IsCp wr w.heap.size ⟨i, 1, 0, if 0 < k then 1 else 0, if 1 < k then 1 else 0, if 2 < k then 1 else 0, if 3 < k then 1 else 0, false⟩ ∧ Frm0 w wr) (fun i8 _ => 4 - (intOf i8).toNat)
  case atStart => exact ⟨0, by omega, rfl, Blk.new _ _ _, (Frm.refl _ _).alloc _⟩
  case round =>
    obtain ⟨k, hk, rfl, hb, hf⟩ := hrel
    have hsz := hb.lt
    have fr := hb.free
    have c0 := hb.cell 3
    have c1 := hb.cell 4
    have c2 := hb.cell 5
    have c3 := hb.cell 6
    simp only [Cp.cells, List.getElem?_cons_succ, List.getElem?_cons_zero] at c0 c1 c2 c3
    have HB := hid hb; clear hb
    have HF := hid hf; clear hf
    have hk' : k = 0 ∨ k = 1 ∨ k = 2 ∨ k = 3 ∨ k = 4 := by omega
    rcases hk' with rfl | rfl | rfl | rfl | rfl
    · go_wp2
      go_roundw
      case rel => exact ⟨1, by omega, rfl, HB.out.setCell _ _, HF.out.setCell _ _ (.inl (by simp))⟩
      case measure => simp [intOf]
    · go_wp2
      go_roundw
      case rel => exact ⟨2, by omega, rfl, HB.out.setCell _ _, HF.out.setCell _ _ (.inl (by simp))⟩
      case measure => simp [intOf]
    · go_wp2
      go_roundw
      case rel => exact ⟨3, by omega, rfl, HB.out.setCell _ _, HF.out.setCell _ _ (.inl (by simp))⟩
      case measure => simp [intOf]
    · go_wp2
      go_roundw
      case rel => exact ⟨4, by omega, rfl, HB.out.setCell _ _, HF.out.setCell _ _ (.inl (by simp))⟩
      case measure => simp [intOf]
    · go_wp2
      go_ret
      exact ⟨_, Nat.le_refl _, rfl, HB.out, HF.out⟩
end Go.Proofs.Ytglpobgjakmndaa
