/- Contracts of the ledger, and of the document's: their blocks hold the same numbers. -/
import Derived.Test.YtmfklfgddblmdaaProg
import Derived.Test.YtmfklfgddblmdaaLib
import Derived.Deep.RegionWith
namespace Go.Proofs.Ytmfklfgddblmdaa
open Go.RowKit
set_option linter.unusedSimpArgs false
set_option linter.unusedVariables false
/-- Who is in it, who ever was; the most that were. -/
structure Lg where
  i0 : Bool
  i1 : Bool
  i2 : Bool
  i3 : Bool
  e0 : Bool
  e1 : Bool
  e2 : Bool
  e3 : Bool
  worst : Int
def Lg.cells (s : Lg) : List Value := [.bool s.i0, .bool s.i1, .bool s.i2, .bool s.i3, .bool s.e0, .bool s.e1, .bool s.e2, .bool s.e3, .int .i64 s.worst]
def cnt (i0 i1 i2 i3 : Bool) (k : Nat) : Int := (if 0 < k && i0 then 1 else 0) + (if 1 < k && i1 then 1 else 0) + (if 2 < k && i2 then 1 else 0) + (if 3 < k && i3 then 1 else 0)
def msk (i0 i1 i2 i3 : Bool) (k : Nat) : Int := (if 0 < k && i0 then 1 else 0) + (if 1 < k && i1 then 2 else 0) + (if 2 < k && i2 then 4 else 0) + (if 3 < k && i3 then 8 else 0)
theorem cnt_bd (i0 i1 i2 i3 : Bool) (k : Nat) : 0 ≤ cnt i0 i1 i2 i3 k ∧ cnt i0 i1 i2 i3 k ≤ 4 := by
  unfold cnt
  (repeat' split) <;> omega
def Lg.len (s : Lg) : Int := cnt s.i0 s.i1 s.i2 s.i3 4
def Lg.at_ (s : Lg) (i : Int) : Bool := if i = 0 then s.i0 else if i = 1 then s.i1 else if i = 2 then s.i2 else if i = 3 then s.i3 else false
def Lg.put (s : Lg) (i : Int) : Lg := if i = 0 then { s with i0 := true, e0 := true } else if i = 1 then { s with i1 := true, e1 := true } else if i = 2 then { s with i2 := true, e2 := true } else { s with i3 := true, e3 := true }
def Lg.out (s : Lg) (i : Int) : Lg := if i = 0 then { s with i0 := false } else if i = 1 then { s with i1 := false } else if i = 2 then { s with i2 := false } else { s with i3 := false }
def Lg.begins (s : Lg) (i : Int) : Bool := decide (i < 4) && !s.at_ i
def Lg.begun (s : Lg) (i : Int) : Lg := if s.begins i = true then { s.put i with worst := max s.worst (s.put i).len } else s
def Lg.ended (s : Lg) (i : Int) : Lg := if s.at_ i = true then s.out i else s
def lgNew : Lg := ⟨false, false, false, false, false, false, false, false, 0⟩
set_option maxHeartbeats 4000000 in
theorem bits_calls (i0 i1 i2 i3 : Bool) (w : World) : Calls Try.prog 18 #[.agg #[.bool i0, .bool i1, .bool i2, .bool i3]] w fun e w' => e = .returned (.int .u8 (msk i0 i1 i2 i3 4)) ∧ Frm0 w w' := by
  go_enter Try.func18, Try.ntmps18
  go_wp2
  go_loopw [3, 7] (fun n i wr => ∃ k : Nat, k ≤ 4 ∧ i = .int .i64 k ∧ n = .int .u8 (msk i0 i1 i2 i3 k) ∧ wr = w.alloc (.cells #[.bool i0, .bool i1, .bool i2, .bool i3] 27)) (fun _ i _ => 4 - (intOf i).toNat)
  case atStart => exact ⟨0, by omega, rfl, by simp [msk], rfl⟩
  case round =>
    obtain ⟨k, hk, rfl, rfl, rfl⟩ := hrel
    have hk' : k = 0 ∨ k = 1 ∨ k = 2 ∨ k = 3 ∨ k = 4 := by omega
    rcases hk' with rfl | rfl | rfl | rfl | rfl
    · have x0 : ∀ (w : World), Sem.run Try.prog (Instr.index 27 (.agg #[.bool i0, .bool i1, .bool i2, .bool i3]) (.int .i64 0)) w = .ok (.bool i0) w := fun _ => by kernel_rfl
      have hm : msk i0 i1 i2 i3 1 = (if i0 then Go.bits .or .u8 (msk i0 i1 i2 i3 0) 1 else msk i0 i1 i2 i3 0) := by cases i0 <;> cases i1 <;> cases i2 <;> cases i3 <;> rfl
      have HN := hid hm; clear hm
      generalize msk i0 i1 i2 i3 0 = n at *
      cases i0
      all_goals
        go_wp2
        exact ⟨⟨1, by omega, rfl, by first | (rw [HN.out]; simp; done) | (rw [HN.out]; rfl), trivial⟩, by simp [intOf]⟩
    · have x0 : ∀ (w : World), Sem.run Try.prog (Instr.index 27 (.agg #[.bool i0, .bool i1, .bool i2, .bool i3]) (.int .i64 1)) w = .ok (.bool i1) w := fun _ => by kernel_rfl
      have hm : msk i0 i1 i2 i3 2 = (if i1 then Go.bits .or .u8 (msk i0 i1 i2 i3 1) 2 else msk i0 i1 i2 i3 1) := by cases i0 <;> cases i1 <;> cases i2 <;> cases i3 <;> rfl
      have HN := hid hm; clear hm
      generalize msk i0 i1 i2 i3 1 = n at *
      cases i1
      all_goals
        go_wp2
        exact ⟨⟨2, by omega, rfl, by first | (rw [HN.out]; simp; done) | (rw [HN.out]; rfl), trivial⟩, by simp [intOf]⟩
    · have x0 : ∀ (w : World), Sem.run Try.prog (Instr.index 27 (.agg #[.bool i0, .bool i1, .bool i2, .bool i3]) (.int .i64 2)) w = .ok (.bool i2) w := fun _ => by kernel_rfl
      have hm : msk i0 i1 i2 i3 3 = (if i2 then Go.bits .or .u8 (msk i0 i1 i2 i3 2) 4 else msk i0 i1 i2 i3 2) := by cases i0 <;> cases i1 <;> cases i2 <;> cases i3 <;> rfl
      have HN := hid hm; clear hm
      generalize msk i0 i1 i2 i3 2 = n at *
      cases i2
      all_goals
        go_wp2
        exact ⟨⟨3, by omega, rfl, by first | (rw [HN.out]; simp; done) | (rw [HN.out]; rfl), trivial⟩, by simp [intOf]⟩
    · have x0 : ∀ (w : World), Sem.run Try.prog (Instr.index 27 (.agg #[.bool i0, .bool i1, .bool i2, .bool i3]) (.int .i64 3)) w = .ok (.bool i3) w := fun _ => by kernel_rfl
      have hm : msk i0 i1 i2 i3 4 = (if i3 then Go.bits .or .u8 (msk i0 i1 i2 i3 3) 8 else msk i0 i1 i2 i3 3) := by cases i0 <;> cases i1 <;> cases i2 <;> cases i3 <;> rfl
      have HN := hid hm; clear hm
      generalize msk i0 i1 i2 i3 3 = n at *
      cases i3
      all_goals
        go_wp2
        exact ⟨⟨4, by omega, rfl, by first | (rw [HN.out]; simp; done) | (rw [HN.out]; rfl), trivial⟩, by simp [intOf]⟩
    · go_wp2
      go_ret
      exact ⟨rfl, (Frm.refl _ _).alloc _⟩
set_option maxHeartbeats 4000000 in
theorem mask_calls (i0 i1 i2 i3 : Bool) (w : World) : Calls Try.prog 16 #[.agg #[.bool i0, .bool i1, .bool i2, .bool i3]] w fun e w' => e = .returned (.int .u8 (msk i0 i1 i2 i3 4)) ∧ Frm0 w w' := by
  go_enter Try.func16, Try.ntmps16
  go_wp2
  go_loopw [3, 4] (fun n i wr => ∃ k : Nat, k ≤ 4 ∧ i = .int .i64 k ∧ n = .int .u8 (msk i0 i1 i2 i3 k) ∧ wr = w.alloc (.cells #[.bool i0, .bool i1, .bool i2, .bool i3] 27)) (fun _ i _ => 4 - (intOf i).toNat)
  case atStart => exact ⟨0, by omega, rfl, by simp [msk], rfl⟩
  case round =>
    obtain ⟨k, hk, rfl, rfl, rfl⟩ := hrel
    have hk' : k = 0 ∨ k = 1 ∨ k = 2 ∨ k = 3 ∨ k = 4 := by omega
    rcases hk' with rfl | rfl | rfl | rfl | rfl
    · have hm : msk i0 i1 i2 i3 1 = (if i0 then Go.bits .or .u8 (msk i0 i1 i2 i3 0) 1 else msk i0 i1 i2 i3 0) := by cases i0 <;> cases i1 <;> cases i2 <;> cases i3 <;> rfl
      have HN := hid hm; clear hm
      generalize msk i0 i1 i2 i3 0 = n at *
      cases i0
      all_goals
        go_wp2
        exact ⟨⟨1, by omega, rfl, by first | (rw [HN.out]; simp; done) | (rw [HN.out]; rfl), trivial⟩, by simp [intOf]⟩
    · have hm : msk i0 i1 i2 i3 2 = (if i1 then Go.bits .or .u8 (msk i0 i1 i2 i3 1) 2 else msk i0 i1 i2 i3 1) := by cases i0 <;> cases i1 <;> cases i2 <;> cases i3 <;> rfl
      have HN := hid hm; clear hm
      generalize msk i0 i1 i2 i3 1 = n at *
      cases i1
      all_goals
        go_wp2
        exact ⟨⟨2, by omega, rfl, by first | (rw [HN.out]; simp; done) | (rw [HN.out]; rfl), trivial⟩, by simp [intOf]⟩
    · have hm : msk i0 i1 i2 i3 3 = (if i2 then Go.bits .or .u8 (msk i0 i1 i2 i3 2) 4 else msk i0 i1 i2 i3 2) := by cases i0 <;> cases i1 <;> cases i2 <;> cases i3 <;> rfl
      have HN := hid hm; clear hm
      generalize msk i0 i1 i2 i3 2 = n at *
      cases i2
      all_goals
        go_wp2
        exact ⟨⟨3, by omega, rfl, by first | (rw [HN.out]; simp; done) | (rw [HN.out]; rfl), trivial⟩, by simp [intOf]⟩
    · have hm : msk i0 i1 i2 i3 4 = (if i3 then Go.bits .or .u8 (msk i0 i1 i2 i3 3) 8 else msk i0 i1 i2 i3 3) := by cases i0 <;> cases i1 <;> cases i2 <;> cases i3 <;> rfl
      have HN := hid hm; clear hm
      generalize msk i0 i1 i2 i3 3 = n at *
      cases i3
      all_goals
        go_wp2
        exact ⟨⟨4, by omega, rfl, by first | (rw [HN.out]; simp; done) | (rw [HN.out]; rfl), trivial⟩, by simp [intOf]⟩
    · go_wp2
      go_ret
      exact ⟨rfl, (Frm.refl _ _).alloc _⟩
abbrev IsLg (w : World) (b : Nat) (s : Lg) : Prop := Blk w b s.cells 41
section
variable (b : Nat) (s : Lg) (w : World) (h : IsLg w b s)
include h
theorem Len_calls : Calls Try.prog 12 #[.pointer (some ⟨b, 0, none⟩)] w fun e w' => e = .returned (.int .i64 s.len) ∧ w = w' := by
  obtain ⟨i0, i1, i2, i3, e0, e1, e2, e3, wo⟩ := s
  have c0 := h.cell 0
  have c1 := h.cell 1
  have c2 := h.cell 2
  have c3 := h.cell 3
  have c4 := h.cell 4
  have c5 := h.cell 5
  have c6 := h.cell 6
  have c7 := h.cell 7
  have c8 := h.cell 8
  simp only [Lg.cells, List.getElem?_cons_succ, List.getElem?_cons_zero] at c0 c1 c2 c3 c4 c5 c6 c7 c8
  clear h c4 c5 c6 c7 c8
  go_enter Try.func12, Try.ntmps12
  go_wp2
  clear c0 c1 c2 c3
  go_loopw [3, 10] (fun n i wr => ∃ k : Nat, k ≤ 4 ∧ i = .int .i64 k ∧ n = .int .i64 (cnt i0 i1 i2 i3 k) ∧ wr = w) (fun _ i _ => 4 - (intOf i).toNat)
  case atStart => exact ⟨0, by omega, rfl, by simp [cnt], rfl⟩
  case round =>
    obtain ⟨k, hk, rfl, rfl, rfl⟩ := hrel
    have hk' : k = 0 ∨ k = 1 ∨ k = 2 ∨ k = 3 ∨ k = 4 := by omega
    rcases hk' with rfl | rfl | rfl | rfl | rfl
    · have hb := cnt_bd i0 i1 i2 i3 0
      have hn : cnt i0 i1 i2 i3 1 = cnt i0 i1 i2 i3 0 + (if i0 then 1 else 0) := by simp [cnt]
      have x0 : ∀ (w : World), Sem.run Try.prog (Instr.index 27 (.agg #[.bool i0, .bool i1, .bool i2, .bool i3]) (.int .i64 0)) w = .ok (.bool i0) w := fun _ => by kernel_rfl
      have HN := hid hn; clear hn
      generalize cnt i0 i1 i2 i3 0 = n at *
      cases i0
      all_goals
        go_wp2
        go_roundw
        case rel => first | exact ⟨1, by omega, rfl, by first | (rw [HN.out]; simp; done) | (rw [HN.out]; done), rfl⟩ | exact ⟨1, by omega, rfl, by first | (rw [HN.out]; simp; done) | (rw [HN.out]; done), trivial⟩
        case measure => simp [intOf]
    · have hb := cnt_bd i0 i1 i2 i3 1
      have hn : cnt i0 i1 i2 i3 2 = cnt i0 i1 i2 i3 1 + (if i1 then 1 else 0) := by simp [cnt]
      have x0 : ∀ (w : World), Sem.run Try.prog (Instr.index 27 (.agg #[.bool i0, .bool i1, .bool i2, .bool i3]) (.int .i64 1)) w = .ok (.bool i1) w := fun _ => by kernel_rfl
      have HN := hid hn; clear hn
      generalize cnt i0 i1 i2 i3 1 = n at *
      cases i1
      all_goals
        go_wp2
        go_roundw
        case rel => first | exact ⟨2, by omega, rfl, by first | (rw [HN.out]; simp; done) | (rw [HN.out]; done), rfl⟩ | exact ⟨2, by omega, rfl, by first | (rw [HN.out]; simp; done) | (rw [HN.out]; done), trivial⟩
        case measure => simp [intOf]
    · have hb := cnt_bd i0 i1 i2 i3 2
      have hn : cnt i0 i1 i2 i3 3 = cnt i0 i1 i2 i3 2 + (if i2 then 1 else 0) := by simp [cnt]
      have x0 : ∀ (w : World), Sem.run Try.prog (Instr.index 27 (.agg #[.bool i0, .bool i1, .bool i2, .bool i3]) (.int .i64 2)) w = .ok (.bool i2) w := fun _ => by kernel_rfl
      have HN := hid hn; clear hn
      generalize cnt i0 i1 i2 i3 2 = n at *
      cases i2
      all_goals
        go_wp2
        go_roundw
        case rel => first | exact ⟨3, by omega, rfl, by first | (rw [HN.out]; simp; done) | (rw [HN.out]; done), rfl⟩ | exact ⟨3, by omega, rfl, by first | (rw [HN.out]; simp; done) | (rw [HN.out]; done), trivial⟩
        case measure => simp [intOf]
    · have hb := cnt_bd i0 i1 i2 i3 3
      have hn : cnt i0 i1 i2 i3 4 = cnt i0 i1 i2 i3 3 + (if i3 then 1 else 0) := by simp [cnt]
      have x0 : ∀ (w : World), Sem.run Try.prog (Instr.index 27 (.agg #[.bool i0, .bool i1, .bool i2, .bool i3]) (.int .i64 3)) w = .ok (.bool i3) w := fun _ => by kernel_rfl
      have HN := hid hn; clear hn
      generalize cnt i0 i1 i2 i3 3 = n at *
      cases i3
      all_goals
        go_wp2
        go_roundw
        case rel => first | exact ⟨4, by omega, rfl, by first | (rw [HN.out]; simp; done) | (rw [HN.out]; done), rfl⟩ | exact ⟨4, by omega, rfl, by first | (rw [HN.out]; simp; done) | (rw [HN.out]; done), trivial⟩
        case measure => simp [intOf]
    · go_wp2
      go_ret
      exact ⟨rfl, rfl⟩
set_option maxHeartbeats 4000000 in
theorem Begin_calls (i : Int) (hi : 0 ≤ i) : Calls Try.prog 9 #[.pointer (some ⟨b, 0, none⟩), .int .u8 i] w fun e w' =>
    e = .returned (.bool (s.begins i)) ∧ IsLg w' b (s.begun i) ∧ Frm (· = b) w w' := by
  have hB := h
  have fr := h.free
  have c0 := h.cell 0
  have c1 := h.cell 1
  have c2 := h.cell 2
  have c3 := h.cell 3
  have c4 := h.cell 4
  have c5 := h.cell 5
  have c6 := h.cell 6
  have c7 := h.cell 7
  have c8 := h.cell 8
  simp only [Lg.cells, List.getElem?_cons_succ, List.getElem?_cons_zero] at c0 c1 c2 c3 c4 c5 c6 c7 c8
  clear h
  have HB := hid hB; clear hB
  have hb : s.begins i = (decide (i < 4) && !s.at_ i) := rfl
  have hs : s.begun i = if s.begins i = true then { s.put i with worst := max s.worst (s.put i).len } else s := rfl
  by_cases g : i < 4
  · rw [decide_eq_true g, Bool.true_and] at hb
    have c5' : i = 0 ∨ i = 1 ∨ i = 2 ∨ i = 3 := by omega
    rcases c5' with rfl | rfl | rfl | rfl
    · replace hb : s.begins 0 = !s.i0 := hb
      cases hk : s.i0 with
      | true =>
        rw [hk] at hb c0; simp only [Bool.not_true] at hb
        rw [hb, if_neg (by decide)] at hs
        rw [hb, hs]; clear hb hs hk
        go_enter Try.func9, Try.ntmps9
        go_wp2
        go_ret
        exact ⟨rfl, HB.out, Frm.refl _ _⟩
      | false =>
        rw [hk] at hb c0; simp only [Bool.not_false] at hb
        rw [hb, if_pos rfl] at hs
        rw [hb, hs]; clear hb hs hk
        go_enter Try.func9, Try.ntmps9
        go_wp2
        go_region
        go_wp2_with (fail)
        have G : IsLg (((w.setCell ⟨b, 0, none⟩ (.bool true)).setCell ⟨b, 4, none⟩ (.bool true)).drew) b (s.put 0) := ((HB.out.setCell 0 (.bool true)).setCell 4 (.bool true)).drew
        have G2 : Frm (· = b) w (((w.setCell ⟨b, 0, none⟩ (.bool true)).setCell ⟨b, 4, none⟩ (.bool true)).drew) := (((Frm.refl (· = b) _).setCell _ _ (.inr rfl)).setCell _ _ (.inr rfl)).drew
        generalize (((w.setCell ⟨b, 0, none⟩ (.bool true)).setCell ⟨b, 4, none⟩ (.bool true)).drew) = w1 at *
        have hw : (s.put 0).worst = s.worst := rfl
        have y8 := G.cell 8
        have fr1 := G.free
        simp only [Lg.cells, List.getElem?_cons_succ, List.getElem?_cons_zero, hw] at y8
        have hG := hid G; clear G hw
        have hG2 := hid G2; clear G2
        generalize hst : s.put 0 = st at *
        have HST := hid hst; clear hst
        clear c0 c1 c2 c3 c4 c5 c6 c7 c8 fr HB
        have e1 : (if s.worst < st.len then st.len else s.worst) = max s.worst st.len := by split <;> omega
        generalize hmx : max s.worst st.len = mx at *
        have HMX := hid hmx; clear hmx
        go_region_with ((go_at_call 12; (with_reducible refine (Len_calls b st _ hG.out.drew).mono ?_); rintro e w' ⟨rfl, rfl⟩))
        all_goals
          go_wp2
          go_ret
          exact ⟨rfl, by rw [← HST.out] at hG; rw [← HST.out] at HMX; rw [HMX.out]; exact (hG.out.drew.setCell 8 (.int .i64 mx)), hG2.out.drew.setCell _ _ (.inr rfl)⟩
    · replace hb : s.begins 1 = !s.i1 := hb
      cases hk : s.i1 with
      | true =>
        rw [hk] at hb c1; simp only [Bool.not_true] at hb
        rw [hb, if_neg (by decide)] at hs
        rw [hb, hs]; clear hb hs hk
        go_enter Try.func9, Try.ntmps9
        go_wp2
        go_ret
        exact ⟨rfl, HB.out, Frm.refl _ _⟩
      | false =>
        rw [hk] at hb c1; simp only [Bool.not_false] at hb
        rw [hb, if_pos rfl] at hs
        rw [hb, hs]; clear hb hs hk
        go_enter Try.func9, Try.ntmps9
        go_wp2
        go_region
        go_wp2_with (fail)
        have G : IsLg (((w.setCell ⟨b, 1, none⟩ (.bool true)).setCell ⟨b, 5, none⟩ (.bool true)).drew) b (s.put 1) := ((HB.out.setCell 1 (.bool true)).setCell 5 (.bool true)).drew
        have G2 : Frm (· = b) w (((w.setCell ⟨b, 1, none⟩ (.bool true)).setCell ⟨b, 5, none⟩ (.bool true)).drew) := (((Frm.refl (· = b) _).setCell _ _ (.inr rfl)).setCell _ _ (.inr rfl)).drew
        generalize (((w.setCell ⟨b, 1, none⟩ (.bool true)).setCell ⟨b, 5, none⟩ (.bool true)).drew) = w1 at *
        have hw : (s.put 1).worst = s.worst := rfl
        have y8 := G.cell 8
        have fr1 := G.free
        simp only [Lg.cells, List.getElem?_cons_succ, List.getElem?_cons_zero, hw] at y8
        have hG := hid G; clear G hw
        have hG2 := hid G2; clear G2
        generalize hst : s.put 1 = st at *
        have HST := hid hst; clear hst
        clear c0 c1 c2 c3 c4 c5 c6 c7 c8 fr HB
        have e1 : (if s.worst < st.len then st.len else s.worst) = max s.worst st.len := by split <;> omega
        generalize hmx : max s.worst st.len = mx at *
        have HMX := hid hmx; clear hmx
        go_region_with ((go_at_call 12; (with_reducible refine (Len_calls b st _ hG.out.drew).mono ?_); rintro e w' ⟨rfl, rfl⟩))
        all_goals
          go_wp2
          go_ret
          exact ⟨rfl, by rw [← HST.out] at hG; rw [← HST.out] at HMX; rw [HMX.out]; exact (hG.out.drew.setCell 8 (.int .i64 mx)), hG2.out.drew.setCell _ _ (.inr rfl)⟩
    · replace hb : s.begins 2 = !s.i2 := hb
      cases hk : s.i2 with
      | true =>
        rw [hk] at hb c2; simp only [Bool.not_true] at hb
        rw [hb, if_neg (by decide)] at hs
        rw [hb, hs]; clear hb hs hk
        go_enter Try.func9, Try.ntmps9
        go_wp2
        go_ret
        exact ⟨rfl, HB.out, Frm.refl _ _⟩
      | false =>
        rw [hk] at hb c2; simp only [Bool.not_false] at hb
        rw [hb, if_pos rfl] at hs
        rw [hb, hs]; clear hb hs hk
        go_enter Try.func9, Try.ntmps9
        go_wp2
        go_region
        go_wp2_with (fail)
        have G : IsLg (((w.setCell ⟨b, 2, none⟩ (.bool true)).setCell ⟨b, 6, none⟩ (.bool true)).drew) b (s.put 2) := ((HB.out.setCell 2 (.bool true)).setCell 6 (.bool true)).drew
        have G2 : Frm (· = b) w (((w.setCell ⟨b, 2, none⟩ (.bool true)).setCell ⟨b, 6, none⟩ (.bool true)).drew) := (((Frm.refl (· = b) _).setCell _ _ (.inr rfl)).setCell _ _ (.inr rfl)).drew
        generalize (((w.setCell ⟨b, 2, none⟩ (.bool true)).setCell ⟨b, 6, none⟩ (.bool true)).drew) = w1 at *
        have hw : (s.put 2).worst = s.worst := rfl
        have y8 := G.cell 8
        have fr1 := G.free
        simp only [Lg.cells, List.getElem?_cons_succ, List.getElem?_cons_zero, hw] at y8
        have hG := hid G; clear G hw
        have hG2 := hid G2; clear G2
        generalize hst : s.put 2 = st at *
        have HST := hid hst; clear hst
        clear c0 c1 c2 c3 c4 c5 c6 c7 c8 fr HB
        have e1 : (if s.worst < st.len then st.len else s.worst) = max s.worst st.len := by split <;> omega
        generalize hmx : max s.worst st.len = mx at *
        have HMX := hid hmx; clear hmx
        go_region_with ((go_at_call 12; (with_reducible refine (Len_calls b st _ hG.out.drew).mono ?_); rintro e w' ⟨rfl, rfl⟩))
        all_goals
          go_wp2
          go_ret
          exact ⟨rfl, by rw [← HST.out] at hG; rw [← HST.out] at HMX; rw [HMX.out]; exact (hG.out.drew.setCell 8 (.int .i64 mx)), hG2.out.drew.setCell _ _ (.inr rfl)⟩
    · replace hb : s.begins 3 = !s.i3 := hb
      cases hk : s.i3 with
      | true =>
        rw [hk] at hb c3; simp only [Bool.not_true] at hb
        rw [hb, if_neg (by decide)] at hs
        rw [hb, hs]; clear hb hs hk
        go_enter Try.func9, Try.ntmps9
        go_wp2
        go_ret
        exact ⟨rfl, HB.out, Frm.refl _ _⟩
      | false =>
        rw [hk] at hb c3; simp only [Bool.not_false] at hb
        rw [hb, if_pos rfl] at hs
        rw [hb, hs]; clear hb hs hk
        go_enter Try.func9, Try.ntmps9
        go_wp2
        go_region
        go_wp2_with (fail)
        have G : IsLg (((w.setCell ⟨b, 3, none⟩ (.bool true)).setCell ⟨b, 7, none⟩ (.bool true)).drew) b (s.put 3) := ((HB.out.setCell 3 (.bool true)).setCell 7 (.bool true)).drew
        have G2 : Frm (· = b) w (((w.setCell ⟨b, 3, none⟩ (.bool true)).setCell ⟨b, 7, none⟩ (.bool true)).drew) := (((Frm.refl (· = b) _).setCell _ _ (.inr rfl)).setCell _ _ (.inr rfl)).drew
        generalize (((w.setCell ⟨b, 3, none⟩ (.bool true)).setCell ⟨b, 7, none⟩ (.bool true)).drew) = w1 at *
        have hw : (s.put 3).worst = s.worst := rfl
        have y8 := G.cell 8
        have fr1 := G.free
        simp only [Lg.cells, List.getElem?_cons_succ, List.getElem?_cons_zero, hw] at y8
        have hG := hid G; clear G hw
        have hG2 := hid G2; clear G2
        generalize hst : s.put 3 = st at *
        have HST := hid hst; clear hst
        clear c0 c1 c2 c3 c4 c5 c6 c7 c8 fr HB
        have e1 : (if s.worst < st.len then st.len else s.worst) = max s.worst st.len := by split <;> omega
        generalize hmx : max s.worst st.len = mx at *
        have HMX := hid hmx; clear hmx
        go_region_with ((go_at_call 12; (with_reducible refine (Len_calls b st _ hG.out.drew).mono ?_); rintro e w' ⟨rfl, rfl⟩))
        all_goals
          go_wp2
          go_ret
          exact ⟨rfl, by rw [← HST.out] at hG; rw [← HST.out] at HMX; rw [HMX.out]; exact (hG.out.drew.setCell 8 (.int .i64 mx)), hG2.out.drew.setCell _ _ (.inr rfl)⟩
  · rw [decide_eq_false g, Bool.false_and] at hb
    rw [hb, if_neg (by decide)] at hs
    rw [hb, hs]; clear hb hs
    go_enter Try.func9, Try.ntmps9
    go_wp2
    go_ret
    exact ⟨rfl, HB.out, Frm.refl _ _⟩
theorem End_calls (i : Int) (hi : 0 ≤ i) : Calls Try.prog 7 #[.pointer (some ⟨b, 0, none⟩), .int .u8 i] w fun e w' =>
    e = .returned (.bool (s.at_ i)) ∧ IsLg w' b (s.ended i) ∧ Frm (· = b) w w' := by
  have hB := h
  have fr := h.free
  have c0 := h.cell 0
  have c1 := h.cell 1
  have c2 := h.cell 2
  have c3 := h.cell 3
  have c4 := h.cell 4
  have c5 := h.cell 5
  have c6 := h.cell 6
  have c7 := h.cell 7
  have c8 := h.cell 8
  simp only [Lg.cells, List.getElem?_cons_succ, List.getElem?_cons_zero] at c0 c1 c2 c3 c4 c5 c6 c7 c8
  clear h
  have HB := hid hB; clear hB
  have hs : s.ended i = if s.at_ i = true then s.out i else s := rfl
  by_cases g : i < 4
  · have c5' : i = 0 ∨ i = 1 ∨ i = 2 ∨ i = 3 := by omega
    rcases c5' with rfl | rfl | rfl | rfl
    · have hb : s.at_ 0 = s.i0 := rfl
      cases hk : s.i0 with
      | true =>
        rw [hk] at hb c0
        rw [hb, if_pos rfl] at hs
        rw [hb, hs]; clear hb hs hk
        go_enter Try.func7, Try.ntmps7
        go_wp2
        go_ret
        exact ⟨rfl, HB.out.setCell _ _, (Frm.refl _ _).setCell _ _ (.inr rfl)⟩
      | false =>
        rw [hk] at hb c0
        rw [hb, if_neg (by decide)] at hs
        rw [hb, hs]; clear hb hs hk
        go_enter Try.func7, Try.ntmps7
        go_wp2
        go_ret
        exact ⟨rfl, HB.out, Frm.refl _ _⟩
    · have hb : s.at_ 1 = s.i1 := rfl
      cases hk : s.i1 with
      | true =>
        rw [hk] at hb c1
        rw [hb, if_pos rfl] at hs
        rw [hb, hs]; clear hb hs hk
        go_enter Try.func7, Try.ntmps7
        go_wp2
        go_ret
        exact ⟨rfl, HB.out.setCell _ _, (Frm.refl _ _).setCell _ _ (.inr rfl)⟩
      | false =>
        rw [hk] at hb c1
        rw [hb, if_neg (by decide)] at hs
        rw [hb, hs]; clear hb hs hk
        go_enter Try.func7, Try.ntmps7
        go_wp2
        go_ret
        exact ⟨rfl, HB.out, Frm.refl _ _⟩
    · have hb : s.at_ 2 = s.i2 := rfl
      cases hk : s.i2 with
      | true =>
        rw [hk] at hb c2
        rw [hb, if_pos rfl] at hs
        rw [hb, hs]; clear hb hs hk
        go_enter Try.func7, Try.ntmps7
        go_wp2
        go_ret
        exact ⟨rfl, HB.out.setCell _ _, (Frm.refl _ _).setCell _ _ (.inr rfl)⟩
      | false =>
        rw [hk] at hb c2
        rw [hb, if_neg (by decide)] at hs
        rw [hb, hs]; clear hb hs hk
        go_enter Try.func7, Try.ntmps7
        go_wp2
        go_ret
        exact ⟨rfl, HB.out, Frm.refl _ _⟩
    · have hb : s.at_ 3 = s.i3 := rfl
      cases hk : s.i3 with
      | true =>
        rw [hk] at hb c3
        rw [hb, if_pos rfl] at hs
        rw [hb, hs]; clear hb hs hk
        go_enter Try.func7, Try.ntmps7
        go_wp2
        go_ret
        exact ⟨rfl, HB.out.setCell _ _, (Frm.refl _ _).setCell _ _ (.inr rfl)⟩
      | false =>
        rw [hk] at hb c3
        rw [hb, if_neg (by decide)] at hs
        rw [hb, hs]; clear hb hs hk
        go_enter Try.func7, Try.ntmps7
        go_wp2
        go_ret
        exact ⟨rfl, HB.out, Frm.refl _ _⟩
  · have hb : s.at_ i = false := by unfold Lg.at_; rw [if_neg (by omega), if_neg (by omega), if_neg (by omega), if_neg (by omega)]
    rw [hb, if_neg (by decide)] at hs
    rw [hb, hs]; clear hb hs
    go_enter Try.func7, Try.ntmps7
    go_wp2
    go_ret
    exact ⟨rfl, HB.out, Frm.refl _ _⟩
theorem In_calls (i : Int) (hi : 0 ≤ i) : Calls Try.prog 11 #[.pointer (some ⟨b, 0, none⟩), .int .u8 i] w fun e w' => e = .returned (.bool (s.at_ i)) ∧ w = w' := by
  have c0 := h.cell 0
  have c1 := h.cell 1
  have c2 := h.cell 2
  have c3 := h.cell 3
  have c4 := h.cell 4
  have c5 := h.cell 5
  have c6 := h.cell 6
  have c7 := h.cell 7
  have c8 := h.cell 8
  simp only [Lg.cells, List.getElem?_cons_succ, List.getElem?_cons_zero] at c0 c1 c2 c3 c4 c5 c6 c7 c8
  clear h
  by_cases g : i < 4
  · have c5' : i = 0 ∨ i = 1 ∨ i = 2 ∨ i = 3 := by omega
    rcases c5' with rfl | rfl | rfl | rfl
    all_goals
      go_enter Try.func11, Try.ntmps11
      go_wp2
      go_ret
      exact ⟨rfl, rfl⟩
  · have hb : s.at_ i = false := by unfold Lg.at_; rw [if_neg (by omega), if_neg (by omega), if_neg (by omega), if_neg (by omega)]
    rw [hb]; clear hb
    go_enter Try.func11, Try.ntmps11
    go_wp2
    go_ret
    exact ⟨rfl, rfl⟩
theorem Worst_calls : Calls Try.prog 14 #[.pointer (some ⟨b, 0, none⟩)] w fun e w' => e = .returned (.int .i64 s.worst) ∧ w = w' := by
  have c0 := h.cell 0
  have c1 := h.cell 1
  have c2 := h.cell 2
  have c3 := h.cell 3
  have c4 := h.cell 4
  have c5 := h.cell 5
  have c6 := h.cell 6
  have c7 := h.cell 7
  have c8 := h.cell 8
  simp only [Lg.cells, List.getElem?_cons_succ, List.getElem?_cons_zero] at c0 c1 c2 c3 c4 c5 c6 c7 c8
  clear h
  go_enter Try.func14, Try.ntmps14
  go_wp2
  go_ret
  exact ⟨rfl, rfl⟩
theorem Mask_calls : Calls Try.prog 15 #[.pointer (some ⟨b, 0, none⟩)] w fun e w' => e = .returned (.int .u8 (msk s.i0 s.i1 s.i2 s.i3 4)) ∧ Frm0 w w' := by
  have c0 := h.cell 0
  have c1 := h.cell 1
  have c2 := h.cell 2
  have c3 := h.cell 3
  have c4 := h.cell 4
  have c5 := h.cell 5
  have c6 := h.cell 6
  have c7 := h.cell 7
  have c8 := h.cell 8
  simp only [Lg.cells, List.getElem?_cons_succ, List.getElem?_cons_zero] at c0 c1 c2 c3 c4 c5 c6 c7 c8
  clear h
  go_enter Try.func15, Try.ntmps15
  go_wp2_with (go_at_call 18; (with_reducible refine (bits_calls _ _ _ _ _).mono ?_); rintro e w' ⟨rfl, f'⟩)
  go_ret
  exact ⟨rfl, f'⟩
theorem Ever_calls : Calls Try.prog 17 #[.pointer (some ⟨b, 0, none⟩)] w fun e w' => e = .returned (.int .u8 (msk s.e0 s.e1 s.e2 s.e3 4)) ∧ Frm0 w w' := by
  have c0 := h.cell 0
  have c1 := h.cell 1
  have c2 := h.cell 2
  have c3 := h.cell 3
  have c4 := h.cell 4
  have c5 := h.cell 5
  have c6 := h.cell 6
  have c7 := h.cell 7
  have c8 := h.cell 8
  simp only [Lg.cells, List.getElem?_cons_succ, List.getElem?_cons_zero] at c0 c1 c2 c3 c4 c5 c6 c7 c8
  clear h
  go_enter Try.func17, Try.ntmps17
  go_wp2_with (go_at_call 18; (with_reducible refine (bits_calls _ _ _ _ _).mono ?_); rintro e w' ⟨rfl, f'⟩)
  go_ret
  exact ⟨rfl, f'⟩
end
theorem LNew_calls (w : World) : Calls Try.prog 6 #[] w fun e w' =>
    ∃ b, w.heap.size ≤ b ∧ e = .returned (.pointer (some ⟨b, 0, none⟩)) ∧ IsLg w' b lgNew ∧ Frm0 w w' := by
  go_enter Try.func6, Try.ntmps6
  go_wp2
  go_ret
  exact ⟨_, Nat.le_refl _, rfl, Blk.new _ _ _, (Frm.refl _ _).alloc _⟩
end Go.Proofs.Ytmfklfgddblmdaa
