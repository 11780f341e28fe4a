/- Contracts of the document's ledger (the reference). -/
import Derived.Test.YtmfklfgddblmdaaLedger
namespace Go.Proofs.Ytmfklfgddblmdaa
open Go.RowKit
set_option linter.unusedSimpArgs false
set_option linter.unusedVariables false
abbrev IsRl (w : World) (b : Nat) (s : Lg) : Prop := Blk w b s.cells 29
section
variable (b : Nat) (s : Lg) (w : World) (h : IsRl w b s)
include h
theorem RLen_calls : Calls Try.prog 13 #[.pointer (some ⟨b, 0, none⟩)] w fun e w' => e = .returned (.int .i64 s.len) ∧ w = w' := by
  obtain ⟨i0, i1, i2, i3, e0, e1, e2, e3, wo⟩ := s
  have c0 := h.cell 0
  have c1 := h.cell 1
  have c2 := h.cell 2
  have c3 := h.cell 3
  have c4 := h.cell 4
  have c5 := h.cell 5
  have c6 := h.cell 6
  have c7 := h.cell 7
  have c8 := h.cell 8
  simp only [Lg.cells, List.getElem?_cons_succ, List.getElem?_cons_zero] at c0 c1 c2 c3 c4 c5 c6 c7 c8
  clear h c4 c5 c6 c7 c8
  go_enter Try.func13, Try.ntmps13
  go_wp2
  go_loopw [3, 4] (fun n i wr => ∃ k : Nat, k ≤ 4 ∧ i = .int .i64 k ∧ n = .int .i64 (cnt i0 i1 i2 i3 k) ∧ wr = w) (fun _ i _ => 4 - (intOf i).toNat)
  case atStart => exact ⟨0, by omega, rfl, by simp [cnt], rfl⟩
  case round =>
    obtain ⟨k, hk, rfl, rfl, rfl⟩ := hrel
    have hk' : k = 0 ∨ k = 1 ∨ k = 2 ∨ k = 3 ∨ k = 4 := by omega
    rcases hk' with rfl | rfl | rfl | rfl | rfl
    · have hb := cnt_bd i0 i1 i2 i3 0
      have hn : cnt i0 i1 i2 i3 1 = cnt i0 i1 i2 i3 0 + (if i0 then 1 else 0) := by simp [cnt]
      have HN := hid hn; clear hn
      generalize cnt i0 i1 i2 i3 0 = n at *
      cases i0
      all_goals
        go_wp2
        go_roundw
        case rel => first | exact ⟨1, by omega, rfl, by first | (rw [HN.out]; simp; done) | (rw [HN.out]; done), rfl⟩ | exact ⟨1, by omega, rfl, by first | (rw [HN.out]; simp; done) | (rw [HN.out]; done), trivial⟩
        case measure => simp [intOf]
    · have hb := cnt_bd i0 i1 i2 i3 1
      have hn : cnt i0 i1 i2 i3 2 = cnt i0 i1 i2 i3 1 + (if i1 then 1 else 0) := by simp [cnt]
      have HN := hid hn; clear hn
      generalize cnt i0 i1 i2 i3 1 = n at *
      cases i1
      all_goals
        go_wp2
        go_roundw
        case rel => first | exact ⟨2, by omega, rfl, by first | (rw [HN.out]; simp; done) | (rw [HN.out]; done), rfl⟩ | exact ⟨2, by omega, rfl, by first | (rw [HN.out]; simp; done) | (rw [HN.out]; done), trivial⟩
        case measure => simp [intOf]
    · have hb := cnt_bd i0 i1 i2 i3 2
      have hn : cnt i0 i1 i2 i3 3 = cnt i0 i1 i2 i3 2 + (if i2 then 1 else 0) := by simp [cnt]
      have HN := hid hn; clear hn
      generalize cnt i0 i1 i2 i3 2 = n at *
      cases i2
      all_goals
        go_wp2
        go_roundw
        case rel => first | exact ⟨3, by omega, rfl, by first | (rw [HN.out]; simp; done) | (rw [HN.out]; done), rfl⟩ | exact ⟨3, by omega, rfl, by first | (rw [HN.out]; simp; done) | (rw [HN.out]; done), trivial⟩
        case measure => simp [intOf]
    · have hb := cnt_bd i0 i1 i2 i3 3
      have hn : cnt i0 i1 i2 i3 4 = cnt i0 i1 i2 i3 3 + (if i3 then 1 else 0) := by simp [cnt]
      have HN := hid hn; clear hn
      generalize cnt i0 i1 i2 i3 3 = n at *
      cases i3
      all_goals
        go_wp2
        go_roundw
        case rel => first | exact ⟨4, by omega, rfl, by first | (rw [HN.out]; simp; done) | (rw [HN.out]; done), rfl⟩ | exact ⟨4, by omega, rfl, by first | (rw [HN.out]; simp; done) | (rw [HN.out]; done), trivial⟩
        case measure => simp [intOf]
    · go_wp2
      go_ret
      exact ⟨rfl, rfl⟩
set_option maxHeartbeats 4000000 in
theorem RBegin_calls (i : Int) (hi : 0 ≤ i) : Calls Try.prog 10 #[.pointer (some ⟨b, 0, none⟩), .int .u8 i] w fun e w' =>
    e = .returned (.bool (s.begins i)) ∧ IsRl w' b (s.begun i) ∧ Frm (· = b) w w' := by
  have hB := h
  have fr := h.free
  have c0 := h.cell 0
  have c1 := h.cell 1
  have c2 := h.cell 2
  have c3 := h.cell 3
  have c4 := h.cell 4
  have c5 := h.cell 5
  have c6 := h.cell 6
  have c7 := h.cell 7
  have c8 := h.cell 8
  simp only [Lg.cells, List.getElem?_cons_succ, List.getElem?_cons_zero] at c0 c1 c2 c3 c4 c5 c6 c7 c8
  clear h
  have HB := hid hB; clear hB
  have hb : s.begins i = (decide (i < 4) && !s.at_ i) := rfl
  have hs : s.begun i = if s.begins i = true then { s.put i with worst := max s.worst (s.put i).len } else s := rfl
  by_cases g : i < 4
  · rw [decide_eq_true g, Bool.true_and] at hb
    have c5' : i = 0 ∨ i = 1 ∨ i = 2 ∨ i = 3 := by omega
    rcases c5' with rfl | rfl | rfl | rfl
    · replace hb : s.begins 0 = !s.i0 := hb
      cases hk : s.i0 with
      | true =>
        rw [hk] at hb c0; simp only [Bool.not_true] at hb
        rw [hb, if_neg (by decide)] at hs
        rw [hb, hs]; clear hb hs hk
        go_enter Try.func10, Try.ntmps10
        go_wp2
        go_ret
        exact ⟨rfl, HB.out, Frm.refl _ _⟩
      | false =>
        rw [hk] at hb c0; simp only [Bool.not_false] at hb
        rw [hb, if_pos rfl] at hs
        rw [hb, hs]; clear hb hs hk
        go_enter Try.func10, Try.ntmps10
        go_wp2
        go_region
        go_wp2_with (fail)
        have G : IsRl (((w.setCell ⟨b, 0, none⟩ (.bool true)).setCell ⟨b, 4, none⟩ (.bool true)).drew) b (s.put 0) := ((HB.out.setCell 0 (.bool true)).setCell 4 (.bool true)).drew
        have G2 : Frm (· = b) w (((w.setCell ⟨b, 0, none⟩ (.bool true)).setCell ⟨b, 4, none⟩ (.bool true)).drew) := (((Frm.refl (· = b) _).setCell _ _ (.inr rfl)).setCell _ _ (.inr rfl)).drew
        generalize (((w.setCell ⟨b, 0, none⟩ (.bool true)).setCell ⟨b, 4, none⟩ (.bool true)).drew) = w1 at *
        have hw : (s.put 0).worst = s.worst := rfl
        have y8 := G.cell 8
        have fr1 := G.free
        simp only [Lg.cells, List.getElem?_cons_succ, List.getElem?_cons_zero, hw] at y8
        have hG := hid G; clear G hw
        have hG2 := hid G2; clear G2
        generalize hst : s.put 0 = st at *
        have HST := hid hst; clear hst
        clear c0 c1 c2 c3 c4 c5 c6 c7 c8 fr HB
        have e1 : (if s.worst < st.len then st.len else s.worst) = max s.worst st.len := by split <;> omega
        generalize hmx : max s.worst st.len = mx at *
        have HMX := hid hmx; clear hmx
        go_region_with ((go_at_call 13; (with_reducible refine (RLen_calls b st _ hG.out.drew).mono ?_); rintro e w' ⟨rfl, rfl⟩))
        all_goals
          go_wp2
          go_ret
          exact ⟨rfl, by rw [← HST.out] at hG; rw [← HST.out] at HMX; rw [HMX.out]; exact (hG.out.drew.setCell 8 (.int .i64 mx)), hG2.out.drew.setCell _ _ (.inr rfl)⟩
    · replace hb : s.begins 1 = !s.i1 := hb
      cases hk : s.i1 with
      | true =>
        rw [hk] at hb c1; simp only [Bool.not_true] at hb
        rw [hb, if_neg (by decide)] at hs
        rw [hb, hs]; clear hb hs hk
        go_enter Try.func10, Try.ntmps10
        go_wp2
        go_ret
        exact ⟨rfl, HB.out, Frm.refl _ _⟩
      | false =>
        rw [hk] at hb c1; simp only [Bool.not_false] at hb
        rw [hb, if_pos rfl] at hs
        rw [hb, hs]; clear hb hs hk
        go_enter Try.func10, Try.ntmps10
        go_wp2
        go_region
        go_wp2_with (fail)
        have G : IsRl (((w.setCell ⟨b, 1, none⟩ (.bool true)).setCell ⟨b, 5, none⟩ (.bool true)).drew) b (s.put 1) := ((HB.out.setCell 1 (.bool true)).setCell 5 (.bool true)).drew
        have G2 : Frm (· = b) w (((w.setCell ⟨b, 1, none⟩ (.bool true)).setCell ⟨b, 5, none⟩ (.bool true)).drew) := (((Frm.refl (· = b) _).setCell _ _ (.inr rfl)).setCell _ _ (.inr rfl)).drew
        generalize (((w.setCell ⟨b, 1, none⟩ (.bool true)).setCell ⟨b, 5, none⟩ (.bool true)).drew) = w1 at *
        have hw : (s.put 1).worst = s.worst := rfl
        have y8 := G.cell 8
        have fr1 := G.free
        simp only [Lg.cells, List.getElem?_cons_succ, List.getElem?_cons_zero, hw] at y8
        have hG := hid G; clear G hw
        have hG2 := hid G2; clear G2
        generalize hst : s.put 1 = st at *
        have HST := hid hst; clear hst
        clear c0 c1 c2 c3 c4 c5 c6 c7 c8 fr HB
        have e1 : (if s.worst < st.len then st.len else s.worst) = max s.worst st.len := by split <;> omega
        generalize hmx : max s.worst st.len = mx at *
        have HMX := hid hmx; clear hmx
        go_region_with ((go_at_call 13; (with_reducible refine (RLen_calls b st _ hG.out.drew).mono ?_); rintro e w' ⟨rfl, rfl⟩))
        all_goals
          go_wp2
          go_ret
          exact ⟨rfl, by rw [← HST.out] at hG; rw [← HST.out] at HMX; rw [HMX.out]; exact (hG.out.drew.setCell 8 (.int .i64 mx)), hG2.out.drew.setCell _ _ (.inr rfl)⟩
    · replace hb : s.begins 2 = !s.i2 := hb
      cases hk : s.i2 with
      | true =>
        rw [hk] at hb c2; simp only [Bool.not_true] at hb
        rw [hb, if_neg (by decide)] at hs
        rw [hb, hs]; clear hb hs hk
        go_enter Try.func10, Try.ntmps10
        go_wp2
        go_ret
        exact ⟨rfl, HB.out, Frm.refl _ _⟩
      | false =>
        rw [hk] at hb c2; simp only [Bool.not_false] at hb
        rw [hb, if_pos rfl] at hs
        rw [hb, hs]; clear hb hs hk
        go_enter Try.func10, Try.ntmps10
        go_wp2
        go_region
        go_wp2_with (fail)
        have G : IsRl (((w.setCell ⟨b, 2, none⟩ (.bool true)).setCell ⟨b, 6, none⟩ (.bool true)).drew) b (s.put 2) := ((HB.out.setCell 2 (.bool true)).setCell 6 (.bool true)).drew
        have G2 : Frm (· = b) w (((w.setCell ⟨b, 2, none⟩ (.bool true)).setCell ⟨b, 6, none⟩ (.bool true)).drew) := (((Frm.refl (· = b) _).setCell _ _ (.inr rfl)).setCell _ _ (.inr rfl)).drew
        generalize (((w.setCell ⟨b, 2, none⟩ (.bool true)).setCell ⟨b, 6, none⟩ (.bool true)).drew) = w1 at *
        have hw : (s.put 2).worst = s.worst := rfl
        have y8 := G.cell 8
        have fr1 := G.free
        simp only [Lg.cells, List.getElem?_cons_succ, List.getElem?_cons_zero, hw] at y8
        have hG := hid G; clear G hw
        have hG2 := hid G2; clear G2
        generalize hst : s.put 2 = st at *
        have HST := hid hst; clear hst
        clear c0 c1 c2 c3 c4 c5 c6 c7 c8 fr HB
        have e1 : (if s.worst < st.len then st.len else s.worst) = max s.worst st.len := by split <;> omega
        generalize hmx : max s.worst st.len = mx at *
        have HMX := hid hmx; clear hmx
        go_region_with ((go_at_call 13; (with_reducible refine (RLen_calls b st _ hG.out.drew).mono ?_); rintro e w' ⟨rfl, rfl⟩))
        all_goals
          go_wp2
          go_ret
          exact ⟨rfl, by rw [← HST.out] at hG; rw [← HST.out] at HMX; rw [HMX.out]; exact (hG.out.drew.setCell 8 (.int .i64 mx)), hG2.out.drew.setCell _ _ (.inr rfl)⟩
    · replace hb : s.begins 3 = !s.i3 := hb
      cases hk : s.i3 with
      | true =>
        rw [hk] at hb c3; simp only [Bool.not_true] at hb
        rw [hb, if_neg (by decide)] at hs
        rw [hb, hs]; clear hb hs hk
        go_enter Try.func10, Try.ntmps10
        go_wp2
        go_ret
        exact ⟨rfl, HB.out, Frm.refl _ _⟩
      | false =>
        rw [hk] at hb c3; simp only [Bool.not_false] at hb
        rw [hb, if_pos rfl] at hs
        rw [hb, hs]; clear hb hs hk
        go_enter Try.func10, Try.ntmps10
        go_wp2
        go_region
        go_wp2_with (fail)
        have G : IsRl (((w.setCell ⟨b, 3, none⟩ (.bool true)).setCell ⟨b, 7, none⟩ (.bool true)).drew) b (s.put 3) := ((HB.out.setCell 3 (.bool true)).setCell 7 (.bool true)).drew
        have G2 : Frm (· = b) w (((w.setCell ⟨b, 3, none⟩ (.bool true)).setCell ⟨b, 7, none⟩ (.bool true)).drew) := (((Frm.refl (· = b) _).setCell _ _ (.inr rfl)).setCell _ _ (.inr rfl)).drew
        generalize (((w.setCell ⟨b, 3, none⟩ (.bool true)).setCell ⟨b, 7, none⟩ (.bool true)).drew) = w1 at *
        have hw : (s.put 3).worst = s.worst := rfl
        have y8 := G.cell 8
        have fr1 := G.free
        simp only [Lg.cells, List.getElem?_cons_succ, List.getElem?_cons_zero, hw] at y8
        have hG := hid G; clear G hw
        have hG2 := hid G2; clear G2
        generalize hst : s.put 3 = st at *
        have HST := hid hst; clear hst
        clear c0 c1 c2 c3 c4 c5 c6 c7 c8 fr HB
        have e1 : (if s.worst < st.len then st.len else s.worst) = max s.worst st.len := by split <;> omega
        generalize hmx : max s.worst st.len = mx at *
        have HMX := hid hmx; clear hmx
        go_region_with ((go_at_call 13; (with_reducible refine (RLen_calls b st _ hG.out.drew).mono ?_); rintro e w' ⟨rfl, rfl⟩))
        all_goals
          go_wp2
          go_ret
          exact ⟨rfl, by rw [← HST.out] at hG; rw [← HST.out] at HMX; rw [HMX.out]; exact (hG.out.drew.setCell 8 (.int .i64 mx)), hG2.out.drew.setCell _ _ (.inr rfl)⟩
  · rw [decide_eq_false g, Bool.false_and] at hb
    rw [hb, if_neg (by decide)] at hs
    rw [hb, hs]; clear hb hs
    go_enter Try.func10, Try.ntmps10
    go_wp2
    go_ret
    exact ⟨rfl, HB.out, Frm.refl _ _⟩
theorem REnd_calls (i : Int) (hi : 0 ≤ i) : Calls Try.prog 8 #[.pointer (some ⟨b, 0, none⟩), .int .u8 i] w fun e w' =>
    e = .returned (.bool (s.at_ i)) ∧ IsRl w' b (s.ended i) ∧ Frm (· = b) w w' := by
  have hB := h
  have fr := h.free
  have c0 := h.cell 0
  have c1 := h.cell 1
  have c2 := h.cell 2
  have c3 := h.cell 3
  have c4 := h.cell 4
  have c5 := h.cell 5
  have c6 := h.cell 6
  have c7 := h.cell 7
  have c8 := h.cell 8
  simp only [Lg.cells, List.getElem?_cons_succ, List.getElem?_cons_zero] at c0 c1 c2 c3 c4 c5 c6 c7 c8
  clear h
  have HB := hid hB; clear hB
  have hs : s.ended i = if s.at_ i = true then s.out i else s := rfl
  by_cases g : i < 4
  · have c5' : i = 0 ∨ i = 1 ∨ i = 2 ∨ i = 3 := by omega
    rcases c5' with rfl | rfl | rfl | rfl
    · have hb : s.at_ 0 = s.i0 := rfl
      cases hk : s.i0 with
      | true =>
        rw [hk] at hb c0
        rw [hb, if_pos rfl] at hs
        rw [hb, hs]; clear hb hs hk
        go_enter Try.func8, Try.ntmps8
        go_wp2
        go_ret
        exact ⟨rfl, HB.out.setCell _ _, (Frm.refl _ _).setCell _ _ (.inr rfl)⟩
      | false =>
        rw [hk] at hb c0
        rw [hb, if_neg (by decide)] at hs
        rw [hb, hs]; clear hb hs hk
        go_enter Try.func8, Try.ntmps8
        go_wp2
        go_ret
        exact ⟨rfl, HB.out, Frm.refl _ _⟩
    · have hb : s.at_ 1 = s.i1 := rfl
      cases hk : s.i1 with
      | true =>
        rw [hk] at hb c1
        rw [hb, if_pos rfl] at hs
        rw [hb, hs]; clear hb hs hk
        go_enter Try.func8, Try.ntmps8
        go_wp2
        go_ret
        exact ⟨rfl, HB.out.setCell _ _, (Frm.refl _ _).setCell _ _ (.inr rfl)⟩
      | false =>
        rw [hk] at hb c1
        rw [hb, if_neg (by decide)] at hs
        rw [hb, hs]; clear hb hs hk
        go_enter Try.func8, Try.ntmps8
        go_wp2
        go_ret
        exact ⟨rfl, HB.out, Frm.refl _ _⟩
    · have hb : s.at_ 2 = s.i2 := rfl
      cases hk : s.i2 with
      | true =>
        rw [hk] at hb c2
        rw [hb, if_pos rfl] at hs
        rw [hb, hs]; clear hb hs hk
        go_enter Try.func8, Try.ntmps8
        go_wp2
        go_ret
        exact ⟨rfl, HB.out.setCell _ _, (Frm.refl _ _).setCell _ _ (.inr rfl)⟩
      | false =>
        rw [hk] at hb c2
        rw [hb, if_neg (by decide)] at hs
        rw [hb, hs]; clear hb hs hk
        go_enter Try.func8, Try.ntmps8
        go_wp2
        go_ret
        exact ⟨rfl, HB.out, Frm.refl _ _⟩
    · have hb : s.at_ 3 = s.i3 := rfl
      cases hk : s.i3 with
      | true =>
        rw [hk] at hb c3
        rw [hb, if_pos rfl] at hs
        rw [hb, hs]; clear hb hs hk
        go_enter Try.func8, Try.ntmps8
        go_wp2
        go_ret
        exact ⟨rfl, HB.out.setCell _ _, (Frm.refl _ _).setCell _ _ (.inr rfl)⟩
      | false =>
        rw [hk] at hb c3
        rw [hb, if_neg (by decide)] at hs
        rw [hb, hs]; clear hb hs hk
        go_enter Try.func8, Try.ntmps8
        go_wp2
        go_ret
        exact ⟨rfl, HB.out, Frm.refl _ _⟩
  · have hb : s.at_ i = false := by unfold Lg.at_; rw [if_neg (by omega), if_neg (by omega), if_neg (by omega), if_neg (by omega)]
    rw [hb, if_neg (by decide)] at hs
    rw [hb, hs]; clear hb hs
    go_enter Try.func8, Try.ntmps8
    go_wp2
    go_ret
    exact ⟨rfl, HB.out, Frm.refl _ _⟩
end
end Go.Proofs.Ytmfklfgddblmdaa
