/- Contracts of the document's estimates (the reference). -/
import Derived.Test.YtcdnojmmkkfdnaaEstim
namespace Go.Proofs.Ytcdnojmmkkfdnaa
open Go.RowKit
set_option linter.unusedSimpArgs false
set_option linter.unusedVariables false
def Es.rcells (s : Es) : List Value := [.int .u8 s.self, .int .u8 s.count, .bool s.t0, .bool s.t1, .bool s.t2, .bool s.t3, .int .u32 s.s0, .int .u32 s.s1, .int .u32 s.s2, .int .u32 s.s3]
abbrev IsRe (w : World) (b : Nat) (s : Es) : Prop := Blk w b s.rcells 31
section
variable (b : Nat) (s : Es) (w : World) (h : IsRe w b s)
include h
theorem RAdd_calls (f c q : Int) (hf : 0 ≤ f) (hq : 0 ≤ q) : Calls Try.prog 9 #[.pointer (some ⟨b, 0, none⟩), .int .u8 f, .int .u8 c, .int .u32 q] w fun e w' =>
    e = .returned (.bool (s.takes f c q)) ∧ IsRe w' b (s.add f c q) ∧ Frm (· = b) w w' := by
  have hB := h
  have h0 := h.cell 0
  have h1 := h.cell 1
  have h2 := h.cell 2
  have h3 := h.cell 3
  have h4 := h.cell 4
  have h5 := h.cell 5
  have h6 := h.cell 6
  have h7 := h.cell 7
  have h8 := h.cell 8
  have h9 := h.cell 9
  have fr := h.free
  simp only [Es.rcells, List.getElem?_cons_succ, List.getElem?_cons_zero] at h0 h1 h2 h3 h4 h5 h6 h7 h8 h9
  clear h
  have HB := hid hB; clear hB
  have ht : s.takes f c q = !(decide (f = s.self) || decide (f ≥ 4) || decide (c ≠ s.count) || decide (q % 4 ≠ 0) || decide (q > 1073741824) || s.at_ f) := rfl
  have hs : s.add f c q = if s.takes f c q = true then s.set f q else s := rfl
  by_cases c1 : f = s.self
  · rw [decide_eq_true c1] at ht; simp only [Bool.true_or, Bool.not_true] at ht
    rw [ht, if_neg (by decide)] at hs
    rw [ht, hs]; clear ht hs
    have c1b : (f == s.self) = true := beq_iff_eq.2 c1
    clear c1
    go_enter Try.func9, Try.ntmps9
    go_wp2
    go_ret
    exact ⟨rfl, HB.out, Frm.refl _ _⟩
  rw [decide_eq_false c1] at ht; simp only [Bool.false_or] at ht
  have d0 : (f == s.self) = false := beq_eq_false_iff_ne.2 c1
  clear c1
  by_cases c1 : f ≥ 4
  · rw [decide_eq_true c1] at ht; simp only [Bool.true_or, Bool.not_true] at ht
    rw [ht, if_neg (by decide)] at hs
    rw [ht, hs]; clear ht hs
    go_enter Try.func9, Try.ntmps9
    go_wp2
    go_ret
    exact ⟨rfl, HB.out, Frm.refl _ _⟩
  rw [decide_eq_false c1] at ht; simp only [Bool.false_or] at ht
  have d1 := c1
  clear c1
  by_cases c1 : c ≠ s.count
  · rw [decide_eq_true c1] at ht; simp only [Bool.true_or, Bool.not_true] at ht
    rw [ht, if_neg (by decide)] at hs
    rw [ht, hs]; clear ht hs
    have c1b : (c != s.count) = true := bne_iff_ne.2 c1
    clear c1
    go_enter Try.func9, Try.ntmps9
    go_wp2
    go_ret
    exact ⟨rfl, HB.out, Frm.refl _ _⟩
  rw [decide_eq_false c1] at ht; simp only [Bool.false_or] at ht
  have d2 : (c != s.count) = false := by simpa using c1
  clear c1
  by_cases c1 : q % 4 ≠ 0
  · rw [decide_eq_true c1] at ht; simp only [Bool.true_or, Bool.not_true] at ht
    rw [ht, if_neg (by decide)] at hs
    rw [ht, hs]; clear ht hs
    have c1b : (q % 4 != 0) = true := bne_iff_ne.2 c1
    clear c1
    go_enter Try.func9, Try.ntmps9
    go_wp2
    go_ret
    exact ⟨rfl, HB.out, Frm.refl _ _⟩
  rw [decide_eq_false c1] at ht; simp only [Bool.false_or] at ht
  have d3 : (q % 4 != 0) = false := by simpa using c1
  clear c1
  by_cases c1 : q > 1073741824
  · rw [decide_eq_true c1] at ht; simp only [Bool.true_or, Bool.not_true] at ht
    rw [ht, if_neg (by decide)] at hs
    rw [ht, hs]; clear ht hs
    go_enter Try.func9, Try.ntmps9
    go_wp2
    go_ret
    exact ⟨rfl, HB.out, Frm.refl _ _⟩
  rw [decide_eq_false c1] at ht; simp only [Bool.false_or] at ht
  have d4 := c1
  clear c1
  have c5 : f = 0 ∨ f = 1 ∨ f = 2 ∨ f = 3 := by omega
  rcases c5 with rfl | rfl | rfl | rfl
  · replace ht : s.takes 0 c q = !s.t0 := ht
    cases hk : s.t0 with
    | true =>
      rw [hk] at ht h2; simp only [Bool.not_true] at ht
      rw [ht, if_neg (by decide)] at hs
      rw [ht, hs]; clear ht hs hk
      go_enter Try.func9, Try.ntmps9
      go_wp2
      go_ret
      exact ⟨rfl, HB.out, Frm.refl _ _⟩
    | false =>
      rw [hk] at ht h2; simp only [Bool.not_false] at ht
      rw [ht, if_pos rfl] at hs
      rw [ht, hs]; clear ht hs
      go_enter Try.func9, Try.ntmps9
      go_wp2
      go_region
      all_goals
        go_wp2
        go_ret
        exact ⟨rfl, ((HB.out.setCell 2 (.bool true)).setCell 6 (.int .u32 q)).drew, (((Frm.refl (· = b) _).setCell _ _ (.inr rfl)).setCell _ _ (.inr rfl)).drew⟩
  · replace ht : s.takes 1 c q = !s.t1 := ht
    cases hk : s.t1 with
    | true =>
      rw [hk] at ht h3; simp only [Bool.not_true] at ht
      rw [ht, if_neg (by decide)] at hs
      rw [ht, hs]; clear ht hs hk
      go_enter Try.func9, Try.ntmps9
      go_wp2
      go_ret
      exact ⟨rfl, HB.out, Frm.refl _ _⟩
    | false =>
      rw [hk] at ht h3; simp only [Bool.not_false] at ht
      rw [ht, if_pos rfl] at hs
      rw [ht, hs]; clear ht hs
      go_enter Try.func9, Try.ntmps9
      go_wp2
      go_region
      all_goals
        go_wp2
        go_ret
        exact ⟨rfl, ((HB.out.setCell 3 (.bool true)).setCell 7 (.int .u32 q)).drew, (((Frm.refl (· = b) _).setCell _ _ (.inr rfl)).setCell _ _ (.inr rfl)).drew⟩
  · replace ht : s.takes 2 c q = !s.t2 := ht
    cases hk : s.t2 with
    | true =>
      rw [hk] at ht h4; simp only [Bool.not_true] at ht
      rw [ht, if_neg (by decide)] at hs
      rw [ht, hs]; clear ht hs hk
      go_enter Try.func9, Try.ntmps9
      go_wp2
      go_ret
      exact ⟨rfl, HB.out, Frm.refl _ _⟩
    | false =>
      rw [hk] at ht h4; simp only [Bool.not_false] at ht
      rw [ht, if_pos rfl] at hs
      rw [ht, hs]; clear ht hs
      go_enter Try.func9, Try.ntmps9
      go_wp2
      go_region
      all_goals
        go_wp2
        go_ret
        exact ⟨rfl, ((HB.out.setCell 4 (.bool true)).setCell 8 (.int .u32 q)).drew, (((Frm.refl (· = b) _).setCell _ _ (.inr rfl)).setCell _ _ (.inr rfl)).drew⟩
  · replace ht : s.takes 3 c q = !s.t3 := ht
    cases hk : s.t3 with
    | true =>
      rw [hk] at ht h5; simp only [Bool.not_true] at ht
      rw [ht, if_neg (by decide)] at hs
      rw [ht, hs]; clear ht hs hk
      go_enter Try.func9, Try.ntmps9
      go_wp2
      go_ret
      exact ⟨rfl, HB.out, Frm.refl _ _⟩
    | false =>
      rw [hk] at ht h5; simp only [Bool.not_false] at ht
      rw [ht, if_pos rfl] at hs
      rw [ht, hs]; clear ht hs
      go_enter Try.func9, Try.ntmps9
      go_wp2
      go_region
      all_goals
        go_wp2
        go_ret
        exact ⟨rfl, ((HB.out.setCell 5 (.bool true)).setCell 9 (.int .u32 q)).drew, (((Frm.refl (· = b) _).setCell _ _ (.inr rfl)).setCell _ _ (.inr rfl)).drew⟩
theorem RBound_calls (ok : s.Ok) (g0 : s.t0 = false → s.s0 = 0) (g1 : s.t1 = false → s.s1 = 0) (g2 : s.t2 = false → s.s2 = 0) (g3 : s.t3 = false → s.s3 = 0) : Calls Try.prog 11 #[.pointer (some ⟨b, 0, none⟩)] w fun e w' =>
    e = .returned (.tuple #[.int .u32 (if s.cnt 4 < 3 then 0 else s.top 4 + 8), .bool (decide (3 ≤ s.cnt 4))]) ∧ w = w' := by
  have h2 := h.cell 2
  have h3 := h.cell 3
  have h4 := h.cell 4
  have h5 := h.cell 5
  have h6 := h.cell 6
  have h7 := h.cell 7
  have h8 := h.cell 8
  have h9 := h.cell 9
  simp only [Es.rcells, List.getElem?_cons_succ, List.getElem?_cons_zero] at h2 h3 h4 h5 h6 h7 h8 h9
  clear h
  obtain ⟨z1, z2, t0, s0, t1, s1, t2, s2, t3, s3⟩ := s
  obtain ⟨o0, o1, o2, o3⟩ := ok
  dsimp only at *
  have G0 := hid g0; clear g0
  have G1 := hid g1; clear g1
  have G2 := hid g2; clear g2
  have G3 := hid g3; clear g3
  go_enter Try.func11, Try.ntmps11
  go_wp2
  go_loopw [4, 5, 6] (fun n m i wr => ∃ k : Nat, k ≤ 4 ∧ i = .int .i64 k ∧ n = .int .i64 (Es.cnt ⟨z1, z2, t0, s0, t1, s1, t2, s2, t3, s3⟩ k) ∧ m = .int .u32 (Es.top ⟨z1, z2, t0, s0, t1, s1, t2, s2, t3, s3⟩ k) ∧ wr = w) (fun _ _ i _ => 4 - (intOf i).toNat)
  case atStart => exact ⟨0, by omega, rfl, by simp [Es.cnt], by simp [Es.top], rfl⟩
  case round =>
    obtain ⟨k, hk, rfl, rfl, rfl, rfl⟩ := hrel
    have hk' : k = 0 ∨ k = 1 ∨ k = 2 ∨ k = 3 ∨ k = 4 := by omega
    rcases hk' with rfl | rfl | rfl | rfl | rfl
    · have hn := cnt_bd ⟨z1, z2, t0, s0, t1, s1, t2, s2, t3, s3⟩ 0
      have hn1 : Es.cnt ⟨z1, z2, t0, s0, t1, s1, t2, s2, t3, s3⟩ 1 = Es.cnt ⟨z1, z2, t0, s0, t1, s1, t2, s2, t3, s3⟩ 0 + (if t0 then 1 else 0) := by simp [Es.cnt]
      have ht1 : Es.top ⟨z1, z2, t0, s0, t1, s1, t2, s2, t3, s3⟩ 1 = max (Es.top ⟨z1, z2, t0, s0, t1, s1, t2, s2, t3, s3⟩ 0) s0 := by simp [Es.top]; try omega
      have htp : 0 ≤ Es.top ⟨z1, z2, t0, s0, t1, s1, t2, s2, t3, s3⟩ 0 := by simp [Es.top]; try omega
      have HN := hid hn1; clear hn1
      have HT := hid ht1; clear ht1
      generalize Es.cnt ⟨z1, z2, t0, s0, t1, s1, t2, s2, t3, s3⟩ 0 = n at *
      generalize Es.top ⟨z1, z2, t0, s0, t1, s1, t2, s2, t3, s3⟩ 0 = m at *
      cases t0
      · have hz : s0 = 0 := G0.out rfl
        have HZ := hid hz; clear hz
        go_wp2
        go_roundw
        case rel => first | exact ⟨1, by omega, rfl, by rw [HN.out]; simp, by rw [HT.out, HZ.out]; simp; omega, rfl⟩ | exact ⟨1, by omega, rfl, by rw [HN.out]; simp, by rw [HT.out, HZ.out]; simp; omega, trivial⟩
        case measure => simp [intOf]
      · have e2 : (if m < s0 then s0 else m) = max m s0 := by split <;> omega
        generalize max m s0 = m1 at *
        go_wp2
        go_roundw
        case rel => first | exact ⟨1, by omega, rfl, by rw [HN.out]; simp, by rw [HT.out], rfl⟩ | exact ⟨1, by omega, rfl, by rw [HN.out]; simp, by rw [HT.out], trivial⟩
        case measure => simp [intOf]
    · have hn := cnt_bd ⟨z1, z2, t0, s0, t1, s1, t2, s2, t3, s3⟩ 1
      have hn1 : Es.cnt ⟨z1, z2, t0, s0, t1, s1, t2, s2, t3, s3⟩ 2 = Es.cnt ⟨z1, z2, t0, s0, t1, s1, t2, s2, t3, s3⟩ 1 + (if t1 then 1 else 0) := by simp [Es.cnt]
      have ht1 : Es.top ⟨z1, z2, t0, s0, t1, s1, t2, s2, t3, s3⟩ 2 = max (Es.top ⟨z1, z2, t0, s0, t1, s1, t2, s2, t3, s3⟩ 1) s1 := by simp [Es.top]; try omega
      have htp : 0 ≤ Es.top ⟨z1, z2, t0, s0, t1, s1, t2, s2, t3, s3⟩ 1 := by simp [Es.top]; try omega
      have HN := hid hn1; clear hn1
      have HT := hid ht1; clear ht1
      generalize Es.cnt ⟨z1, z2, t0, s0, t1, s1, t2, s2, t3, s3⟩ 1 = n at *
      generalize Es.top ⟨z1, z2, t0, s0, t1, s1, t2, s2, t3, s3⟩ 1 = m at *
      cases t1
      · have hz : s1 = 0 := G1.out rfl
        have HZ := hid hz; clear hz
        go_wp2
        go_roundw
        case rel => first | exact ⟨2, by omega, rfl, by rw [HN.out]; simp, by rw [HT.out, HZ.out]; simp; omega, rfl⟩ | exact ⟨2, by omega, rfl, by rw [HN.out]; simp, by rw [HT.out, HZ.out]; simp; omega, trivial⟩
        case measure => simp [intOf]
      · have e2 : (if m < s1 then s1 else m) = max m s1 := by split <;> omega
        generalize max m s1 = m1 at *
        go_wp2
        go_roundw
        case rel => first | exact ⟨2, by omega, rfl, by rw [HN.out]; simp, by rw [HT.out], rfl⟩ | exact ⟨2, by omega, rfl, by rw [HN.out]; simp, by rw [HT.out], trivial⟩
        case measure => simp [intOf]
    · have hn := cnt_bd ⟨z1, z2, t0, s0, t1, s1, t2, s2, t3, s3⟩ 2
      have hn1 : Es.cnt ⟨z1, z2, t0, s0, t1, s1, t2, s2, t3, s3⟩ 3 = Es.cnt ⟨z1, z2, t0, s0, t1, s1, t2, s2, t3, s3⟩ 2 + (if t2 then 1 else 0) := by simp [Es.cnt]
      have ht1 : Es.top ⟨z1, z2, t0, s0, t1, s1, t2, s2, t3, s3⟩ 3 = max (Es.top ⟨z1, z2, t0, s0, t1, s1, t2, s2, t3, s3⟩ 2) s2 := by simp [Es.top]; try omega
      have htp : 0 ≤ Es.top ⟨z1, z2, t0, s0, t1, s1, t2, s2, t3, s3⟩ 2 := by simp [Es.top]; try omega
      have HN := hid hn1; clear hn1
      have HT := hid ht1; clear ht1
      generalize Es.cnt ⟨z1, z2, t0, s0, t1, s1, t2, s2, t3, s3⟩ 2 = n at *
      generalize Es.top ⟨z1, z2, t0, s0, t1, s1, t2, s2, t3, s3⟩ 2 = m at *
      cases t2
      · have hz : s2 = 0 := G2.out rfl
        have HZ := hid hz; clear hz
        go_wp2
        go_roundw
        case rel => first | exact ⟨3, by omega, rfl, by rw [HN.out]; simp, by rw [HT.out, HZ.out]; simp; omega, rfl⟩ | exact ⟨3, by omega, rfl, by rw [HN.out]; simp, by rw [HT.out, HZ.out]; simp; omega, trivial⟩
        case measure => simp [intOf]
      · have e2 : (if m < s2 then s2 else m) = max m s2 := by split <;> omega
        generalize max m s2 = m1 at *
        go_wp2
        go_roundw
        case rel => first | exact ⟨3, by omega, rfl, by rw [HN.out]; simp, by rw [HT.out], rfl⟩ | exact ⟨3, by omega, rfl, by rw [HN.out]; simp, by rw [HT.out], trivial⟩
        case measure => simp [intOf]
    · have hn := cnt_bd ⟨z1, z2, t0, s0, t1, s1, t2, s2, t3, s3⟩ 3
      have hn1 : Es.cnt ⟨z1, z2, t0, s0, t1, s1, t2, s2, t3, s3⟩ 4 = Es.cnt ⟨z1, z2, t0, s0, t1, s1, t2, s2, t3, s3⟩ 3 + (if t3 then 1 else 0) := by simp [Es.cnt]
      have ht1 : Es.top ⟨z1, z2, t0, s0, t1, s1, t2, s2, t3, s3⟩ 4 = max (Es.top ⟨z1, z2, t0, s0, t1, s1, t2, s2, t3, s3⟩ 3) s3 := by simp [Es.top]; try omega
      have htp : 0 ≤ Es.top ⟨z1, z2, t0, s0, t1, s1, t2, s2, t3, s3⟩ 3 := by simp [Es.top]; try omega
      have HN := hid hn1; clear hn1
      have HT := hid ht1; clear ht1
      generalize Es.cnt ⟨z1, z2, t0, s0, t1, s1, t2, s2, t3, s3⟩ 3 = n at *
      generalize Es.top ⟨z1, z2, t0, s0, t1, s1, t2, s2, t3, s3⟩ 3 = m at *
      cases t3
      · have hz : s3 = 0 := G3.out rfl
        have HZ := hid hz; clear hz
        go_wp2
        go_roundw
        case rel => first | exact ⟨4, by omega, rfl, by rw [HN.out]; simp, by rw [HT.out, HZ.out]; simp; omega, rfl⟩ | exact ⟨4, by omega, rfl, by rw [HN.out]; simp, by rw [HT.out, HZ.out]; simp; omega, trivial⟩
        case measure => simp [intOf]
      · have e2 : (if m < s3 then s3 else m) = max m s3 := by split <;> omega
        generalize max m s3 = m1 at *
        go_wp2
        go_roundw
        case rel => first | exact ⟨4, by omega, rfl, by rw [HN.out]; simp, by rw [HT.out], rfl⟩ | exact ⟨4, by omega, rfl, by rw [HN.out]; simp, by rw [HT.out], trivial⟩
        case measure => simp [intOf]
    · have hb : 0 ≤ Es.top ⟨z1, z2, t0, s0, t1, s1, t2, s2, t3, s3⟩ 4 ∧ Es.top ⟨z1, z2, t0, s0, t1, s1, t2, s2, t3, s3⟩ 4 ≤ 1073741824 := by simp [Es.top]; omega
      generalize hgn : Es.top ⟨z1, z2, t0, s0, t1, s1, t2, s2, t3, s3⟩ 4 = m at *
      generalize hcn : Es.cnt ⟨z1, z2, t0, s0, t1, s1, t2, s2, t3, s3⟩ 4 = n at *
      by_cases h3 : n < 3
      · have h3' : decide (3 ≤ n) = false := decide_eq_false (by omega)
        go_wp2
        go_ret2
        exact ⟨by first | rfl | (simp [hcn, hgn, h3, h3']; done), rfl⟩
      · have h3' : decide (3 ≤ n) = true := decide_eq_true (by omega)
        go_wp2
        go_ret2
        exact ⟨by first | rfl | (simp [hcn, hgn, h3, h3']; done), rfl⟩
end
end Go.Proofs.Ytcdnojmmkkfdnaa
