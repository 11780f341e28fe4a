/- Contracts of package estim: its block holds the numbers of a Lean structure. -/
import Derived.Test.YtcdnojmmkkfdnaaProg
import Derived.Test.YtcdnojmmkkfdnaaLib
namespace Go.Proofs.Ytcdnojmmkkfdnaa
open Go.RowKit
set_option linter.unusedSimpArgs false
set_option linter.unusedVariables false

/-- Who asks, with which count; who has told what. -/
structure Es where
  self : Int
  count : Int
  t0 : Bool
  s0 : Int
  t1 : Bool
  s1 : Int
  t2 : Bool
  s2 : Int
  t3 : Bool
  s3 : Int
def Es.told (s : Es) : List Value := [.bool s.t0, .int .u32 s.s0, .bool s.t1, .int .u32 s.s1, .bool s.t2, .int .u32 s.s2, .bool s.t3, .int .u32 s.s3]
def Es.cells (s : Es) : List Value := [.int .u8 s.self, .int .u8 s.count, .bool s.t0, .int .u32 s.s0, .bool s.t1, .int .u32 s.s1, .bool s.t2, .int .u32 s.s2, .bool s.t3, .int .u32 s.s3]
def Es.at_ (s : Es) (i : Int) : Bool := if i = 0 then s.t0 else if i = 1 then s.t1 else if i = 2 then s.t2 else if i = 3 then s.t3 else false
def Es.takes (s : Es) (f c q : Int) : Bool := !(decide (f = s.self) || decide (f ≥ 4) || decide (c ≠ s.count) || decide (q % 4 ≠ 0) || decide (q > 1073741824) || s.at_ f)
def Es.set (s : Es) (f q : Int) : Es :=
  if f = 0 then { s with t0 := true, s0 := q } else if f = 1 then { s with t1 := true, s1 := q } else if f = 2 then { s with t2 := true, s2 := q } else { s with t3 := true, s3 := q }
def Es.add (s : Es) (f c q : Int) : Es := if s.takes f c q = true then s.set f q else s
/-- How many of the first k have told something. -/
def Es.cnt (s : Es) (k : Nat) : Int := (if 0 < k && s.t0 then 1 else 0) + (if 1 < k && s.t1 then 1 else 0) + (if 2 < k && s.t2 then 1 else 0) + (if 3 < k && s.t3 then 1 else 0)
/-- The greatest of what the first k told. -/
def Es.top (s : Es) (k : Nat) : Int := max (max (max (if 0 < k then s.s0 else 0) (if 1 < k then s.s1 else 0)) (if 2 < k then s.s2 else 0)) (if 3 < k then s.s3 else 0)
def esNew (f c : Int) : Es := ⟨f, c, false, 0, false, 0, false, 0, false, 0⟩
/-- What is told is no more than 2^30. -/
structure Es.Ok (s : Es) : Prop where
  s0 : 0 ≤ s.s0 ∧ s.s0 ≤ 1073741824
  s1 : 0 ≤ s.s1 ∧ s.s1 ≤ 1073741824
  s2 : 0 ≤ s.s2 ∧ s.s2 ≤ 1073741824
  s3 : 0 ≤ s.s3 ∧ s.s3 ≤ 1073741824
theorem Es.Ok.add {s : Es} (h : s.Ok) (f c q : Int) (hq : 0 ≤ q) : (s.add f c q).Ok := by
  unfold Es.add
  split
  · rename_i ht
    have hq2 : q ≤ 1073741824 := by
      simp only [Es.takes, Bool.not_eq_true', Bool.or_eq_false_iff, decide_eq_false_iff_not] at ht
      omega
    obtain ⟨h0, h1, h2, h3⟩ := h
    unfold Es.set
    split
    · exact ⟨⟨hq, hq2⟩, h1, h2, h3⟩
    · split
      · exact ⟨h0, ⟨hq, hq2⟩, h2, h3⟩
      · split
        · exact ⟨h0, h1, ⟨hq, hq2⟩, h3⟩
        · exact ⟨h0, h1, h2, ⟨hq, hq2⟩⟩
  · exact h

theorem cnt_bd (s : Es) (k : Nat) : 0 ≤ s.cnt k ∧ s.cnt k ≤ 4 := by
  unfold Es.cnt
  (repeat' split) <;> omega
abbrev IsEs (w : World) (b : Nat) (s : Es) : Prop := Blk w b s.cells 47
theorem ENew_calls (f c : Int) (w : World) : Calls Try.prog 7 #[.int .u8 f, .int .u8 c] w fun e w' =>
    ∃ b, w.heap.size ≤ b ∧ e = .returned (.pointer (some ⟨b, 0, none⟩)) ∧ IsEs w' b (esNew f c) ∧ Frm0 w w' := by
  go_enter Try.func7, Try.ntmps7
  go_wp2
  go_ret
  exact ⟨_, Nat.le_refl _, rfl, Blk.new _ _ _, (Frm.refl _ _).alloc _⟩
section
variable (b : Nat) (s : Es) (w : World) (h : IsEs w b s)
include h
theorem Has_calls (i : Int) (hi : 0 ≤ i) : Calls Try.prog 12 #[.pointer (some ⟨b, 0, none⟩), .int .u8 i] w fun e w' => e = .returned (.bool (s.at_ i)) ∧ w = w' := by
  have h2 := h.cell 2
  have h4 := h.cell 4
  have h6 := h.cell 6
  have h8 := h.cell 8
  simp only [Es.cells, List.getElem?_cons_succ, List.getElem?_cons_zero] at h2 h4 h6 h8
  clear h
  by_cases c1 : i < 4
  · have c5 : i = 0 ∨ i = 1 ∨ i = 2 ∨ i = 3 := by omega
    rcases c5 with rfl | rfl | rfl | rfl
    all_goals
      go_enter Try.func12, Try.ntmps12
      go_wp2
      go_ret
      exact ⟨rfl, rfl⟩
  · have e : s.at_ i = false := by unfold Es.at_; rw [if_neg (by omega), if_neg (by omega), if_neg (by omega), if_neg (by omega)]
    rw [e]; clear e
    go_enter Try.func12, Try.ntmps12
    go_wp2
    go_ret
    exact ⟨rfl, rfl⟩
theorem Len_calls : Calls Try.prog 13 #[.pointer (some ⟨b, 0, none⟩)] w fun e w' => e = .returned (.int .i64 (s.cnt 4)) ∧ Frm0 w w' := by
  have h2 := h.cell 2
  have h3 := h.cell 3
  have h4 := h.cell 4
  have h5 := h.cell 5
  have h6 := h.cell 6
  have h7 := h.cell 7
  have h8 := h.cell 8
  have h9 := h.cell 9
  simp only [Es.cells, List.getElem?_cons_succ, List.getElem?_cons_zero] at h2 h3 h4 h5 h6 h7 h8 h9
  clear h
  obtain ⟨z1, z2, t0, s0, t1, s1, t2, s2, t3, s3⟩ := s
  dsimp only at *
  go_enter Try.func13, Try.ntmps13
  go_wp2
  clear h2 h3 h4 h5 h6 h7 h8 h9
  go_loopw [3, 10] (fun n i wr => ∃ k : Nat, k ≤ 4 ∧ i = .int .i64 k ∧ n = .int .i64 (Es.cnt ⟨z1, z2, t0, s0, t1, s1, t2, s2, t3, s3⟩ k) ∧ Frm0 w wr) (fun _ i _ => 4 - (intOf i).toNat)
  case atStart => exact ⟨0, by omega, rfl, by simp [Es.cnt], Frm.refl _ _⟩
  case round =>
    obtain ⟨k, hk, rfl, rfl, hf⟩ := hrel
    have HF := hid hf; clear hf
    have hk' : k = 0 ∨ k = 1 ∨ k = 2 ∨ k = 3 ∨ k = 4 := by omega
    --GEN
    rcases hk' with rfl | rfl | rfl | rfl | rfl
    · have hn := cnt_bd ⟨z1, z2, t0, s0, t1, s1, t2, s2, t3, s3⟩ 0
      have hn1 : Es.cnt ⟨z1, z2, t0, s0, t1, s1, t2, s2, t3, s3⟩ 1 = Es.cnt ⟨z1, z2, t0, s0, t1, s1, t2, s2, t3, s3⟩ 0 + (if t0 then 1 else 0) := by simp [Es.cnt]
      have i0 : ∀ (w : World), Sem.run Try.prog (Instr.index 45 (.agg #[.bool t0, .int .u32 s0, .bool t1, .int .u32 s1, .bool t2, .int .u32 s2, .bool t3, .int .u32 s3]) (.int .i64 0)) w = .ok (.agg #[.bool t0, .int .u32 s0]) w := fun _ => by kernel_rfl
      have HN := hid hn1; clear hn1
      generalize Es.cnt ⟨z1, z2, t0, s0, t1, s1, t2, s2, t3, s3⟩ 0 = n at *
      cases t0
      all_goals
        go_wp2
        go_roundw
        case rel => exact ⟨1, by omega, rfl, by first | (rw [HN.out]; simp; done) | (rw [HN.out]; done), (HF.out.alloc _)⟩
        case measure => simp [intOf]
    · have hn := cnt_bd ⟨z1, z2, t0, s0, t1, s1, t2, s2, t3, s3⟩ 1
      have hn1 : Es.cnt ⟨z1, z2, t0, s0, t1, s1, t2, s2, t3, s3⟩ 2 = Es.cnt ⟨z1, z2, t0, s0, t1, s1, t2, s2, t3, s3⟩ 1 + (if t1 then 1 else 0) := by simp [Es.cnt]
      have i0 : ∀ (w : World), Sem.run Try.prog (Instr.index 45 (.agg #[.bool t0, .int .u32 s0, .bool t1, .int .u32 s1, .bool t2, .int .u32 s2, .bool t3, .int .u32 s3]) (.int .i64 1)) w = .ok (.agg #[.bool t1, .int .u32 s1]) w := fun _ => by kernel_rfl
      have HN := hid hn1; clear hn1
      generalize Es.cnt ⟨z1, z2, t0, s0, t1, s1, t2, s2, t3, s3⟩ 1 = n at *
      cases t1
      all_goals
        go_wp2
        go_roundw
        case rel => exact ⟨2, by omega, rfl, by first | (rw [HN.out]; simp; done) | (rw [HN.out]; done), (HF.out.alloc _)⟩
        case measure => simp [intOf]
    · have hn := cnt_bd ⟨z1, z2, t0, s0, t1, s1, t2, s2, t3, s3⟩ 2
      have hn1 : Es.cnt ⟨z1, z2, t0, s0, t1, s1, t2, s2, t3, s3⟩ 3 = Es.cnt ⟨z1, z2, t0, s0, t1, s1, t2, s2, t3, s3⟩ 2 + (if t2 then 1 else 0) := by simp [Es.cnt]
      have i0 : ∀ (w : World), Sem.run Try.prog (Instr.index 45 (.agg #[.bool t0, .int .u32 s0, .bool t1, .int .u32 s1, .bool t2, .int .u32 s2, .bool t3, .int .u32 s3]) (.int .i64 2)) w = .ok (.agg #[.bool t2, .int .u32 s2]) w := fun _ => by kernel_rfl
      have HN := hid hn1; clear hn1
      generalize Es.cnt ⟨z1, z2, t0, s0, t1, s1, t2, s2, t3, s3⟩ 2 = n at *
      cases t2
      all_goals
        go_wp2
        go_roundw
        case rel => exact ⟨3, by omega, rfl, by first | (rw [HN.out]; simp; done) | (rw [HN.out]; done), (HF.out.alloc _)⟩
        case measure => simp [intOf]
    · have hn := cnt_bd ⟨z1, z2, t0, s0, t1, s1, t2, s2, t3, s3⟩ 3
      have hn1 : Es.cnt ⟨z1, z2, t0, s0, t1, s1, t2, s2, t3, s3⟩ 4 = Es.cnt ⟨z1, z2, t0, s0, t1, s1, t2, s2, t3, s3⟩ 3 + (if t3 then 1 else 0) := by simp [Es.cnt]
      have i0 : ∀ (w : World), Sem.run Try.prog (Instr.index 45 (.agg #[.bool t0, .int .u32 s0, .bool t1, .int .u32 s1, .bool t2, .int .u32 s2, .bool t3, .int .u32 s3]) (.int .i64 3)) w = .ok (.agg #[.bool t3, .int .u32 s3]) w := fun _ => by kernel_rfl
      have HN := hid hn1; clear hn1
      generalize Es.cnt ⟨z1, z2, t0, s0, t1, s1, t2, s2, t3, s3⟩ 3 = n at *
      cases t3
      all_goals
        go_wp2
        go_roundw
        case rel => exact ⟨4, by omega, rfl, by first | (rw [HN.out]; simp; done) | (rw [HN.out]; done), (HF.out.alloc _)⟩
        case measure => simp [intOf]
    · go_wp2
      go_ret
      exact ⟨rfl, HF.out⟩
theorem Bound_calls (ok : s.Ok) : Calls Try.prog 10 #[.pointer (some ⟨b, 0, none⟩)] w fun e w' =>
    e = .returned (.tuple #[.int .u32 (if s.cnt 4 < 3 then 0 else s.top 4 + 8), .bool (decide (3 ≤ s.cnt 4))]) ∧ Frm0 w w' := by
  have L := Len_calls b s w h
  have hB := h
  have HL := hid L; clear L
  have HB := hid hB; clear hB h
  by_cases hc : s.cnt 4 < 3
  · rw [if_pos hc, decide_eq_false (show ¬ 3 ≤ s.cnt 4 by omega)]
    generalize s.cnt 4 = n at *
    go_enter Try.func10, Try.ntmps10
    go_wp2_with (go_at_call 13; (with_reducible refine HL.out.mono ?_); rintro e w' ⟨rfl, f'⟩)
    go_ret2
    exact ⟨rfl, f'⟩
  · rw [if_neg hc, decide_eq_true (show 3 ≤ s.cnt 4 by omega)]
    generalize s.cnt 4 = n at *
    go_enter Try.func10, Try.ntmps10
    go_wp2_with (fail)
    (with_reducible refine HL.out.mono ?_)
    rintro e w1 ⟨rfl, f'⟩
    have h1 := HB.out.frm f' (fun h => h)
    have h2 := h1.cell 2
    have h3 := h1.cell 3
    have h4 := h1.cell 4
    have h5 := h1.cell 5
    have h6 := h1.cell 6
    have h7 := h1.cell 7
    have h8 := h1.cell 8
    have h9 := h1.cell 9
    simp only [Es.cells, List.getElem?_cons_succ, List.getElem?_cons_zero] at h2 h3 h4 h5 h6 h7 h8 h9
    clear h1 HB HL
    obtain ⟨z1, z2, t0, s0, t1, s1, t2, s2, t3, s3⟩ := s
    obtain ⟨o0, o1, o2, o3⟩ := ok
    dsimp only at *
    have F1 := hid f'; clear f'
    go_wp2
    clear h2 h3 h4 h5 h6 h7 h8 h9
    go_loopw [4, 14] (fun m i wr => ∃ k : Nat, k ≤ 4 ∧ i = .int .i64 k ∧ m = .int .u32 (Es.top ⟨z1, z2, t0, s0, t1, s1, t2, s2, t3, s3⟩ k) ∧ Frm0 w wr) (fun _ i _ => 4 - (intOf i).toNat)
    case atStart => exact ⟨0, by omega, rfl, by simp [Es.top], F1.out⟩
    case round =>
      obtain ⟨k, hk, rfl, rfl, hf⟩ := hrel
      have HF := hid hf; clear hf
      have hk' : k = 0 ∨ k = 1 ∨ k = 2 ∨ k = 3 ∨ k = 4 := by omega
      rcases hk' with rfl | rfl | rfl | rfl | rfl
      · have hn1 : Es.top ⟨z1, z2, t0, s0, t1, s1, t2, s2, t3, s3⟩ 1 = max (Es.top ⟨z1, z2, t0, s0, t1, s1, t2, s2, t3, s3⟩ 0) s0 := by simp [Es.top]; omega
        have i0 : ∀ (w : World), Sem.run Try.prog (Instr.index 45 (.agg #[.bool t0, .int .u32 s0, .bool t1, .int .u32 s1, .bool t2, .int .u32 s2, .bool t3, .int .u32 s3]) (.int .i64 0)) w = .ok (.agg #[.bool t0, .int .u32 s0]) w := fun _ => by kernel_rfl
        have HN := hid hn1; clear hn1
        generalize Es.top ⟨z1, z2, t0, s0, t1, s1, t2, s2, t3, s3⟩ 0 = n at *
        have e2 : (if n < s0 then s0 else n) = max n s0 := by split <;> omega
        generalize max n s0 = n1 at *
        go_wp2
        go_roundw
        case rel => exact ⟨1, by omega, rfl, by (try rw [HN.out]), HF.out.alloc _⟩
        case measure => simp [intOf]
      · have hn1 : Es.top ⟨z1, z2, t0, s0, t1, s1, t2, s2, t3, s3⟩ 2 = max (Es.top ⟨z1, z2, t0, s0, t1, s1, t2, s2, t3, s3⟩ 1) s1 := by simp [Es.top]; omega
        have i0 : ∀ (w : World), Sem.run Try.prog (Instr.index 45 (.agg #[.bool t0, .int .u32 s0, .bool t1, .int .u32 s1, .bool t2, .int .u32 s2, .bool t3, .int .u32 s3]) (.int .i64 1)) w = .ok (.agg #[.bool t1, .int .u32 s1]) w := fun _ => by kernel_rfl
        have HN := hid hn1; clear hn1
        generalize Es.top ⟨z1, z2, t0, s0, t1, s1, t2, s2, t3, s3⟩ 1 = n at *
        have e2 : (if n < s1 then s1 else n) = max n s1 := by split <;> omega
        generalize max n s1 = n1 at *
        go_wp2
        go_roundw
        case rel => exact ⟨2, by omega, rfl, by (try rw [HN.out]), HF.out.alloc _⟩
        case measure => simp [intOf]
      · have hn1 : Es.top ⟨z1, z2, t0, s0, t1, s1, t2, s2, t3, s3⟩ 3 = max (Es.top ⟨z1, z2, t0, s0, t1, s1, t2, s2, t3, s3⟩ 2) s2 := by simp [Es.top]; omega
        have i0 : ∀ (w : World), Sem.run Try.prog (Instr.index 45 (.agg #[.bool t0, .int .u32 s0, .bool t1, .int .u32 s1, .bool t2, .int .u32 s2, .bool t3, .int .u32 s3]) (.int .i64 2)) w = .ok (.agg #[.bool t2, .int .u32 s2]) w := fun _ => by kernel_rfl
        have HN := hid hn1; clear hn1
        generalize Es.top ⟨z1, z2, t0, s0, t1, s1, t2, s2, t3, s3⟩ 2 = n at *
        have e2 : (if n < s2 then s2 else n) = max n s2 := by split <;> omega
        generalize max n s2 = n1 at *
        go_wp2
        go_roundw
        case rel => exact ⟨3, by omega, rfl, by (try rw [HN.out]), HF.out.alloc _⟩
        case measure => simp [intOf]
      · have hn1 : Es.top ⟨z1, z2, t0, s0, t1, s1, t2, s2, t3, s3⟩ 4 = max (Es.top ⟨z1, z2, t0, s0, t1, s1, t2, s2, t3, s3⟩ 3) s3 := by simp [Es.top]; omega
        have i0 : ∀ (w : World), Sem.run Try.prog (Instr.index 45 (.agg #[.bool t0, .int .u32 s0, .bool t1, .int .u32 s1, .bool t2, .int .u32 s2, .bool t3, .int .u32 s3]) (.int .i64 3)) w = .ok (.agg #[.bool t3, .int .u32 s3]) w := fun _ => by kernel_rfl
        have HN := hid hn1; clear hn1
        generalize Es.top ⟨z1, z2, t0, s0, t1, s1, t2, s2, t3, s3⟩ 3 = n at *
        have e2 : (if n < s3 then s3 else n) = max n s3 := by split <;> omega
        generalize max n s3 = n1 at *
        go_wp2
        go_roundw
        case rel => exact ⟨4, by omega, rfl, by (try rw [HN.out]), HF.out.alloc _⟩
        case measure => simp [intOf]
      · have hb : 0 ≤ Es.top ⟨z1, z2, t0, s0, t1, s1, t2, s2, t3, s3⟩ 4 ∧ Es.top ⟨z1, z2, t0, s0, t1, s1, t2, s2, t3, s3⟩ 4 ≤ 1073741824 := by simp [Es.top]; omega
        generalize hgn : Es.top ⟨z1, z2, t0, s0, t1, s1, t2, s2, t3, s3⟩ 4 = n at *
        have HG := hid hgn; clear hgn
        go_wp2
        go_ret2
        exact ⟨by rw [HG.out]; rfl, HF.out⟩
theorem Add_calls (f c q : Int) (hf : 0 ≤ f) (hq : 0 ≤ q) : Calls Try.prog 8 #[.pointer (some ⟨b, 0, none⟩), .int .u8 f, .int .u8 c, .int .u32 q] w fun e w' =>
    e = .returned (.bool (s.takes f c q)) ∧ IsEs w' b (s.add f c q) ∧ Frm (· = b) w w' := by
  have hB := h
  have h0 := h.cell 0
  have h1 := h.cell 1
  have h2 := h.cell 2
  have h3 := h.cell 3
  have h4 := h.cell 4
  have h5 := h.cell 5
  have h6 := h.cell 6
  have h7 := h.cell 7
  have h8 := h.cell 8
  have h9 := h.cell 9
  have fr := h.free
  simp only [Es.cells, List.getElem?_cons_succ, List.getElem?_cons_zero] at h0 h1 h2 h3 h4 h5 h6 h7 h8 h9
  clear h
  have HB := hid hB; clear hB
  have ht : s.takes f c q = !(decide (f = s.self) || decide (f ≥ 4) || decide (c ≠ s.count) || decide (q % 4 ≠ 0) || decide (q > 1073741824) || s.at_ f) := rfl
  have hs : s.add f c q = if s.takes f c q = true then s.set f q else s := rfl
  by_cases c1 : f = s.self
  · rw [decide_eq_true c1] at ht; simp only [Bool.true_or, Bool.not_true] at ht
    rw [ht, if_neg (by decide)] at hs
    rw [ht, hs]; clear ht hs
    have c1b : (f == s.self) = true := beq_iff_eq.2 c1
    clear c1
    go_enter Try.func8, Try.ntmps8
    go_wp2
    go_ret
    exact ⟨rfl, HB.out, Frm.refl _ _⟩
  rw [decide_eq_false c1] at ht; simp only [Bool.false_or] at ht
  have d0 : (f == s.self) = false := beq_eq_false_iff_ne.2 c1
  clear c1
  by_cases c1 : f ≥ 4
  · rw [decide_eq_true c1] at ht; simp only [Bool.true_or, Bool.not_true] at ht
    rw [ht, if_neg (by decide)] at hs
    rw [ht, hs]; clear ht hs
    go_enter Try.func8, Try.ntmps8
    go_wp2
    go_ret
    exact ⟨rfl, HB.out, Frm.refl _ _⟩
  rw [decide_eq_false c1] at ht; simp only [Bool.false_or] at ht
  have d1 := c1
  clear c1
  by_cases c1 : c ≠ s.count
  · rw [decide_eq_true c1] at ht; simp only [Bool.true_or, Bool.not_true] at ht
    rw [ht, if_neg (by decide)] at hs
    rw [ht, hs]; clear ht hs
    have c1b : (c != s.count) = true := bne_iff_ne.2 c1
    clear c1
    go_enter Try.func8, Try.ntmps8
    go_wp2
    go_ret
    exact ⟨rfl, HB.out, Frm.refl _ _⟩
  rw [decide_eq_false c1] at ht; simp only [Bool.false_or] at ht
  have d2 : (c != s.count) = false := by simpa using c1
  clear c1
  by_cases c1 : q % 4 ≠ 0
  · rw [decide_eq_true c1] at ht; simp only [Bool.true_or, Bool.not_true] at ht
    rw [ht, if_neg (by decide)] at hs
    rw [ht, hs]; clear ht hs
    have c1b : (q % 4 != 0) = true := bne_iff_ne.2 c1
    clear c1
    go_enter Try.func8, Try.ntmps8
    go_wp2
    go_ret
    exact ⟨rfl, HB.out, Frm.refl _ _⟩
  rw [decide_eq_false c1] at ht; simp only [Bool.false_or] at ht
  have d3 : (q % 4 != 0) = false := by simpa using c1
  clear c1
  by_cases c1 : q > 1073741824
  · rw [decide_eq_true c1] at ht; simp only [Bool.true_or, Bool.not_true] at ht
    rw [ht, if_neg (by decide)] at hs
    rw [ht, hs]; clear ht hs
    go_enter Try.func8, Try.ntmps8
    go_wp2
    go_ret
    exact ⟨rfl, HB.out, Frm.refl _ _⟩
  rw [decide_eq_false c1] at ht; simp only [Bool.false_or] at ht
  have d4 := c1
  clear c1
  have c5 : f = 0 ∨ f = 1 ∨ f = 2 ∨ f = 3 := by omega
  rcases c5 with rfl | rfl | rfl | rfl
  · replace ht : s.takes 0 c q = !s.t0 := ht
    cases hk : s.t0 with
    | true =>
      rw [hk] at ht h2; simp only [Bool.not_true] at ht
      rw [ht, if_neg (by decide)] at hs
      rw [ht, hs]; clear ht hs hk
      go_enter Try.func8, Try.ntmps8
      go_wp2
      go_ret
      exact ⟨rfl, HB.out, Frm.refl _ _⟩
    | false =>
      rw [hk] at ht h2; simp only [Bool.not_false] at ht
      rw [ht, if_pos rfl] at hs
      rw [ht, hs]; clear ht hs
      go_enter Try.func8, Try.ntmps8
      go_wp2
      go_ret
      exact ⟨rfl, (HB.out.setCell _ _).setCell _ _, ((Frm.refl (· = b) _).setCell _ _ (.inr rfl)).setCell _ _ (.inr rfl)⟩
  · replace ht : s.takes 1 c q = !s.t1 := ht
    cases hk : s.t1 with
    | true =>
      rw [hk] at ht h4; simp only [Bool.not_true] at ht
      rw [ht, if_neg (by decide)] at hs
      rw [ht, hs]; clear ht hs hk
      go_enter Try.func8, Try.ntmps8
      go_wp2
      go_ret
      exact ⟨rfl, HB.out, Frm.refl _ _⟩
    | false =>
      rw [hk] at ht h4; simp only [Bool.not_false] at ht
      rw [ht, if_pos rfl] at hs
      rw [ht, hs]; clear ht hs
      go_enter Try.func8, Try.ntmps8
      go_wp2
      go_ret
      exact ⟨rfl, (HB.out.setCell _ _).setCell _ _, ((Frm.refl (· = b) _).setCell _ _ (.inr rfl)).setCell _ _ (.inr rfl)⟩
  · replace ht : s.takes 2 c q = !s.t2 := ht
    cases hk : s.t2 with
    | true =>
      rw [hk] at ht h6; simp only [Bool.not_true] at ht
      rw [ht, if_neg (by decide)] at hs
      rw [ht, hs]; clear ht hs hk
      go_enter Try.func8, Try.ntmps8
      go_wp2
      go_ret
      exact ⟨rfl, HB.out, Frm.refl _ _⟩
    | false =>
      rw [hk] at ht h6; simp only [Bool.not_false] at ht
      rw [ht, if_pos rfl] at hs
      rw [ht, hs]; clear ht hs
      go_enter Try.func8, Try.ntmps8
      go_wp2
      go_ret
      exact ⟨rfl, (HB.out.setCell _ _).setCell _ _, ((Frm.refl (· = b) _).setCell _ _ (.inr rfl)).setCell _ _ (.inr rfl)⟩
  · replace ht : s.takes 3 c q = !s.t3 := ht
    cases hk : s.t3 with
    | true =>
      rw [hk] at ht h8; simp only [Bool.not_true] at ht
      rw [ht, if_neg (by decide)] at hs
      rw [ht, hs]; clear ht hs hk
      go_enter Try.func8, Try.ntmps8
      go_wp2
      go_ret
      exact ⟨rfl, HB.out, Frm.refl _ _⟩
    | false =>
      rw [hk] at ht h8; simp only [Bool.not_false] at ht
      rw [ht, if_pos rfl] at hs
      rw [ht, hs]; clear ht hs
      go_enter Try.func8, Try.ntmps8
      go_wp2
      go_ret
      exact ⟨rfl, (HB.out.setCell _ _).setCell _ _, ((Frm.refl (· = b) _).setCell _ _ (.inr rfl)).setCell _ _ (.inr rfl)⟩
end
end Go.Proofs.Ytcdnojmmkkfdnaa
