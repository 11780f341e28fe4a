/- The log within its window: says. -/
import Derived.Test.YtijomhinfcahpaaSlot2
namespace Go.Proofs.Ytijomhinfcahpaa
open Go.RowKit Go.ChangeShapes
set_option linter.unusedVariables false
set_option linter.unusedSimpArgs false
set_option maxRecDepth 20000
def Sl.get (x : Sl) : Nat → Sd
  | 0 => x.p0
  | 1 => x.p1
  | 2 => x.p2
  | 3 => x.p3
  | 4 => x.c0
  | 5 => x.c1
  | 6 => x.c2
  | _ => x.c3
def Sl.put (x : Sl) : Nat → Sd → Sl
  | 0, s => ⟨x.acc, s, x.p1, x.p2, x.p3, x.c0, x.c1, x.c2, x.c3⟩
  | 1, s => ⟨x.acc, x.p0, s, x.p2, x.p3, x.c0, x.c1, x.c2, x.c3⟩
  | 2, s => ⟨x.acc, x.p0, x.p1, s, x.p3, x.c0, x.c1, x.c2, x.c3⟩
  | 3, s => ⟨x.acc, x.p0, x.p1, x.p2, s, x.c0, x.c1, x.c2, x.c3⟩
  | 4, s => ⟨x.acc, x.p0, x.p1, x.p2, x.p3, s, x.c1, x.c2, x.c3⟩
  | 5, s => ⟨x.acc, x.p0, x.p1, x.p2, x.p3, x.c0, s, x.c2, x.c3⟩
  | 6, s => ⟨x.acc, x.p0, x.p1, x.p2, x.p3, x.c0, x.c1, s, x.c3⟩
  | _, s => ⟨x.acc, x.p0, x.p1, x.p2, x.p3, x.c0, x.c1, x.c2, s⟩
def Sl.accept (x : Sl) (s : Sd) : Sl := ⟨s, x.p0, x.p1, x.p2, x.p3, x.c0, x.c1, x.c2, x.c3⟩
/-- Is it said already? -/
def old (s : Sd) (view : Int) : Bool := s.th && decide (view ≤ s.vw)
theorem Says0_old {w : World} {b : Nat} (x : Sl) (h : Blk w b (slV x) TSl) (view c t k y v : Int) (hv : old x.p0 view = true) :
    Calls Try.prog 30 #[.pointer (some ⟨b, 7, none⟩), .int .u8 0, .int .u32 view, .agg #[.int .u8 c, .int .u32 t, .int .u8 k, .int .u8 y, .int .u16 v]] w fun e w' => e = .returned (.int .i64 121) ∧ Blk w' b (slV x) TSl ∧ Frm (· = b) w w' := by
  have HB := hid h
  have hlt := h.lt
  have q0 := h.cell 7; have q1 := h.cell 8; have q2 := h.cell 9; have q3 := h.cell 10; have q4 := h.cell 11; have q5 := h.cell 12; have q6 := h.cell 13
  simp only [slV, sdV, List.cons_append, List.nil_append, List.getElem?_cons_succ, List.getElem?_cons_zero] at q0 q1 q2 q3 q4 q5 q6
  unfold old at hv
  rw [Bool.and_eq_true, decide_eq_true_eq] at hv
  obtain ⟨hv0, hv1⟩ := hv
  rw [hv0] at q0
  clear h hv0
  go_enter Try.func30, Try.ntmps30
  go_wp2
  go_ret
  exact ⟨rfl, (HB.out.alloc _).alloc _, ((Frm.refl _ _).alloc _).alloc _⟩
theorem put0 (x : Sl) (view c t k y v : Int) : (((((((slV x).set 7 (.bool true)).set 8 (.int .u32 view)).set 9 (.int .u8 c)).set 10 (.int .u32 t)).set 11 (.int .u8 k)).set 12 (.int .u8 y)).set 13 (.int .u16 v) = slV (x.put 0 ⟨true, view, c, t, k, y, v⟩) := rfl
set_option maxHeartbeats 1000000 in
theorem Says0_new {w : World} {b : Nat} (x : Sl) (h : Blk w b (slV x) TSl) (view c t k y v : Int) (hv : old x.p0 view = false) :
    Calls Try.prog 30 #[.pointer (some ⟨b, 7, none⟩), .int .u8 0, .int .u32 view, .agg #[.int .u8 c, .int .u32 t, .int .u8 k, .int .u8 y, .int .u16 v]] w fun e w' => e = .returned (.int .i64 0) ∧ Blk w' b (slV (x.put 0 ⟨true, view, c, t, k, y, v⟩)) TSl ∧ Frm (· = b) w w' := by
  have HB := hid h
  have hlt := h.lt
  have q0 := h.cell 7; have q1 := h.cell 8; have q2 := h.cell 9; have q3 := h.cell 10; have q4 := h.cell 11; have q5 := h.cell 12; have q6 := h.cell 13
  simp only [slV, sdV, List.cons_append, List.nil_append, List.getElem?_cons_succ, List.getElem?_cons_zero] at q0 q1 q2 q3 q4 q5 q6
  have z0 := h.free 7; have z1 := h.free 8; have z2 := h.free 9; have z3 := h.free 10; have z4 := h.free 11; have z5 := h.free 12; have z6 := h.free 13
  unfold old at hv
  obtain ⟨th, hth⟩ : ∃ th, x.p0.th = th := ⟨_, rfl⟩
  rw [hth] at q0 hv
  clear hth h
  cases th
  · clear hv
    go_enter Try.func30, Try.ntmps30
    go_wp2
    go_region
    go_wp2
    go_ret
    refine ⟨rfl, ?_, ((((((((((Frm.refl (· = b) w).setCell ⟨b, 7, none⟩ _ (.inr rfl)).setCell ⟨b, 8, none⟩ _ (.inr rfl)).setCell ⟨b, 9, none⟩ _ (.inr rfl)).setCell ⟨b, 10, none⟩ _ (.inr rfl)).setCell ⟨b, 11, none⟩ _ (.inr rfl)).setCell ⟨b, 12, none⟩ _ (.inr rfl)).setCell ⟨b, 13, none⟩ _ (.inr rfl)).alloc _).alloc _).drew⟩
    rw [← put0 x view c t k y v]
    exact (((((((((HB.out.setCell 7 _).setCell 8 _).setCell 9 _).setCell 10 _).setCell 11 _).setCell 12 _).setCell 13 _).alloc _).alloc _).drew
  · rw [Bool.true_and, decide_eq_false_iff_not] at hv
    go_enter Try.func30, Try.ntmps30
    go_wp2
    go_region
    go_wp2
    go_ret
    refine ⟨rfl, ?_, ((((((((((Frm.refl (· = b) w).setCell ⟨b, 7, none⟩ _ (.inr rfl)).setCell ⟨b, 8, none⟩ _ (.inr rfl)).setCell ⟨b, 9, none⟩ _ (.inr rfl)).setCell ⟨b, 10, none⟩ _ (.inr rfl)).setCell ⟨b, 11, none⟩ _ (.inr rfl)).setCell ⟨b, 12, none⟩ _ (.inr rfl)).setCell ⟨b, 13, none⟩ _ (.inr rfl)).alloc _).alloc _).drew⟩
    rw [← put0 x view c t k y v]
    exact (((((((((HB.out.setCell 7 _).setCell 8 _).setCell 9 _).setCell 10 _).setCell 11 _).setCell 12 _).setCell 13 _).alloc _).alloc _).drew
theorem Says1_old {w : World} {b : Nat} (x : Sl) (h : Blk w b (slV x) TSl) (view c t k y v : Int) (hv : old x.p1 view = true) :
    Calls Try.prog 30 #[.pointer (some ⟨b, 7, none⟩), .int .u8 1, .int .u32 view, .agg #[.int .u8 c, .int .u32 t, .int .u8 k, .int .u8 y, .int .u16 v]] w fun e w' => e = .returned (.int .i64 121) ∧ Blk w' b (slV x) TSl ∧ Frm (· = b) w w' := by
  have HB := hid h
  have hlt := h.lt
  have q0 := h.cell 14; have q1 := h.cell 15; have q2 := h.cell 16; have q3 := h.cell 17; have q4 := h.cell 18; have q5 := h.cell 19; have q6 := h.cell 20
  simp only [slV, sdV, List.cons_append, List.nil_append, List.getElem?_cons_succ, List.getElem?_cons_zero] at q0 q1 q2 q3 q4 q5 q6
  unfold old at hv
  rw [Bool.and_eq_true, decide_eq_true_eq] at hv
  obtain ⟨hv0, hv1⟩ := hv
  rw [hv0] at q0
  clear h hv0
  go_enter Try.func30, Try.ntmps30
  go_wp2
  go_ret
  exact ⟨rfl, (HB.out.alloc _).alloc _, ((Frm.refl _ _).alloc _).alloc _⟩
theorem put1 (x : Sl) (view c t k y v : Int) : (((((((slV x).set 14 (.bool true)).set 15 (.int .u32 view)).set 16 (.int .u8 c)).set 17 (.int .u32 t)).set 18 (.int .u8 k)).set 19 (.int .u8 y)).set 20 (.int .u16 v) = slV (x.put 1 ⟨true, view, c, t, k, y, v⟩) := rfl
set_option maxHeartbeats 1000000 in
theorem Says1_new {w : World} {b : Nat} (x : Sl) (h : Blk w b (slV x) TSl) (view c t k y v : Int) (hv : old x.p1 view = false) :
    Calls Try.prog 30 #[.pointer (some ⟨b, 7, none⟩), .int .u8 1, .int .u32 view, .agg #[.int .u8 c, .int .u32 t, .int .u8 k, .int .u8 y, .int .u16 v]] w fun e w' => e = .returned (.int .i64 0) ∧ Blk w' b (slV (x.put 1 ⟨true, view, c, t, k, y, v⟩)) TSl ∧ Frm (· = b) w w' := by
  have HB := hid h
  have hlt := h.lt
  have q0 := h.cell 14; have q1 := h.cell 15; have q2 := h.cell 16; have q3 := h.cell 17; have q4 := h.cell 18; have q5 := h.cell 19; have q6 := h.cell 20
  simp only [slV, sdV, List.cons_append, List.nil_append, List.getElem?_cons_succ, List.getElem?_cons_zero] at q0 q1 q2 q3 q4 q5 q6
  have z0 := h.free 14; have z1 := h.free 15; have z2 := h.free 16; have z3 := h.free 17; have z4 := h.free 18; have z5 := h.free 19; have z6 := h.free 20
  unfold old at hv
  obtain ⟨th, hth⟩ : ∃ th, x.p1.th = th := ⟨_, rfl⟩
  rw [hth] at q0 hv
  clear hth h
  cases th
  · clear hv
    go_enter Try.func30, Try.ntmps30
    go_wp2
    go_region
    go_wp2
    go_ret
    refine ⟨rfl, ?_, ((((((((((Frm.refl (· = b) w).setCell ⟨b, 14, none⟩ _ (.inr rfl)).setCell ⟨b, 15, none⟩ _ (.inr rfl)).setCell ⟨b, 16, none⟩ _ (.inr rfl)).setCell ⟨b, 17, none⟩ _ (.inr rfl)).setCell ⟨b, 18, none⟩ _ (.inr rfl)).setCell ⟨b, 19, none⟩ _ (.inr rfl)).setCell ⟨b, 20, none⟩ _ (.inr rfl)).alloc _).alloc _).drew⟩
    rw [← put1 x view c t k y v]
    exact (((((((((HB.out.setCell 14 _).setCell 15 _).setCell 16 _).setCell 17 _).setCell 18 _).setCell 19 _).setCell 20 _).alloc _).alloc _).drew
  · rw [Bool.true_and, decide_eq_false_iff_not] at hv
    go_enter Try.func30, Try.ntmps30
    go_wp2
    go_region
    go_wp2
    go_ret
    refine ⟨rfl, ?_, ((((((((((Frm.refl (· = b) w).setCell ⟨b, 14, none⟩ _ (.inr rfl)).setCell ⟨b, 15, none⟩ _ (.inr rfl)).setCell ⟨b, 16, none⟩ _ (.inr rfl)).setCell ⟨b, 17, none⟩ _ (.inr rfl)).setCell ⟨b, 18, none⟩ _ (.inr rfl)).setCell ⟨b, 19, none⟩ _ (.inr rfl)).setCell ⟨b, 20, none⟩ _ (.inr rfl)).alloc _).alloc _).drew⟩
    rw [← put1 x view c t k y v]
    exact (((((((((HB.out.setCell 14 _).setCell 15 _).setCell 16 _).setCell 17 _).setCell 18 _).setCell 19 _).setCell 20 _).alloc _).alloc _).drew
theorem Says2_old {w : World} {b : Nat} (x : Sl) (h : Blk w b (slV x) TSl) (view c t k y v : Int) (hv : old x.p2 view = true) :
    Calls Try.prog 30 #[.pointer (some ⟨b, 7, none⟩), .int .u8 2, .int .u32 view, .agg #[.int .u8 c, .int .u32 t, .int .u8 k, .int .u8 y, .int .u16 v]] w fun e w' => e = .returned (.int .i64 121) ∧ Blk w' b (slV x) TSl ∧ Frm (· = b) w w' := by
  have HB := hid h
  have hlt := h.lt
  have q0 := h.cell 21; have q1 := h.cell 22; have q2 := h.cell 23; have q3 := h.cell 24; have q4 := h.cell 25; have q5 := h.cell 26; have q6 := h.cell 27
  simp only [slV, sdV, List.cons_append, List.nil_append, List.getElem?_cons_succ, List.getElem?_cons_zero] at q0 q1 q2 q3 q4 q5 q6
  unfold old at hv
  rw [Bool.and_eq_true, decide_eq_true_eq] at hv
  obtain ⟨hv0, hv1⟩ := hv
  rw [hv0] at q0
  clear h hv0
  go_enter Try.func30, Try.ntmps30
  go_wp2
  go_ret
  exact ⟨rfl, (HB.out.alloc _).alloc _, ((Frm.refl _ _).alloc _).alloc _⟩
theorem put2 (x : Sl) (view c t k y v : Int) : (((((((slV x).set 21 (.bool true)).set 22 (.int .u32 view)).set 23 (.int .u8 c)).set 24 (.int .u32 t)).set 25 (.int .u8 k)).set 26 (.int .u8 y)).set 27 (.int .u16 v) = slV (x.put 2 ⟨true, view, c, t, k, y, v⟩) := rfl
set_option maxHeartbeats 1000000 in
theorem Says2_new {w : World} {b : Nat} (x : Sl) (h : Blk w b (slV x) TSl) (view c t k y v : Int) (hv : old x.p2 view = false) :
    Calls Try.prog 30 #[.pointer (some ⟨b, 7, none⟩), .int .u8 2, .int .u32 view, .agg #[.int .u8 c, .int .u32 t, .int .u8 k, .int .u8 y, .int .u16 v]] w fun e w' => e = .returned (.int .i64 0) ∧ Blk w' b (slV (x.put 2 ⟨true, view, c, t, k, y, v⟩)) TSl ∧ Frm (· = b) w w' := by
  have HB := hid h
  have hlt := h.lt
  have q0 := h.cell 21; have q1 := h.cell 22; have q2 := h.cell 23; have q3 := h.cell 24; have q4 := h.cell 25; have q5 := h.cell 26; have q6 := h.cell 27
  simp only [slV, sdV, List.cons_append, List.nil_append, List.getElem?_cons_succ, List.getElem?_cons_zero] at q0 q1 q2 q3 q4 q5 q6
  have z0 := h.free 21; have z1 := h.free 22; have z2 := h.free 23; have z3 := h.free 24; have z4 := h.free 25; have z5 := h.free 26; have z6 := h.free 27
  unfold old at hv
  obtain ⟨th, hth⟩ : ∃ th, x.p2.th = th := ⟨_, rfl⟩
  rw [hth] at q0 hv
  clear hth h
  cases th
  · clear hv
    go_enter Try.func30, Try.ntmps30
    go_wp2
    go_region
    go_wp2
    go_ret
    refine ⟨rfl, ?_, ((((((((((Frm.refl (· = b) w).setCell ⟨b, 21, none⟩ _ (.inr rfl)).setCell ⟨b, 22, none⟩ _ (.inr rfl)).setCell ⟨b, 23, none⟩ _ (.inr rfl)).setCell ⟨b, 24, none⟩ _ (.inr rfl)).setCell ⟨b, 25, none⟩ _ (.inr rfl)).setCell ⟨b, 26, none⟩ _ (.inr rfl)).setCell ⟨b, 27, none⟩ _ (.inr rfl)).alloc _).alloc _).drew⟩
    rw [← put2 x view c t k y v]
    exact (((((((((HB.out.setCell 21 _).setCell 22 _).setCell 23 _).setCell 24 _).setCell 25 _).setCell 26 _).setCell 27 _).alloc _).alloc _).drew
  · rw [Bool.true_and, decide_eq_false_iff_not] at hv
    go_enter Try.func30, Try.ntmps30
    go_wp2
    go_region
    go_wp2
    go_ret
    refine ⟨rfl, ?_, ((((((((((Frm.refl (· = b) w).setCell ⟨b, 21, none⟩ _ (.inr rfl)).setCell ⟨b, 22, none⟩ _ (.inr rfl)).setCell ⟨b, 23, none⟩ _ (.inr rfl)).setCell ⟨b, 24, none⟩ _ (.inr rfl)).setCell ⟨b, 25, none⟩ _ (.inr rfl)).setCell ⟨b, 26, none⟩ _ (.inr rfl)).setCell ⟨b, 27, none⟩ _ (.inr rfl)).alloc _).alloc _).drew⟩
    rw [← put2 x view c t k y v]
    exact (((((((((HB.out.setCell 21 _).setCell 22 _).setCell 23 _).setCell 24 _).setCell 25 _).setCell 26 _).setCell 27 _).alloc _).alloc _).drew
theorem Says3_old {w : World} {b : Nat} (x : Sl) (h : Blk w b (slV x) TSl) (view c t k y v : Int) (hv : old x.p3 view = true) :
    Calls Try.prog 30 #[.pointer (some ⟨b, 7, none⟩), .int .u8 3, .int .u32 view, .agg #[.int .u8 c, .int .u32 t, .int .u8 k, .int .u8 y, .int .u16 v]] w fun e w' => e = .returned (.int .i64 121) ∧ Blk w' b (slV x) TSl ∧ Frm (· = b) w w' := by
  have HB := hid h
  have hlt := h.lt
  have q0 := h.cell 28; have q1 := h.cell 29; have q2 := h.cell 30; have q3 := h.cell 31; have q4 := h.cell 32; have q5 := h.cell 33; have q6 := h.cell 34
  simp only [slV, sdV, List.cons_append, List.nil_append, List.getElem?_cons_succ, List.getElem?_cons_zero] at q0 q1 q2 q3 q4 q5 q6
  unfold old at hv
  rw [Bool.and_eq_true, decide_eq_true_eq] at hv
  obtain ⟨hv0, hv1⟩ := hv
  rw [hv0] at q0
  clear h hv0
  go_enter Try.func30, Try.ntmps30
  go_wp2
  go_ret
  exact ⟨rfl, (HB.out.alloc _).alloc _, ((Frm.refl _ _).alloc _).alloc _⟩
theorem put3 (x : Sl) (view c t k y v : Int) : (((((((slV x).set 28 (.bool true)).set 29 (.int .u32 view)).set 30 (.int .u8 c)).set 31 (.int .u32 t)).set 32 (.int .u8 k)).set 33 (.int .u8 y)).set 34 (.int .u16 v) = slV (x.put 3 ⟨true, view, c, t, k, y, v⟩) := rfl
set_option maxHeartbeats 1000000 in
theorem Says3_new {w : World} {b : Nat} (x : Sl) (h : Blk w b (slV x) TSl) (view c t k y v : Int) (hv : old x.p3 view = false) :
    Calls Try.prog 30 #[.pointer (some ⟨b, 7, none⟩), .int .u8 3, .int .u32 view, .agg #[.int .u8 c, .int .u32 t, .int .u8 k, .int .u8 y, .int .u16 v]] w fun e w' => e = .returned (.int .i64 0) ∧ Blk w' b (slV (x.put 3 ⟨true, view, c, t, k, y, v⟩)) TSl ∧ Frm (· = b) w w' := by
  have HB := hid h
  have hlt := h.lt
  have q0 := h.cell 28; have q1 := h.cell 29; have q2 := h.cell 30; have q3 := h.cell 31; have q4 := h.cell 32; have q5 := h.cell 33; have q6 := h.cell 34
  simp only [slV, sdV, List.cons_append, List.nil_append, List.getElem?_cons_succ, List.getElem?_cons_zero] at q0 q1 q2 q3 q4 q5 q6
  have z0 := h.free 28; have z1 := h.free 29; have z2 := h.free 30; have z3 := h.free 31; have z4 := h.free 32; have z5 := h.free 33; have z6 := h.free 34
  unfold old at hv
  obtain ⟨th, hth⟩ : ∃ th, x.p3.th = th := ⟨_, rfl⟩
  rw [hth] at q0 hv
  clear hth h
  cases th
  · clear hv
    go_enter Try.func30, Try.ntmps30
    go_wp2
    go_region
    go_wp2
    go_ret
    refine ⟨rfl, ?_, ((((((((((Frm.refl (· = b) w).setCell ⟨b, 28, none⟩ _ (.inr rfl)).setCell ⟨b, 29, none⟩ _ (.inr rfl)).setCell ⟨b, 30, none⟩ _ (.inr rfl)).setCell ⟨b, 31, none⟩ _ (.inr rfl)).setCell ⟨b, 32, none⟩ _ (.inr rfl)).setCell ⟨b, 33, none⟩ _ (.inr rfl)).setCell ⟨b, 34, none⟩ _ (.inr rfl)).alloc _).alloc _).drew⟩
    rw [← put3 x view c t k y v]
    exact (((((((((HB.out.setCell 28 _).setCell 29 _).setCell 30 _).setCell 31 _).setCell 32 _).setCell 33 _).setCell 34 _).alloc _).alloc _).drew
  · rw [Bool.true_and, decide_eq_false_iff_not] at hv
    go_enter Try.func30, Try.ntmps30
    go_wp2
    go_region
    go_wp2
    go_ret
    refine ⟨rfl, ?_, ((((((((((Frm.refl (· = b) w).setCell ⟨b, 28, none⟩ _ (.inr rfl)).setCell ⟨b, 29, none⟩ _ (.inr rfl)).setCell ⟨b, 30, none⟩ _ (.inr rfl)).setCell ⟨b, 31, none⟩ _ (.inr rfl)).setCell ⟨b, 32, none⟩ _ (.inr rfl)).setCell ⟨b, 33, none⟩ _ (.inr rfl)).setCell ⟨b, 34, none⟩ _ (.inr rfl)).alloc _).alloc _).drew⟩
    rw [← put3 x view c t k y v]
    exact (((((((((HB.out.setCell 28 _).setCell 29 _).setCell 30 _).setCell 31 _).setCell 32 _).setCell 33 _).setCell 34 _).alloc _).alloc _).drew
theorem Says4_old {w : World} {b : Nat} (x : Sl) (h : Blk w b (slV x) TSl) (view c t k y v : Int) (hv : old x.c0 view = true) :
    Calls Try.prog 30 #[.pointer (some ⟨b, 35, none⟩), .int .u8 0, .int .u32 view, .agg #[.int .u8 c, .int .u32 t, .int .u8 k, .int .u8 y, .int .u16 v]] w fun e w' => e = .returned (.int .i64 121) ∧ Blk w' b (slV x) TSl ∧ Frm (· = b) w w' := by
  have HB := hid h
  have hlt := h.lt
  have q0 := h.cell 35; have q1 := h.cell 36; have q2 := h.cell 37; have q3 := h.cell 38; have q4 := h.cell 39; have q5 := h.cell 40; have q6 := h.cell 41
  simp only [slV, sdV, List.cons_append, List.nil_append, List.getElem?_cons_succ, List.getElem?_cons_zero] at q0 q1 q2 q3 q4 q5 q6
  unfold old at hv
  rw [Bool.and_eq_true, decide_eq_true_eq] at hv
  obtain ⟨hv0, hv1⟩ := hv
  rw [hv0] at q0
  clear h hv0
  go_enter Try.func30, Try.ntmps30
  go_wp2
  go_ret
  exact ⟨rfl, (HB.out.alloc _).alloc _, ((Frm.refl _ _).alloc _).alloc _⟩
theorem put4 (x : Sl) (view c t k y v : Int) : (((((((slV x).set 35 (.bool true)).set 36 (.int .u32 view)).set 37 (.int .u8 c)).set 38 (.int .u32 t)).set 39 (.int .u8 k)).set 40 (.int .u8 y)).set 41 (.int .u16 v) = slV (x.put 4 ⟨true, view, c, t, k, y, v⟩) := rfl
set_option maxHeartbeats 1000000 in
theorem Says4_new {w : World} {b : Nat} (x : Sl) (h : Blk w b (slV x) TSl) (view c t k y v : Int) (hv : old x.c0 view = false) :
    Calls Try.prog 30 #[.pointer (some ⟨b, 35, none⟩), .int .u8 0, .int .u32 view, .agg #[.int .u8 c, .int .u32 t, .int .u8 k, .int .u8 y, .int .u16 v]] w fun e w' => e = .returned (.int .i64 0) ∧ Blk w' b (slV (x.put 4 ⟨true, view, c, t, k, y, v⟩)) TSl ∧ Frm (· = b) w w' := by
  have HB := hid h
  have hlt := h.lt
  have q0 := h.cell 35; have q1 := h.cell 36; have q2 := h.cell 37; have q3 := h.cell 38; have q4 := h.cell 39; have q5 := h.cell 40; have q6 := h.cell 41
  simp only [slV, sdV, List.cons_append, List.nil_append, List.getElem?_cons_succ, List.getElem?_cons_zero] at q0 q1 q2 q3 q4 q5 q6
  have z0 := h.free 35; have z1 := h.free 36; have z2 := h.free 37; have z3 := h.free 38; have z4 := h.free 39; have z5 := h.free 40; have z6 := h.free 41
  unfold old at hv
  obtain ⟨th, hth⟩ : ∃ th, x.c0.th = th := ⟨_, rfl⟩
  rw [hth] at q0 hv
  clear hth h
  cases th
  · clear hv
    go_enter Try.func30, Try.ntmps30
    go_wp2
    go_region
    go_wp2
    go_ret
    refine ⟨rfl, ?_, ((((((((((Frm.refl (· = b) w).setCell ⟨b, 35, none⟩ _ (.inr rfl)).setCell ⟨b, 36, none⟩ _ (.inr rfl)).setCell ⟨b, 37, none⟩ _ (.inr rfl)).setCell ⟨b, 38, none⟩ _ (.inr rfl)).setCell ⟨b, 39, none⟩ _ (.inr rfl)).setCell ⟨b, 40, none⟩ _ (.inr rfl)).setCell ⟨b, 41, none⟩ _ (.inr rfl)).alloc _).alloc _).drew⟩
    rw [← put4 x view c t k y v]
    exact (((((((((HB.out.setCell 35 _).setCell 36 _).setCell 37 _).setCell 38 _).setCell 39 _).setCell 40 _).setCell 41 _).alloc _).alloc _).drew
  · rw [Bool.true_and, decide_eq_false_iff_not] at hv
    go_enter Try.func30, Try.ntmps30
    go_wp2
    go_region
    go_wp2
    go_ret
    refine ⟨rfl, ?_, ((((((((((Frm.refl (· = b) w).setCell ⟨b, 35, none⟩ _ (.inr rfl)).setCell ⟨b, 36, none⟩ _ (.inr rfl)).setCell ⟨b, 37, none⟩ _ (.inr rfl)).setCell ⟨b, 38, none⟩ _ (.inr rfl)).setCell ⟨b, 39, none⟩ _ (.inr rfl)).setCell ⟨b, 40, none⟩ _ (.inr rfl)).setCell ⟨b, 41, none⟩ _ (.inr rfl)).alloc _).alloc _).drew⟩
    rw [← put4 x view c t k y v]
    exact (((((((((HB.out.setCell 35 _).setCell 36 _).setCell 37 _).setCell 38 _).setCell 39 _).setCell 40 _).setCell 41 _).alloc _).alloc _).drew
theorem Says5_old {w : World} {b : Nat} (x : Sl) (h : Blk w b (slV x) TSl) (view c t k y v : Int) (hv : old x.c1 view = true) :
    Calls Try.prog 30 #[.pointer (some ⟨b, 35, none⟩), .int .u8 1, .int .u32 view, .agg #[.int .u8 c, .int .u32 t, .int .u8 k, .int .u8 y, .int .u16 v]] w fun e w' => e = .returned (.int .i64 121) ∧ Blk w' b (slV x) TSl ∧ Frm (· = b) w w' := by
  have HB := hid h
  have hlt := h.lt
  have q0 := h.cell 42; have q1 := h.cell 43; have q2 := h.cell 44; have q3 := h.cell 45; have q4 := h.cell 46; have q5 := h.cell 47; have q6 := h.cell 48
  simp only [slV, sdV, List.cons_append, List.nil_append, List.getElem?_cons_succ, List.getElem?_cons_zero] at q0 q1 q2 q3 q4 q5 q6
  unfold old at hv
  rw [Bool.and_eq_true, decide_eq_true_eq] at hv
  obtain ⟨hv0, hv1⟩ := hv
  rw [hv0] at q0
  clear h hv0
  go_enter Try.func30, Try.ntmps30
  go_wp2
  go_ret
  exact ⟨rfl, (HB.out.alloc _).alloc _, ((Frm.refl _ _).alloc _).alloc _⟩
theorem put5 (x : Sl) (view c t k y v : Int) : (((((((slV x).set 42 (.bool true)).set 43 (.int .u32 view)).set 44 (.int .u8 c)).set 45 (.int .u32 t)).set 46 (.int .u8 k)).set 47 (.int .u8 y)).set 48 (.int .u16 v) = slV (x.put 5 ⟨true, view, c, t, k, y, v⟩) := rfl
set_option maxHeartbeats 1000000 in
theorem Says5_new {w : World} {b : Nat} (x : Sl) (h : Blk w b (slV x) TSl) (view c t k y v : Int) (hv : old x.c1 view = false) :
    Calls Try.prog 30 #[.pointer (some ⟨b, 35, none⟩), .int .u8 1, .int .u32 view, .agg #[.int .u8 c, .int .u32 t, .int .u8 k, .int .u8 y, .int .u16 v]] w fun e w' => e = .returned (.int .i64 0) ∧ Blk w' b (slV (x.put 5 ⟨true, view, c, t, k, y, v⟩)) TSl ∧ Frm (· = b) w w' := by
  have HB := hid h
  have hlt := h.lt
  have q0 := h.cell 42; have q1 := h.cell 43; have q2 := h.cell 44; have q3 := h.cell 45; have q4 := h.cell 46; have q5 := h.cell 47; have q6 := h.cell 48
  simp only [slV, sdV, List.cons_append, List.nil_append, List.getElem?_cons_succ, List.getElem?_cons_zero] at q0 q1 q2 q3 q4 q5 q6
  have z0 := h.free 42; have z1 := h.free 43; have z2 := h.free 44; have z3 := h.free 45; have z4 := h.free 46; have z5 := h.free 47; have z6 := h.free 48
  unfold old at hv
  obtain ⟨th, hth⟩ : ∃ th, x.c1.th = th := ⟨_, rfl⟩
  rw [hth] at q0 hv
  clear hth h
  cases th
  · clear hv
    go_enter Try.func30, Try.ntmps30
    go_wp2
    go_region
    go_wp2
    go_ret
    refine ⟨rfl, ?_, ((((((((((Frm.refl (· = b) w).setCell ⟨b, 42, none⟩ _ (.inr rfl)).setCell ⟨b, 43, none⟩ _ (.inr rfl)).setCell ⟨b, 44, none⟩ _ (.inr rfl)).setCell ⟨b, 45, none⟩ _ (.inr rfl)).setCell ⟨b, 46, none⟩ _ (.inr rfl)).setCell ⟨b, 47, none⟩ _ (.inr rfl)).setCell ⟨b, 48, none⟩ _ (.inr rfl)).alloc _).alloc _).drew⟩
    rw [← put5 x view c t k y v]
    exact (((((((((HB.out.setCell 42 _).setCell 43 _).setCell 44 _).setCell 45 _).setCell 46 _).setCell 47 _).setCell 48 _).alloc _).alloc _).drew
  · rw [Bool.true_and, decide_eq_false_iff_not] at hv
    go_enter Try.func30, Try.ntmps30
    go_wp2
    go_region
    go_wp2
    go_ret
    refine ⟨rfl, ?_, ((((((((((Frm.refl (· = b) w).setCell ⟨b, 42, none⟩ _ (.inr rfl)).setCell ⟨b, 43, none⟩ _ (.inr rfl)).setCell ⟨b, 44, none⟩ _ (.inr rfl)).setCell ⟨b, 45, none⟩ _ (.inr rfl)).setCell ⟨b, 46, none⟩ _ (.inr rfl)).setCell ⟨b, 47, none⟩ _ (.inr rfl)).setCell ⟨b, 48, none⟩ _ (.inr rfl)).alloc _).alloc _).drew⟩
    rw [← put5 x view c t k y v]
    exact (((((((((HB.out.setCell 42 _).setCell 43 _).setCell 44 _).setCell 45 _).setCell 46 _).setCell 47 _).setCell 48 _).alloc _).alloc _).drew
theorem Says6_old {w : World} {b : Nat} (x : Sl) (h : Blk w b (slV x) TSl) (view c t k y v : Int) (hv : old x.c2 view = true) :
    Calls Try.prog 30 #[.pointer (some ⟨b, 35, none⟩), .int .u8 2, .int .u32 view, .agg #[.int .u8 c, .int .u32 t, .int .u8 k, .int .u8 y, .int .u16 v]] w fun e w' => e = .returned (.int .i64 121) ∧ Blk w' b (slV x) TSl ∧ Frm (· = b) w w' := by
  have HB := hid h
  have hlt := h.lt
  have q0 := h.cell 49; have q1 := h.cell 50; have q2 := h.cell 51; have q3 := h.cell 52; have q4 := h.cell 53; have q5 := h.cell 54; have q6 := h.cell 55
  simp only [slV, sdV, List.cons_append, List.nil_append, List.getElem?_cons_succ, List.getElem?_cons_zero] at q0 q1 q2 q3 q4 q5 q6
  unfold old at hv
  rw [Bool.and_eq_true, decide_eq_true_eq] at hv
  obtain ⟨hv0, hv1⟩ := hv
  rw [hv0] at q0
  clear h hv0
  go_enter Try.func30, Try.ntmps30
  go_wp2
  go_ret
  exact ⟨rfl, (HB.out.alloc _).alloc _, ((Frm.refl _ _).alloc _).alloc _⟩
theorem put6 (x : Sl) (view c t k y v : Int) : (((((((slV x).set 49 (.bool true)).set 50 (.int .u32 view)).set 51 (.int .u8 c)).set 52 (.int .u32 t)).set 53 (.int .u8 k)).set 54 (.int .u8 y)).set 55 (.int .u16 v) = slV (x.put 6 ⟨true, view, c, t, k, y, v⟩) := rfl
set_option maxHeartbeats 1000000 in
theorem Says6_new {w : World} {b : Nat} (x : Sl) (h : Blk w b (slV x) TSl) (view c t k y v : Int) (hv : old x.c2 view = false) :
    Calls Try.prog 30 #[.pointer (some ⟨b, 35, none⟩), .int .u8 2, .int .u32 view, .agg #[.int .u8 c, .int .u32 t, .int .u8 k, .int .u8 y, .int .u16 v]] w fun e w' => e = .returned (.int .i64 0) ∧ Blk w' b (slV (x.put 6 ⟨true, view, c, t, k, y, v⟩)) TSl ∧ Frm (· = b) w w' := by
  have HB := hid h
  have hlt := h.lt
  have q0 := h.cell 49; have q1 := h.cell 50; have q2 := h.cell 51; have q3 := h.cell 52; have q4 := h.cell 53; have q5 := h.cell 54; have q6 := h.cell 55
  simp only [slV, sdV, List.cons_append, List.nil_append, List.getElem?_cons_succ, List.getElem?_cons_zero] at q0 q1 q2 q3 q4 q5 q6
  have z0 := h.free 49; have z1 := h.free 50; have z2 := h.free 51; have z3 := h.free 52; have z4 := h.free 53; have z5 := h.free 54; have z6 := h.free 55
  unfold old at hv
  obtain ⟨th, hth⟩ : ∃ th, x.c2.th = th := ⟨_, rfl⟩
  rw [hth] at q0 hv
  clear hth h
  cases th
  · clear hv
    go_enter Try.func30, Try.ntmps30
    go_wp2
    go_region
    go_wp2
    go_ret
    refine ⟨rfl, ?_, ((((((((((Frm.refl (· = b) w).setCell ⟨b, 49, none⟩ _ (.inr rfl)).setCell ⟨b, 50, none⟩ _ (.inr rfl)).setCell ⟨b, 51, none⟩ _ (.inr rfl)).setCell ⟨b, 52, none⟩ _ (.inr rfl)).setCell ⟨b, 53, none⟩ _ (.inr rfl)).setCell ⟨b, 54, none⟩ _ (.inr rfl)).setCell ⟨b, 55, none⟩ _ (.inr rfl)).alloc _).alloc _).drew⟩
    rw [← put6 x view c t k y v]
    exact (((((((((HB.out.setCell 49 _).setCell 50 _).setCell 51 _).setCell 52 _).setCell 53 _).setCell 54 _).setCell 55 _).alloc _).alloc _).drew
  · rw [Bool.true_and, decide_eq_false_iff_not] at hv
    go_enter Try.func30, Try.ntmps30
    go_wp2
    go_region
    go_wp2
    go_ret
    refine ⟨rfl, ?_, ((((((((((Frm.refl (· = b) w).setCell ⟨b, 49, none⟩ _ (.inr rfl)).setCell ⟨b, 50, none⟩ _ (.inr rfl)).setCell ⟨b, 51, none⟩ _ (.inr rfl)).setCell ⟨b, 52, none⟩ _ (.inr rfl)).setCell ⟨b, 53, none⟩ _ (.inr rfl)).setCell ⟨b, 54, none⟩ _ (.inr rfl)).setCell ⟨b, 55, none⟩ _ (.inr rfl)).alloc _).alloc _).drew⟩
    rw [← put6 x view c t k y v]
    exact (((((((((HB.out.setCell 49 _).setCell 50 _).setCell 51 _).setCell 52 _).setCell 53 _).setCell 54 _).setCell 55 _).alloc _).alloc _).drew
theorem Says7_old {w : World} {b : Nat} (x : Sl) (h : Blk w b (slV x) TSl) (view c t k y v : Int) (hv : old x.c3 view = true) :
    Calls Try.prog 30 #[.pointer (some ⟨b, 35, none⟩), .int .u8 3, .int .u32 view, .agg #[.int .u8 c, .int .u32 t, .int .u8 k, .int .u8 y, .int .u16 v]] w fun e w' => e = .returned (.int .i64 121) ∧ Blk w' b (slV x) TSl ∧ Frm (· = b) w w' := by
  have HB := hid h
  have hlt := h.lt
  have q0 := h.cell 56; have q1 := h.cell 57; have q2 := h.cell 58; have q3 := h.cell 59; have q4 := h.cell 60; have q5 := h.cell 61; have q6 := h.cell 62
  simp only [slV, sdV, List.cons_append, List.nil_append, List.getElem?_cons_succ, List.getElem?_cons_zero] at q0 q1 q2 q3 q4 q5 q6
  unfold old at hv
  rw [Bool.and_eq_true, decide_eq_true_eq] at hv
  obtain ⟨hv0, hv1⟩ := hv
  rw [hv0] at q0
  clear h hv0
  go_enter Try.func30, Try.ntmps30
  go_wp2
  go_ret
  exact ⟨rfl, (HB.out.alloc _).alloc _, ((Frm.refl _ _).alloc _).alloc _⟩
theorem put7 (x : Sl) (view c t k y v : Int) : (((((((slV x).set 56 (.bool true)).set 57 (.int .u32 view)).set 58 (.int .u8 c)).set 59 (.int .u32 t)).set 60 (.int .u8 k)).set 61 (.int .u8 y)).set 62 (.int .u16 v) = slV (x.put 7 ⟨true, view, c, t, k, y, v⟩) := rfl
set_option maxHeartbeats 1000000 in
theorem Says7_new {w : World} {b : Nat} (x : Sl) (h : Blk w b (slV x) TSl) (view c t k y v : Int) (hv : old x.c3 view = false) :
    Calls Try.prog 30 #[.pointer (some ⟨b, 35, none⟩), .int .u8 3, .int .u32 view, .agg #[.int .u8 c, .int .u32 t, .int .u8 k, .int .u8 y, .int .u16 v]] w fun e w' => e = .returned (.int .i64 0) ∧ Blk w' b (slV (x.put 7 ⟨true, view, c, t, k, y, v⟩)) TSl ∧ Frm (· = b) w w' := by
  have HB := hid h
  have hlt := h.lt
  have q0 := h.cell 56; have q1 := h.cell 57; have q2 := h.cell 58; have q3 := h.cell 59; have q4 := h.cell 60; have q5 := h.cell 61; have q6 := h.cell 62
  simp only [slV, sdV, List.cons_append, List.nil_append, List.getElem?_cons_succ, List.getElem?_cons_zero] at q0 q1 q2 q3 q4 q5 q6
  have z0 := h.free 56; have z1 := h.free 57; have z2 := h.free 58; have z3 := h.free 59; have z4 := h.free 60; have z5 := h.free 61; have z6 := h.free 62
  unfold old at hv
  obtain ⟨th, hth⟩ : ∃ th, x.c3.th = th := ⟨_, rfl⟩
  rw [hth] at q0 hv
  clear hth h
  cases th
  · clear hv
    go_enter Try.func30, Try.ntmps30
    go_wp2
    go_region
    go_wp2
    go_ret
    refine ⟨rfl, ?_, ((((((((((Frm.refl (· = b) w).setCell ⟨b, 56, none⟩ _ (.inr rfl)).setCell ⟨b, 57, none⟩ _ (.inr rfl)).setCell ⟨b, 58, none⟩ _ (.inr rfl)).setCell ⟨b, 59, none⟩ _ (.inr rfl)).setCell ⟨b, 60, none⟩ _ (.inr rfl)).setCell ⟨b, 61, none⟩ _ (.inr rfl)).setCell ⟨b, 62, none⟩ _ (.inr rfl)).alloc _).alloc _).drew⟩
    rw [← put7 x view c t k y v]
    exact (((((((((HB.out.setCell 56 _).setCell 57 _).setCell 58 _).setCell 59 _).setCell 60 _).setCell 61 _).setCell 62 _).alloc _).alloc _).drew
  · rw [Bool.true_and, decide_eq_false_iff_not] at hv
    go_enter Try.func30, Try.ntmps30
    go_wp2
    go_region
    go_wp2
    go_ret
    refine ⟨rfl, ?_, ((((((((((Frm.refl (· = b) w).setCell ⟨b, 56, none⟩ _ (.inr rfl)).setCell ⟨b, 57, none⟩ _ (.inr rfl)).setCell ⟨b, 58, none⟩ _ (.inr rfl)).setCell ⟨b, 59, none⟩ _ (.inr rfl)).setCell ⟨b, 60, none⟩ _ (.inr rfl)).setCell ⟨b, 61, none⟩ _ (.inr rfl)).setCell ⟨b, 62, none⟩ _ (.inr rfl)).alloc _).alloc _).drew⟩
    rw [← put7 x view c t k y v]
    exact (((((((((HB.out.setCell 56 _).setCell 57 _).setCell 58 _).setCell 59 _).setCell 60 _).setCell 61 _).setCell 62 _).alloc _).alloc _).drew
def oldC (s : Sd) (view : Int) : Int := if old s view = true then 121 else 0
/-- What says does to a slot. -/
def sayX (x : Sl) (q : Nat) (view c t k y v : Int) : Sl := if old (x.get q) view = true then x else x.put q ⟨true, view, c, t, k, y, v⟩
theorem oldC_new {s : Sd} {view : Int} (h : old s view = false) : oldC s view = 0 := if_neg (by rw [h]; decide)
theorem oldC_old {s : Sd} {view : Int} (h : old s view = true) : oldC s view = 121 := if_pos h
theorem sayX_new {x : Sl} {q : Nat} {view c t k y v : Int} (h : old (x.get q) view = false) : sayX x q view c t k y v = x.put q ⟨true, view, c, t, k, y, v⟩ := if_neg (by rw [h]; decide)
theorem sayX_old {x : Sl} {q : Nat} {view c t k y v : Int} (h : old (x.get q) view = true) : sayX x q view c t k y v = x := if_pos h
theorem Says_calls {w : World} {b : Nat} (x : Sl) (h : Blk w b (slV x) TSl) (q i base : Nat) (hq : q < 8) (hb : base = if q < 4 then 7 else 35) (hi : i = q % 4) (view c t k y v code : Int) (hc : oldC (x.get q) view = code) :
    Calls Try.prog 30 #[.pointer (some ⟨b, base, none⟩), .int .u8 i, .int .u32 view, .agg #[.int .u8 c, .int .u32 t, .int .u8 k, .int .u8 y, .int .u16 v]] w fun e w' => e = .returned (.int .i64 code) ∧ Blk w' b (slV (sayX x q view c t k y v)) TSl ∧ Frm (· = b) w w' := by
  rcases (show q = 0 ∨ q = 1 ∨ q = 2 ∨ q = 3 ∨ q = 4 ∨ q = 5 ∨ q = 6 ∨ q = 7 by omega) with rfl | rfl | rfl | rfl | rfl | rfl | rfl | rfl
  · obtain rfl : base = 7 := hb
    obtain rfl : i = 0 := hi
    cases hz : old (x.get 0) view
    · rw [← hc, oldC_new hz, sayX_new hz]; exact Says0_new x h view c t k y v hz
    · rw [← hc, oldC_old hz, sayX_old hz]; exact Says0_old x h view c t k y v hz
  · obtain rfl : base = 7 := hb
    obtain rfl : i = 1 := hi
    cases hz : old (x.get 1) view
    · rw [← hc, oldC_new hz, sayX_new hz]; exact Says1_new x h view c t k y v hz
    · rw [← hc, oldC_old hz, sayX_old hz]; exact Says1_old x h view c t k y v hz
  · obtain rfl : base = 7 := hb
    obtain rfl : i = 2 := hi
    cases hz : old (x.get 2) view
    · rw [← hc, oldC_new hz, sayX_new hz]; exact Says2_new x h view c t k y v hz
    · rw [← hc, oldC_old hz, sayX_old hz]; exact Says2_old x h view c t k y v hz
  · obtain rfl : base = 7 := hb
    obtain rfl : i = 3 := hi
    cases hz : old (x.get 3) view
    · rw [← hc, oldC_new hz, sayX_new hz]; exact Says3_new x h view c t k y v hz
    · rw [← hc, oldC_old hz, sayX_old hz]; exact Says3_old x h view c t k y v hz
  · obtain rfl : base = 35 := hb
    obtain rfl : i = 0 := hi
    cases hz : old (x.get 4) view
    · rw [← hc, oldC_new hz, sayX_new hz]; exact Says4_new x h view c t k y v hz
    · rw [← hc, oldC_old hz, sayX_old hz]; exact Says4_old x h view c t k y v hz
  · obtain rfl : base = 35 := hb
    obtain rfl : i = 1 := hi
    cases hz : old (x.get 5) view
    · rw [← hc, oldC_new hz, sayX_new hz]; exact Says5_new x h view c t k y v hz
    · rw [← hc, oldC_old hz, sayX_old hz]; exact Says5_old x h view c t k y v hz
  · obtain rfl : base = 35 := hb
    obtain rfl : i = 2 := hi
    cases hz : old (x.get 6) view
    · rw [← hc, oldC_new hz, sayX_new hz]; exact Says6_new x h view c t k y v hz
    · rw [← hc, oldC_old hz, sayX_old hz]; exact Says6_old x h view c t k y v hz
  · obtain rfl : base = 35 := hb
    obtain rfl : i = 3 := hi
    cases hz : old (x.get 7) view
    · rw [← hc, oldC_new hz, sayX_new hz]; exact Says7_new x h view c t k y v hz
    · rw [← hc, oldC_old hz, sayX_old hz]; exact Says7_old x h view c t k y v hz
end Go.Proofs.Ytijomhinfcahpaa
