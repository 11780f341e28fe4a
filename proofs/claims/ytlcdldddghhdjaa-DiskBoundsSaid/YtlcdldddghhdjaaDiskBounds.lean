/- DiskBounds, walked: so many bytes an area holds; one more is refused. -/
import Derived.Test.YtlcdldddghhdjaaDiskKnown
import Derived.Laws.OwnMore
namespace Go.Proofs.Ytlcdldddghhdjaa
open Go.RowKit Go.ChangeShapes
theorem made_ints (w : World) (n : Nat) (hn : n ≤ 9223372036854775807) : IsInts .u8 (w.alloc (.cells (madeCells #[.int .u8 0] n) 5)) (some ⟨w.heap.size, 0, none⟩) (List.replicate n (0 : Int)).length (List.replicate n 0) := by
  have hl : (madeCells #[.int .u8 0] n).toList = byt (List.replicate n 0) := by rw [toList_madeCells_one]; simp [byt]
  have hb : Blk (w.alloc (.cells (madeCells #[.int .u8 0] n) 5)) w.heap.size (byt (List.replicate n 0)) 5 := by
    rw [← hl]
    have := Blk.new w (madeCells #[.int .u8 0] n).toList 5
    simpa using this
  exact IsInts.of_blk hb (by simpa using hn) (fun x hx => by rw [List.eq_of_mem_replicate hx]; decide)
/-- The disk, its second area so long. -/
def IsD1 (w : World) (b m : Nat) (ar : Bool) (n : Int) : Prop := ∃ x, x.length = m ∧ IsDk w b [] x ar n
theorem IsD1.frm {w w' : World} {b m : Nat} {ar : Bool} {n : Int} (h : IsD1 w b m ar n) (f : Frm (fun _ => False) w w') : IsD1 w' b m ar n := by
  obtain ⟨x, hx, h⟩ := h
  exact ⟨x, hx, h.frm f⟩
theorem New1 (w : World) : Calls Try.prog 7 #[] w fun e w' =>
    e = .returned (.pointer (some ⟨w.heap.size, 0, none⟩)) ∧ IsD1 w' w.heap.size 0 false 0 ∧ Below w.heap.size w w' :=
  (DNew_calls w).mono fun _ _ ⟨he, h, f⟩ => ⟨he, ⟨[], rfl, h⟩, f⟩
theorem Write7 {w : World} {b : Nat} (h : IsD1 w b 0 false 0) : Calls Try.prog 9 #[.pointer (some ⟨b, 0, none⟩), .int .i64 1, .slice (some ⟨w.heap.size, 0, none⟩) 1 1]
    (w.alloc (.cells #[.int .u8 7] 5)) fun e w' => e = .returned (.int .i64 0) ∧ IsD1 w' b 1 false 0 ∧ Frm (· = b) w w' := by
  obtain ⟨x, _, h⟩ := h
  have hx : IsInts .u8 (w.alloc (.cells #[.int .u8 7] 5)) (some ⟨w.heap.size, 0, none⟩) 1 [7] :=
    IsInts.of_blk (x := [7]) (Blk.new w (byt [7]) 5) (by decide) (by decide)
  have f0 : Frm (fun _ => False) w (w.alloc (.cells #[.int .u8 7] 5)) := (Frm.refl _ _).alloc _
  exact (Write_ok1 (h.frm f0) hx (by decide)).mono fun _ _ ⟨he, h', f'⟩ => ⟨he, ⟨[7], rfl, h'⟩, (Frm0.any f0).trans f'⟩
theorem Arm1 {w : World} {b m : Nat} (h : IsD1 w b m false 0) : Calls Try.prog 8 #[.pointer (some ⟨b, 0, none⟩), .int .i64 3] w fun e w' =>
    e = .returned (.tuple #[]) ∧ IsD1 w' b m true 3 ∧ Frm (· = b) w w' := by
  obtain ⟨x, hx, h⟩ := h
  exact (Arm_calls h 3).mono fun _ _ ⟨he, h', f'⟩ => ⟨he, ⟨x, hx, h'⟩, f'⟩
theorem Armed1 {w : World} {b m : Nat} {ar : Bool} {n : Int} (h : IsD1 w b m ar n) : Calls Try.prog 11 #[.pointer (some ⟨b, 0, none⟩)] w fun e w' =>
    e = .returned (.bool ar) ∧ w = w' := by
  obtain ⟨x, _, h⟩ := h
  exact Armed_calls h
theorem Read1 {w : World} {b m : Nat} {ar : Bool} {n : Int} (h : IsD1 w b m ar n) : Calls Try.prog 10 #[.pointer (some ⟨b, 0, none⟩), .int .i64 1] w fun e w' =>
    ∃ A c, e = .returned (.slice A m c) ∧ IsD1 w' b m ar n ∧ Frm (fun _ => False) w w' := by
  obtain ⟨x, hx, h⟩ := h
  refine (Read_calls h 1).mono ?_
  rintro e w' ⟨A, c, rfl, _, f⟩
  have f' : Frm (fun _ => False) w w' := Frm.of_below f fun k hk hk' => absurd (Nat.lt_of_lt_of_le hk hk') (Nat.lt_irrefl _)
  refine ⟨A, c, ?_, ⟨x, hx, h.frm f'⟩, f'⟩
  show Ending.returned (.slice A x.length c) = _
  rw [hx]
theorem Made0 {w : World} {b m : Nat} (k : Nat) (hk : (k : Int) = 40040) (h : IsD1 w b m false 0) : Calls Try.prog 9 #[.pointer (some ⟨b, 0, none⟩), .int .i64 1, .slice (some ⟨w.heap.size, 0, none⟩) k k]
    (w.alloc (.cells (madeCells #[.int .u8 0] k) 5)) fun e w' => e = .returned (.int .i64 0) ∧ IsD1 w' b k false 0 ∧ Frm (· = b) w w' := by
  obtain ⟨x, _, h⟩ := h
  have hx := made_ints w k (by omega)
  have hl : (List.replicate k (0 : Int)).length = k := List.length_replicate
  generalize List.replicate k (0 : Int) = y at hx hl
  subst hl
  have f0 : Frm (fun _ => False) w (w.alloc (.cells (madeCells #[.int .u8 0] y.length) 5)) := (Frm.refl _ _).alloc _
  exact (Write_ok1 (h.frm f0) hx (by omega)).mono fun _ _ ⟨he, h', f'⟩ => ⟨he, ⟨y, rfl, h'⟩, (Frm0.any f0).trans f'⟩
theorem Made3 {w : World} {b m : Nat} (k : Nat) (hk : (k : Int) = 40040) (h : IsD1 w b m true 3) : Calls Try.prog 9 #[.pointer (some ⟨b, 0, none⟩), .int .i64 1, .slice (some ⟨w.heap.size, 0, none⟩) k k]
    (w.alloc (.cells (madeCells #[.int .u8 0] k) 5)) fun e w' => e = .returned (.int .i64 70) ∧ IsD1 w' b 3 false 0 ∧ Frm (· = b) w w' := by
  obtain ⟨x, _, h⟩ := h
  have hx := made_ints w k (by omega)
  have hl : (List.replicate k (0 : Int)).length = k := List.length_replicate
  generalize List.replicate k (0 : Int) = y at hx hl
  subst hl
  have f0 : Frm (fun _ => False) w (w.alloc (.cells (madeCells #[.int .u8 0] y.length) 5)) := (Frm.refl _ _).alloc _
  exact (Write_cut1 (h.frm f0) hx (by omega) 3 (by omega)).mono fun _ _ ⟨he, h', f'⟩ => ⟨he, ⟨y.take 3, by rw [List.length_take]; omega, h'⟩, (Frm0.any f0).trans f'⟩
theorem Long1 {w : World} {b m : Nat} {ar : Bool} {n : Int} (h : IsD1 w b m ar n) (k : Nat) : Calls Try.prog 9 #[.pointer (some ⟨b, 0, none⟩), .int .i64 1, .slice (some ⟨w.heap.size, 0, none⟩) (40041 + k) (40041 + k)]
    (w.alloc (.cells (madeCells #[.int .u8 0] (40041 + k)) 5)) fun e w' => e = .returned (.int .i64 21) ∧ IsD1 w' b m ar n ∧ Frm (· = b) w w' := by
  refine (Write_long 1 (by decide) (by decide) (by omega)).mono ?_
  rintro e w' ⟨rfl, rfl⟩
  exact ⟨rfl, h.frm ((Frm.refl _ _).alloc _), (Frm.refl _ _).alloc _⟩
set_option maxHeartbeats 4000000 in
theorem DiskBounds_walk (more : Int) (armed : Bool) (w : World) (w0 : (Lit.int .u8 more).wf = true) :
    Calls Try.prog 5 #[.int .u8 more, .bool armed] w fun e w' => e = .returned (.bool true) ∧ Below w.heap.size w w' := by
  have hm := bounds_u8 w0
  clear w0
  obtain ⟨k, rfl⟩ : ∃ k : Nat, more = k := ⟨more.toNat, by omega⟩
  have hmk : ∀ w, (Instr.makeSlice 27 (.int .i64 40040) (.int .i64 40040)).run Try.prog w = .ok (.slice (some ⟨w.heap.size, 0, none⟩) 40040 40040) (w.alloc (.cells (madeCells #[.int .u8 0] 40040) 5)) := fun w =>
    run_make_row' (P := Try.prog) 27 5 (.int .u8 0) 1 Try.underlying27 u8_info rfl .i64 .i64 40040 (by omega) (by omega) w
  have hmk2 := run_make_row' (P := Try.prog) 27 5 (.int .u8 0) 1 Try.underlying27 u8_info rfl .i64 .i64 (40041 + k) (by omega) (by omega)
  have hmk1 : ∀ w, (Instr.makeSlice 27 (.int .i64 (40041 + (k : Int))) (.int .i64 (40041 + (k : Int)))).run Try.prog w = .ok (.slice (some ⟨w.heap.size, 0, none⟩) (40041 + k) (40041 + k)) (w.alloc (.cells (madeCells #[.int .u8 0] (40041 + k)) 5)) := fun w => by
    have := hmk2 w
    simpa using this
  clear hmk2
  cases armed
  · go_enter Try.func5, Try.ntmps5
    go_wp2_with (first
          | (go_at_call 6; (with_reducible refine (known_calls _).mono ?_); rintro e w' ⟨rfl, f1⟩; have HF := hid f1; clear f1)
          | (go_at_call 7; (with_reducible refine (New1 _).mono ?_); rintro e w' ⟨rfl, h', f'⟩; have hb := hid HF.out.size; have nf := hid (below_next HF.out f'); clear HF f'; have HF := nf; clear nf; have HD := hid h'; clear h')
          | (go_at_call 9; (with_reducible refine (Write7 HD.out).mono ?_); rintro e w' ⟨rfl, h', f'⟩; have n1 := hid h'; have nf := hid (below_frm1 HF.out f' hb.out); clear HD HF h' f'; have HD := n1; have HF := nf; clear n1 nf)
          | (go_at_call 8; (with_reducible refine (Arm1 HD.out).mono ?_); rintro e w' ⟨rfl, h', f'⟩; have n1 := hid h'; have nf := hid (below_frm1 HF.out f' hb.out); clear HD HF h' f'; have HD := n1; have HF := nf; clear n1 nf)
          | (go_at_call 11; (with_reducible refine (Armed1 HD.out).mono ?_); rintro e w' ⟨rfl, rfl⟩)
          | (go_at_call 10; (with_reducible refine (Read1 HD.out).mono ?_); rintro e w' ⟨A, c, rfl, h', f'⟩; have n1 := hid h'; have nf := hid (below_frm0 HF.out f'); clear HD HF h' f'; have HD := n1; have HF := nf; clear n1 nf)
          | (go_at_call 9; (with_reducible refine (Made0 40040 rfl HD.out).mono ?_); rintro e w' ⟨rfl, h', f'⟩; have n1 := hid h'; have nf := hid (below_frm1 HF.out f' hb.out); clear HD HF h' f'; have HD := n1; have HF := nf; clear n1 nf)
          | (go_at_call 9; (with_reducible refine (Made3 40040 rfl HD.out).mono ?_); rintro e w' ⟨rfl, h', f'⟩; have n1 := hid h'; have nf := hid (below_frm1 HF.out f' hb.out); clear HD HF h' f'; have HD := n1; have HF := nf; clear n1 nf)
          | (go_at_call 9; (with_reducible refine (Long1 HD.out _).mono ?_); rintro e w' ⟨rfl, h', f'⟩; have n1 := hid h'; have nf := hid (below_frm1 HF.out f' hb.out); clear HD HF h' f'; have HD := n1; have HF := nf; clear n1 nf)
          | (go_at_call 9; (with_reducible refine (Write_none 2 (.inr (by decide))).mono ?_); rintro e w' ⟨rfl, rfl⟩))
    go_ret
    exact ⟨rfl, HF.out⟩
  · go_enter Try.func5, Try.ntmps5
    go_wp2_with (first
          | (go_at_call 6; (with_reducible refine (known_calls _).mono ?_); rintro e w' ⟨rfl, f1⟩; have HF := hid f1; clear f1)
          | (go_at_call 7; (with_reducible refine (New1 _).mono ?_); rintro e w' ⟨rfl, h', f'⟩; have hb := hid HF.out.size; have nf := hid (below_next HF.out f'); clear HF f'; have HF := nf; clear nf; have HD := hid h'; clear h')
          | (go_at_call 9; (with_reducible refine (Write7 HD.out).mono ?_); rintro e w' ⟨rfl, h', f'⟩; have n1 := hid h'; have nf := hid (below_frm1 HF.out f' hb.out); clear HD HF h' f'; have HD := n1; have HF := nf; clear n1 nf)
          | (go_at_call 8; (with_reducible refine (Arm1 HD.out).mono ?_); rintro e w' ⟨rfl, h', f'⟩; have n1 := hid h'; have nf := hid (below_frm1 HF.out f' hb.out); clear HD HF h' f'; have HD := n1; have HF := nf; clear n1 nf)
          | (go_at_call 11; (with_reducible refine (Armed1 HD.out).mono ?_); rintro e w' ⟨rfl, rfl⟩)
          | (go_at_call 10; (with_reducible refine (Read1 HD.out).mono ?_); rintro e w' ⟨A, c, rfl, h', f'⟩; have n1 := hid h'; have nf := hid (below_frm0 HF.out f'); clear HD HF h' f'; have HD := n1; have HF := nf; clear n1 nf)
          | (go_at_call 9; (with_reducible refine (Made0 40040 rfl HD.out).mono ?_); rintro e w' ⟨rfl, h', f'⟩; have n1 := hid h'; have nf := hid (below_frm1 HF.out f' hb.out); clear HD HF h' f'; have HD := n1; have HF := nf; clear n1 nf)
          | (go_at_call 9; (with_reducible refine (Made3 40040 rfl HD.out).mono ?_); rintro e w' ⟨rfl, h', f'⟩; have n1 := hid h'; have nf := hid (below_frm1 HF.out f' hb.out); clear HD HF h' f'; have HD := n1; have HF := nf; clear n1 nf)
          | (go_at_call 9; (with_reducible refine (Long1 HD.out _).mono ?_); rintro e w' ⟨rfl, h', f'⟩; have n1 := hid h'; have nf := hid (below_frm1 HF.out f' hb.out); clear HD HF h' f'; have HD := n1; have HF := nf; clear n1 nf)
          | (go_at_call 9; (with_reducible refine (Write_none 2 (.inr (by decide))).mono ?_); rintro e w' ⟨rfl, rfl⟩))
    go_ret
    exact ⟨rfl, HF.out⟩
end Go.Proofs.Ytlcdldddghhdjaa
