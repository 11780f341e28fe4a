/- The disk: its object. -/
import Derived.Test.YtnlmabdbpjbhoaaDkCopy
import Derived.Test.YtnlmabdbpjbhoaaStr
import Derived.Deep.RegionHeld3
namespace Go.Proofs.Ytnlmabdbpjbhoaa
open Go.RowKit Go.ChangeShapes
set_option linter.unusedVariables false
set_option linter.unusedSimpArgs false
/-- The bytes of a slice, which do not lie in block b. -/
structure Byts (w : World) (b : Nat) (A : Option Addr) (c : Nat) (x : List Int) : Prop where
  ints : IsInts .u8 w A c x
  off : ∀ p, A = some p → p.block ≠ b
theorem Byts.frm {w w' : World} {b : Nat} {A : Option Addr} {c : Nat} {x : List Int} (h : Byts w b A c x) (f : Frm (· = b) w w') : Byts w' b A c x :=
  ⟨h.ints.frm f fun p hp => h.off p hp, h.off⟩
abbrev TD : Nat := 68
/-- The disk at b: two areas, armed, how many bytes. -/
structure IsDk (w : World) (b : Nat) (x0 x1 : List Int) (ar : Bool) (n : Int) : Prop where
  blk : ∃ A0 c0 A1 c1, Blk w b [.slice A0 x0.length c0, .slice A1 x1.length c1, .bool ar, .int .i64 n] TD ∧ Byts w b A0 c0 x0 ∧ Byts w b A1 c1 x1
  n0 : 0 ≤ n
  l0 : x0.length ≤ 40040
  l1 : x1.length ≤ 40040
theorem IsDk.frm {w w' : World} {b : Nat} {x0 x1 : List Int} {ar : Bool} {n : Int} (h : IsDk w b x0 x1 ar n) (f : Frm (fun _ => False) w w') : IsDk w' b x0 x1 ar n := by
  obtain ⟨A0, c0, A1, c1, hb, h0, h1⟩ := h.blk
  have f' : Frm (· = b) w w' := f.mono fun _ _ h => h.elim
  exact ⟨⟨A0, c0, A1, c1, hb.frm f (fun h => h), h0.frm f', h1.frm f'⟩, h.n0, h.l0, h.l1⟩
theorem DNew_calls (w : World) : Calls Try.prog 13 #[] w fun e w' =>
    e = .returned (.pointer (some ⟨w.heap.size, 0, none⟩)) ∧ IsDk w' w.heap.size [] [] false 0 ∧ Below w.heap.size w w' := by
  go_enter Try.func13, Try.ntmps13
  go_wp2
  go_ret
  have hb : Byts (w.alloc (.cells #[.slice none 0 0, .slice none 0 0, .bool false, .int .i64 0] TD)) w.heap.size none 0 [] :=
    ⟨⟨Nat.le_refl _, by omega, fun h => absurd rfl h, fun _ h => by cases h⟩, fun p hp => by cases hp⟩
  refine ⟨rfl, ⟨⟨none, 0, none, 0, Blk.new w [.slice none 0 0, .slice none 0 0, .bool false, .int .i64 0] TD, hb, hb⟩, by omega, by simp, by simp⟩, (Below.refl _ _).alloc (Nat.le_refl _) _⟩
theorem Arm_calls {w : World} {b : Nat} {x0 x1 : List Int} {ar : Bool} {n : Int} (h : IsDk w b x0 x1 ar n) (m : Int) : Calls Try.prog 19 #[.pointer (some ⟨b, 0, none⟩), .int .i64 m] w fun e w' =>
    e = .returned (.tuple #[]) ∧ IsDk w' b x0 x1 true (max m 0) ∧ Frm (· = b) w w' := by
  obtain ⟨A0, c0, A1, c1, hb, h0, h1⟩ := h.blk
  have q2 := hb.cell 2
  have q3 := hb.cell 3
  have z2 := hb.free 2
  have z3 := hb.free 3
  simp only [List.getElem?_cons_succ, List.getElem?_cons_zero] at q2 q3
  have HB := hid hb; clear hb
  have e1 : (if m < 0 then 0 else m) = max m 0 := by omega
  go_enter Try.func19, Try.ntmps19
  go_wp2
  go_end0
  have f : Frm (· = b) w ((w.setCell ⟨b, 2, none⟩ (.bool true)).setCell ⟨b, 3, none⟩ (.int .i64 (max m 0))) := ((Frm.refl (· = b) w).setCell _ _ (.inr rfl)).setCell _ _ (.inr rfl)
  exact ⟨rfl, ⟨⟨A0, c0, A1, c1, (HB.out.setCell 2 _).setCell 3 _, h0.frm f, h1.frm f⟩, by omega, h.l0, h.l1⟩, f⟩
/-- What an area holds. -/
def arOf (x0 x1 : List Int) (i : Int) : List Int := if i = 0 then x0 else if i = 1 then x1 else []
theorem Read_calls {w : World} {b : Nat} {x0 x1 : List Int} {ar : Bool} {n : Int} (h : IsDk w b x0 x1 ar n) (i : Int) : Calls Try.prog 18 #[.pointer (some ⟨b, 0, none⟩), .int .i64 i] w fun e w' =>
    ∃ A c, e = .returned (.slice A (arOf x0 x1 i).length c) ∧ IsInts .u8 w' A c (arOf x0 x1 i) ∧ Below w.heap.size w w' := by
  obtain ⟨A0, c0, A1, c1, hb, h0, h1⟩ := h.blk
  have q0 := hb.cell 0
  have q1 := hb.cell 1
  simp only [List.getElem?_cons_succ, List.getElem?_cons_zero] at q0 q1
  have l0 := h.l0
  have l1 := h.l1
  by_cases hi : i = 0 ∨ i = 1
  · rcases hi with rfl | rfl
    · clear hb h q1
      by_cases hz : x0.length = 0
      · have hx : arOf x0 x1 0 = [] := List.eq_nil_of_length_eq_zero hz
        rw [hx]; clear hx
        rw [hz] at q0
        go_enter Try.func18, Try.ntmps18
        go_wp2
        go_ret
        exact ⟨none, 0, rfl, ⟨Nat.le_refl _, by omega, fun h => absurd rfl h, fun _ h => by cases h⟩, Below.refl _ _⟩
      · have hx : arOf x0 x1 0 = x0 := rfl
        rw [hx]; clear hx
        have hz' : decide ((x0.length : Int) = 0) = false := decide_eq_false (by omega)
        have hz2 : ((x0.length : Int) == 0) = false := beq_eq_false_iff_ne.2 (by omega)
        go_enter Try.func18, Try.ntmps18
        go_wp2_with (go_at_call 32; (with_reducible refine (dcopied_calls _ _ _ x0 _ rfl h0.ints (by omega)).mono ?_); rintro e w' ⟨rfl, hb', f'⟩)
        go_ret
        exact ⟨_, _, rfl, IsInts.of_blk hb' (by omega) h0.ints.wf, f'⟩
    · clear hb h q0
      by_cases hz : x1.length = 0
      · have hx : arOf x0 x1 1 = [] := List.eq_nil_of_length_eq_zero hz
        rw [hx]; clear hx
        rw [hz] at q1
        go_enter Try.func18, Try.ntmps18
        go_wp2
        go_ret
        exact ⟨none, 0, rfl, ⟨Nat.le_refl _, by omega, fun h => absurd rfl h, fun _ h => by cases h⟩, Below.refl _ _⟩
      · have hx : arOf x0 x1 1 = x1 := rfl
        rw [hx]; clear hx
        have hz' : decide ((x1.length : Int) = 0) = false := decide_eq_false (by omega)
        have hz2 : ((x1.length : Int) == 0) = false := beq_eq_false_iff_ne.2 (by omega)
        go_enter Try.func18, Try.ntmps18
        go_wp2_with (go_at_call 32; (with_reducible refine (dcopied_calls _ _ _ x1 _ rfl h1.ints (by omega)).mono ?_); rintro e w' ⟨rfl, hb', f'⟩)
        go_ret
        exact ⟨_, _, rfl, IsInts.of_blk hb' (by omega) h1.ints.wf, f'⟩
  · have hx : arOf x0 x1 i = [] := by unfold arOf; rw [if_neg (by omega), if_neg (by omega)]
    rw [hx]; clear hx hb h q0 q1 h0 h1
    have hc : i < 0 ∨ 2 ≤ i := by omega
    rcases hc with hc | hc
    all_goals
      go_enter Try.func18, Try.ntmps18
      go_wp2
      go_ret
      exact ⟨none, 0, rfl, ⟨Nat.le_refl _, by omega, fun h => absurd rfl h, fun _ h => by cases h⟩, Below.refl _ _⟩
end Go.Proofs.Ytnlmabdbpjbhoaa
