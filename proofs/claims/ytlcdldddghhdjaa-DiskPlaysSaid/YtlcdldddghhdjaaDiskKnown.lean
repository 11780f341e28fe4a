/- 'known' of layer 7 returns true. -/
import Derived.Test.YtlcdldddghhdjaaDiskWrite
import Derived.Test.YtlcdldddghhdjaaDiskStr
import Derived.Lib.SlBytesConst
namespace Go.Proofs.Ytlcdldddghhdjaa
open Go.RowKit Go.ChangeShapes
theorem Write_ab {w : World} {b : Nat} (h : IsDk w b [] [] true 1) : Calls Try.prog 9 #[.pointer (some ⟨b, 0, none⟩), .int .i64 0, .slice (some ⟨w.heap.size, 0, none⟩) 2 2]
    (w.alloc (.cells #[.int .u8 97, .int .u8 98] 5 (2, 3))) fun e w' => e = .returned (.int .i64 70) ∧ IsDk w' b [97] [] false 0 ∧ Frm (· = b) w w' := by
  have hx : IsInts .u8 (w.alloc (.cells #[.int .u8 97, .int .u8 98] 5 (2, 3))) (some ⟨w.heap.size, 0, none⟩) 2 [97, 98] := by
    refine ⟨by decide, by decide, fun _ => ⟨w.heap.size, 0, rfl, by simp, fun i hi => ?_⟩, by decide⟩
    have hi2 : i = 0 ∨ i = 1 := by simp at hi; omega
    have hh : (w.alloc (.cells #[.int .u8 97, .int .u8 98] 5 (2, 3))).heap[w.heap.size]? = some (.cells #[.int .u8 97, .int .u8 98] 5 (2, 3)) := by
      show (w.heap.push _)[w.heap.size]? = _
      simp
    rcases hi2 with rfl | rfl <;> (unfold World.cell?; rw [hh]; rfl)
  have f0 : Frm (fun _ => False) w (w.alloc (.cells #[.int .u8 97, .int .u8 98] 5 (2, 3))) := (Frm.refl _ _).alloc _
  refine (Write_cut0 (h.frm f0) hx (by decide) 1 (by decide)).mono ?_
  rintro e w' ⟨rfl, h', f'⟩
  exact ⟨rfl, h', (Frm0.any f0).trans f'⟩
set_option maxHeartbeats 4000000 in
theorem known_calls (w : World) : Calls Try.prog 6 #[] w fun e w' => e = .returned (.bool true) ∧ Below w.heap.size w w' := by
  have hst : (strOfNums (arOf [97] [] 0) == (⟨#[97]⟩ : ByteArray)) = true := by decide
  have hst2 : decide (strOfNums (arOf [97] [] 0) = (⟨#[97]⟩ : ByteArray)) = true := by decide
  have hcc := fun (w : World) (C : Array Value) (n c : Nat) => Lib.run_convert_bytes_const (P := Try.prog) w 27 5 C n c Try.underlying27 Try.underlying5
  have hst3 : (strOfNums (arOf [97] [] 0)).toList = [97] := by kernel_rfl
  go_enter Try.func6, Try.ntmps6
  go_wp2_with (first
    | (go_at_call 7; (with_reducible refine (DNew_calls _).mono ?_); rintro e w1 ⟨rfl, HD0, f1⟩; have HF := hid f1; clear f1; have HD := hid HD0; clear HD0)
    | (go_at_call 11; (with_reducible refine (Armed_calls HD.out).mono ?_); rintro e w' ⟨rfl, rfl⟩)
    | (go_at_call 8; (with_reducible refine (Arm_calls HD.out _).mono ?_); rintro e w' ⟨rfl, h', f'⟩; have n1 := hid (show IsDk w' _ [] [] true 1 from h'); have nf := hid (below_frm1 HF.out f' (Nat.le_refl _)); clear HD HF h' f'; have HD := n1; have HF := nf; clear n1 nf)
    | (go_at_call 9; (with_reducible refine (Write_ab HD.out).mono ?_); rintro e w' ⟨rfl, h', f'⟩; have n1 := hid h'; have nf := hid (below_frm1 HF.out f' (Nat.le_refl _)); clear HD HF h' f'; have HD := n1; have HF := nf; clear n1 nf)
    | (go_at_call 9; (with_reducible refine (Write_none 5 (.inr (by decide))).mono ?_); rintro e w' ⟨rfl, rfl⟩)
    | (go_at_call 10; (with_reducible refine (Read_calls HD.out 0).mono ?_); rintro e w' ⟨A, c, rfl, hA, f'⟩; have hcv := hA.conv; have n1 := hid (HD.out.frm (Frm.of_below (S := fun _ => False) f' (fun k hk hk' => absurd (Nat.lt_of_lt_of_le hk hk') (Nat.lt_irrefl _)))); have nf := hid (below_next HF.out f'); clear HD HF f'; have HD := n1; have HF := nf; clear n1 nf))
  go_ret
  exact ⟨rfl, HF.out⟩
end Go.Proofs.Ytlcdldddghhdjaa
