/- BitsNarrow, walked: a number that fits so many bits is itself, the next one beyond goes round: the call returns true and leaves memory as it was. -/
import Derived.Test.YtgaahjilfdfphaaBitsFns
import Derived.Test.YtgaahjilfdfphaaLib
import Derived.Deep.QuietTactic
import Derived.BigQuiet
namespace Go.Proofs.Ytgaahjilfdfphaa
open Go.RowKit Go.ChangeShapes Go.Proofs.Ytgaahjilfdfphaa.PBitsTells Go.Proofs.YtgaahjilfdfphaaW.PrintWords Go.Proofs.YtgaahjilfdfphaaW.PrintMore Go.Proofs.YtgaahjilfdfphaaW.PrintLast
theorem pow_bd (m : Nat) (h : m ≤ 62) : (1 : Int) ≤ 2 ^ m ∧ (2 : Int) ^ m ≤ 4611686018427387904 := by
  have h1 : (2 : Nat) ^ m ≤ 2 ^ 62 := Nat.pow_le_pow_right (by decide) h
  have h2 : 0 < (2 : Nat) ^ m := Nat.two_pow_pos m
  have e : (2 : Int) ^ m = ((2 ^ m : Nat) : Int) := by rw [Int.natCast_pow]; rfl
  rw [e]
  omega
set_option maxHeartbeats 1000000 in
theorem BitsNarrow_walk (x k : Int) (w : World) (w0 : (Lit.int .i64 x).wf = true) (w1 : (Lit.int .u8 k).wf = true) :
    Calls Try.prog 4 #[.int .i64 x, .int .u8 k] w fun e w' => e = .returned (.bool true) ∧ Below w.heap.size w w' := by
  have hx := bounds_i64 w0
  have hk := bounds_u8 w1
  clear w0 w1
  have ht : Int.tmod k 63 = k % 63 := tmod_pos _ _ (by omega)
  have hm : 0 ≤ k % 63 ∧ k % 63 ≤ 62 := by omega
  generalize hmk : k % 63 = m at *
  have HM := hid hmk; clear hmk hk
  have hb2 := pow_bd m.toNat (by omega)
  have n1 := narrow_some x (m + 1) (by omega) (by omega)
  rw [show (m + 1).toNat - 1 = m.toNat by omega, show (m + 1).toNat = m.toNat + 1 by omega, Int.pow_succ] at n1
  have hy : -2 ^ m.toNat ≤ (x + 2 ^ m.toNat) % (2 ^ m.toNat * 2) - 2 ^ m.toNat ∧ (x + 2 ^ m.toNat) % (2 ^ m.toNat * 2) - 2 ^ m.toNat ≤ 2 ^ m.toNat - 1 := by
    have := Int.emod_nonneg (x + 2 ^ m.toNat) (b := 2 ^ m.toNat * 2) (by omega)
    have := Int.emod_lt_of_pos (x + 2 ^ m.toNat) (b := 2 ^ m.toNat * 2) (by omega)
    omega
  have hin : -2 ^ m.toNat ≤ x → x ≤ 2 ^ m.toNat - 1 → (x + 2 ^ m.toNat) % (2 ^ m.toNat * 2) - 2 ^ m.toNat = x := by
    intro a b
    rw [Int.emod_eq_of_lt (by omega) (by omega)]; omega
  have hd : ∃ q, x - ((x + 2 ^ m.toNat) % (2 ^ m.toNat * 2) - 2 ^ m.toNat) = 2 ^ m.toNat * 2 * q := by
    have := Int.mul_ediv_add_emod (x + 2 ^ m.toNat) (2 ^ m.toNat * 2)
    exact ⟨(x + 2 ^ m.toNat) / (2 ^ m.toNat * 2), by omega⟩
  have n2 := narrow_some ((x + 2 ^ m.toNat) % (2 ^ m.toNat * 2) - 2 ^ m.toNat) (m + 1) (by omega) (by omega)
  rw [show (m + 1).toNat - 1 = m.toNat by omega, show (m + 1).toNat = m.toNat + 1 by omega, Int.pow_succ] at n2
  generalize (x + 2 ^ m.toNat) % (2 ^ m.toNat * 2) - 2 ^ m.toNat = y at *
  rw [show (y + 2 ^ m.toNat) % (2 ^ m.toNat * 2) = y + 2 ^ m.toNat from Int.emod_eq_of_lt (by omega) (by omega), show y + 2 ^ m.toNat - 2 ^ m.toNat = y by omega] at n2
  have n3 := narrow_some (2 ^ m.toNat) (m + 1) (by omega) (by omega)
  rw [show (m + 1).toNat - 1 = m.toNat by omega, show (m + 1).toNat = m.toNat + 1 by omega, Int.pow_succ, show (2 : Int) ^ m.toNat + 2 ^ m.toNat = 2 ^ m.toNat * 2 by omega, Int.emod_self, Int.zero_sub] at n3
  have hS : (2 : Int) ^ m.toNat * 2 * 2 ^ (63 - m).toNat = 18446744073709551616 := by
    rw [← Int.pow_succ, ← Int.pow_add, show m.toNat + 1 + (63 - m).toNat = 64 by omega]; rfl
  obtain ⟨q, hq⟩ := hd
  have hz : (x - y) * 2 ^ (63 - m).toNat % 18446744073709551616 = 0 := by
    rw [hq, Int.mul_assoc, Int.mul_comm q, ← Int.mul_assoc, hS]; exact Int.mul_emod_right _ _
  clear hq hS
  generalize hH : (2 : Int) ^ m.toNat = H at *
  have N1 := hid n1; clear n1
  have N2 := hid n2; clear n2
  have N3 := hid n3; clear n3
  have HZ := hid hz; clear hz
  have HIN := hid hin; clear hin
  have hyx : x < -H ∨ x > H - 1 ∨ (-H ≤ x ∧ x ≤ H - 1) := by omega
  go_enter Try.func4, Try.ntmps4
  go_wp2_with (first
    | (go_at_call 9; (with_reducible refine (palisadelaw1_known.calls 1 true _ known_true).mono ?_); rintro e w1 ⟨rfl, hb⟩)
    | (go_at_call 13; (with_reducible refine (bits_Narrow.calls x (m+1) y _ N1.out).mono ?_); rintro e w' ⟨rfl, hb1⟩))
  go_quiet (fail)
  have HE : (64 - (m + 1)).toNat = (63 - m).toNat := by omega
  have HE' : (IntKind.u64.wrap (IntKind.u64.wrap (IntKind.u64.wrap x - IntKind.u64.wrap y) * 2 ^ (64 - (m + 1)).toNat) == 0) = true := by
    rw [HE]; exact beq_iff_eq.2 (shift_zero _ _ _ HZ.out)
  have HF := hid HE'; clear HE HE'
  rcases hyx with h | h | h
  · go_wp2_with (first
      | (go_at_call 13; (with_reducible refine (bits_Narrow.calls y (m+1) y _ N2.out).mono ?_); rintro e w' ⟨rfl, hb2⟩)
      | (go_at_call 13; (with_reducible refine (bits_Narrow.calls H (m+1) (-H) _ N3.out).mono ?_); rintro e w' ⟨rfl, hb3⟩))
    go_ret
    exact ⟨ret_bool HF.out, Below.next (Below.nextN (Below.next hb hb1) hb2) hb3⟩
  · have HG := HF.out
    rw [show IntKind.u64.wrap x = x by rw [wrap_u64]; omega] at HG
    have HX := hid HG; clear HG
    go_wp2_with (first
      | (go_at_call 13; (with_reducible refine (bits_Narrow.calls y (m+1) y _ N2.out).mono ?_); rintro e w' ⟨rfl, hb2⟩)
      | (go_at_call 13; (with_reducible refine (bits_Narrow.calls H (m+1) (-H) _ N3.out).mono ?_); rintro e w' ⟨rfl, hb3⟩))
    go_ret
    exact ⟨ret_bool HX.out, Below.next (Below.nextN (Below.next hb hb1) hb2) hb3⟩
  · have hyx := HIN.out h.1 h.2
    subst hyx
    go_wp2_with (first
      | (go_at_call 13; (with_reducible refine (bits_Narrow.calls y (m+1) y _ N2.out).mono ?_); rintro e w' ⟨rfl, hb2⟩)
      | (go_at_call 13; (with_reducible refine (bits_Narrow.calls H (m+1) (-H) _ N3.out).mono ?_); rintro e w' ⟨rfl, hb3⟩))
    go_ret
    exact ⟨ret_bool (by simp), Below.next (Below.nextN (Below.next hb hb1) hb2) hb3⟩
end Go.Proofs.Ytgaahjilfdfphaa
