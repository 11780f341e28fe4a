/- Packed numbers stand in the order of their parts: the law's plain statement. -/
import Derived.Test.YtgaahjilfdfphaaPBitsOrderx2
import Derived.Test.YtgaahjilfdfphaaBitsMath
import Derived.OpenShut
namespace Go.Proofs.Ytgaahjilfdfphaa.Pure
open Go.RowKit Go.ChangeShapes Go.Proofs.Ytgaahjilfdfphaa.PBitsOrder Go.Proofs.YtgaahjilfdfphaaW.PrintWords Go.Proofs.YtgaahjilfdfphaaW.PrintLast

theorem known_true : palisadelaw1_known.f 1 = some true := by decide +kernel
theorem pack_some (a b c d : Int) (ha : 0 ≤ a ∧ a < 256) (hb : 0 ≤ b ∧ b < 256) (hc : 0 ≤ c ∧ c < 65536) (hd : 0 ≤ d ∧ d < 4294967296) :
    bits_Pack.f a b c d = some (a * 72057594037927936 + b * 281474976710656 + c * 4294967296 + d) := by
  unfold bits_Pack.f
  simp only [wrap_u64]
  have e1 : a % 18446744073709551616 = a := by omega
  have e2 : b % 18446744073709551616 = b := by omega
  have e3 : c % 18446744073709551616 = c := by omega
  have e4 : d % 18446744073709551616 = d := by omega
  have e5 : a * 72057594037927936 % 18446744073709551616 = a * 72057594037927936 := by omega
  have e6 : b * 281474976710656 % 18446744073709551616 = b * 281474976710656 := by omega
  have e7 : c * 4294967296 % 18446744073709551616 = c * 4294967296 := by omega
  rw [e1, e2, e3, e4, e5, e6, e7]
  rw [or_add 56 (a * 72057594037927936) (b * 281474976710656) (by omega) (by omega) (by omega) (by omega) (by omega) (by omega)]
  rw [or_add 48 (a * 72057594037927936 + b * 281474976710656) (c * 4294967296) (by omega) (by omega) (by omega) (by omega) (by omega) (by omega)]
  rw [or_add 32 (a * 72057594037927936 + b * 281474976710656 + c * 4294967296) d (by omega) (by omega) (by omega) (by omega) (by omega) (by omega)]
theorem unpack_some (x : Int) : bits_Unpack.f x = some (x / 72057594037927936 % 256, x / 281474976710656 % 256, x / 4294967296 % 65536, x % 4294967296) := by
  unfold bits_Unpack.f
  rw [show IntKind.u16.wrap (x / 4294967296) = x / 4294967296 % 65536 from by simp [IntKind.wrap, IntKind.bits, IntKind.signed]]
theorem BitsOrder : palisadelaw1_BitsOrder.Pure := by
  intro a b c d e f w0 w1 w2 w3 w4 w5
  have h0 := bounds_u8 w0
  have h1 := bounds_u8 w1
  have h2 := bounds_u16 w2
  have h3 := bounds_u16 w3
  have h4 := bounds_u32 w4
  have h5 := bounds_u32 w5
  clear w0 w1 w2 w3 w4 w5
  refine ⟨1, ?_⟩
  unfold palisadelaw1_BitsOrder.f
  rw [known_true, Option.bind_some, if_pos rfl, pack_some a 1 c e (by omega) (by omega) (by omega) (by omega), Option.bind_some, pack_some b 1 d f (by omega) (by omega) (by omega) (by omega), Option.bind_some]
  obtain ⟨x, hx⟩ : ∃ x, a * 72057594037927936 + 1 * 281474976710656 + c * 4294967296 + e = x := ⟨_, rfl⟩
  obtain ⟨y, hy⟩ : ∃ y, b * 72057594037927936 + 1 * 281474976710656 + d * 4294967296 + f = y := ⟨_, rfl⟩
  rw [hx, hy]
  simp only [unpack_some, Option.bind_some]
  rw [show x / 72057594037927936 % 256 = a by omega, show x / 281474976710656 % 256 = 1 by omega, show x / 4294967296 % 65536 = c by omega, show x % 4294967296 = e by omega]
  simp only [if_true, beq_self_eq_true]
  have hlt : (x < y) ↔ (a < b ∨ (a = b ∧ (c < d ∨ (c = d ∧ e < f)))) := by omega
  have heq : (x = y) ↔ (a = b ∧ c = d ∧ e = f) := by omega
  have hb : (x == y) = decide (a = b ∧ c = d ∧ e = f) := by rw [Bool.eq_iff_iff]; simp [heq]
  have he : (e == f) = decide (e = f) := by rw [Bool.eq_iff_iff]; simp
  simp only [hlt, hb, he]
  clear hx hy hlt heq hb he
  repeat' split
  all_goals first | rfl | (exfalso; simp_all; done) | (exfalso; simp_all <;> omega) | (simp_all; done)
end Go.Proofs.Ytgaahjilfdfphaa.Pure
