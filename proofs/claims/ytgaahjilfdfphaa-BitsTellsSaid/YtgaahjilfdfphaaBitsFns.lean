/- What the printed functions of package bits come to: in plain numbers. -/
import Derived.Test.YtgaahjilfdfphaaPBitsTellsx1
import Derived.Test.YtgaahjilfdfphaaBitsMath
namespace Go.Proofs.Ytgaahjilfdfphaa
open Go.RowKit Go.Proofs.Ytgaahjilfdfphaa.PBitsTells Go.Proofs.YtgaahjilfdfphaaW.PrintWords Go.Proofs.YtgaahjilfdfphaaW.PrintMore Go.Proofs.YtgaahjilfdfphaaW.PrintLast

theorem known_true : palisadelaw1_known.f 1 = some true := by decide +kernel
theorem rotl_some (x n : Int) (h0 : 0 ≤ x) (h1 : x < 18446744073709551616) : bits_Rotl.f x n = some ((R x.toNat (turn n) : Nat) : Int) := by
  unfold bits_Rotl.f
  have e : Int.tmod (IntKind.u64.wrap n) 64 = (turn n : Nat) := by
    rw [wrap_u64, tmod_pos _ _ (by omega)]; unfold turn; omega
  have ht := turn_lt n
  rw [e, if_pos (by omega), wrap_u64, show ((64 : Int) - (turn n : Nat)) % 18446744073709551616 = 64 - (turn n : Nat) by omega, if_pos (by omega), rot_int x (turn n) ht h0 h1]
theorem narrow_some (z : Int) (n : Int) (h1 : 1 ≤ n) (h2 : n ≤ 64) : bits_Narrow.f z n = some ((z + 2 ^ (n.toNat - 1)) % 2 ^ n.toNat - 2 ^ (n.toNat - 1)) := by
  obtain ⟨m, rfl⟩ := Int.eq_ofNat_of_zero_le (show 0 ≤ n by omega)
  unfold bits_Narrow.f mn mx
  rw [if_neg (show ¬ ((m : Int) < 1) by omega), if_neg (show ¬ ((64 : Int) < (m : Int)) by omega), show ((64 : Int) - (m : Int)).toNat = 64 - m by omega, narrow_int z m (by omega) (by omega), Int.toNat_natCast]
theorem pack_some (a b c d : Int) (ha : 0 ≤ a ∧ a < 256) (hb : 0 ≤ b ∧ b < 256) (hc : 0 ≤ c ∧ c < 65536) (hd : 0 ≤ d ∧ d < 4294967296) :
    bits_Pack.f a b c d = some (a * 72057594037927936 + b * 281474976710656 + c * 4294967296 + d) := by
  unfold bits_Pack.f
  simp only [wrap_u64]
  have e1 : a % 18446744073709551616 = a := by omega
  have e2 : b % 18446744073709551616 = b := by omega
  have e3 : c % 18446744073709551616 = c := by omega
  have e4 : d % 18446744073709551616 = d := by omega
  have e5 : a * 72057594037927936 % 18446744073709551616 = a * 72057594037927936 := by omega
  have e6 : b * 281474976710656 % 18446744073709551616 = b * 281474976710656 := by omega
  have e7 : c * 4294967296 % 18446744073709551616 = c * 4294967296 := by omega
  rw [e1, e2, e3, e4, e5, e6, e7]
  rw [or_add 56 (a * 72057594037927936) (b * 281474976710656) (by omega) (by omega) (by omega) (by omega) (by omega) (by omega)]
  rw [or_add 48 (a * 72057594037927936 + b * 281474976710656) (c * 4294967296) (by omega) (by omega) (by omega) (by omega) (by omega) (by omega)]
  rw [or_add 32 (a * 72057594037927936 + b * 281474976710656 + c * 4294967296) d (by omega) (by omega) (by omega) (by omega) (by omega) (by omega)]
theorem unpack_some (x : Int) : bits_Unpack.f x = some (x / 72057594037927936 % 256, x / 281474976710656 % 256, x / 4294967296 % 65536, x % 4294967296) := by
  unfold bits_Unpack.f
  rw [show IntKind.u16.wrap (x / 4294967296) = x / 4294967296 % 65536 from by simp [IntKind.wrap, IntKind.bits, IntKind.signed]]
theorem drawn_below {w w' : World} (h : Drawn0 w w') {B : Nat} : Below B w w' := by
  obtain ⟨n, rfl⟩ := h
  exact ⟨rfl, rfl, rfl, Nat.le_refl _, fun _ _ => rfl⟩
end Go.Proofs.Ytgaahjilfdfphaa
