/- BitsBack, walked: what is packed is unpacked, turned to and fro it is itself: the call returns true and leaves memory as it was. -/
import Derived.Test.YtgaahjilfdfphaaBitsFns
import Derived.Test.YtgaahjilfdfphaaLib
namespace Go.Proofs.Ytgaahjilfdfphaa
open Go.RowKit Go.ChangeShapes Go.Proofs.Ytgaahjilfdfphaa.PBitsTells Go.Proofs.YtgaahjilfdfphaaW.PrintWords Go.Proofs.YtgaahjilfdfphaaW.PrintMore Go.Proofs.YtgaahjilfdfphaaW.PrintLast
set_option maxHeartbeats 1000000 in
theorem BitsBack_walk (x n : Int) (w : World) (w0 : (Lit.int .u64 x).wf = true) (_ : (Lit.int .i64 n).wf = true) :
    Calls Try.prog 3 #[.int .u64 x, .int .i64 n] w fun e w' => e = .returned (.bool true) ∧ Below w.heap.size w w' := by
  have hx0 : 0 ≤ x := (bounds_u64 w0).1
  have hx1 : x < 18446744073709551616 := by have := (bounds_u64 w0).2; omega
  clear w0
  have ht0 : -1000 < Int.tmod n 1000 := Int.lt_tmod_of_pos n (by decide)
  have ht1 : Int.tmod n 1000 < 1000 := Int.tmod_lt_of_pos n (by decide)
  have u := unpack_some x
  have p := pack_some (x / 72057594037927936 % 256) (x / 281474976710656 % 256) (x / 4294967296 % 65536) (x % 4294967296) (by omega) (by omega) (by omega) (by omega)
  rw [show x / 72057594037927936 % 256 * 72057594037927936 + x / 281474976710656 % 256 * 281474976710656 + x / 4294967296 % 65536 * 4294967296 + x % 4294967296 = x by omega] at p
  have r1 := rotl_some x (Int.tmod n 1000) hx0 hx1
  have b1 := RI_bound x (turn (Int.tmod n 1000))
  have r2 := rotl_some ((R x.toNat (turn (Int.tmod n 1000)) : Nat) : Int) (-(Int.tmod n 1000)) b1.1 b1.2
  have r3 := rotl_some x (Int.tmod n 1000 + 64) hx0 hx1
  have r4 := rotl_some ((R x.toNat (turn (Int.tmod n 1000)) : Nat) : Int) 7 b1.1 b1.2
  have r5 := rotl_some x (Int.tmod n 1000 + 7) hx0 hx1
  generalize hk : Int.tmod n 1000 = k at *
  rw [turn_64] at r3
  have e2 : ((R ((R x.toNat (turn k) : Nat) : Int).toNat (turn (-k)) : Nat) : Int) = x := by
    rw [Int.toNat_natCast, R_R]
    rcases turn_neg k with h | h
    · rw [h, R_zero _ (by omega)]; omega
    · rw [h, show 64 = 0 + 64 from rfl, R_64, R_zero _ (by omega)]; omega
  have e4 : R ((R x.toNat (turn k) : Nat) : Int).toNat (turn 7) = R x.toNat (turn (k + 7)) := by
    rw [Int.toNat_natCast, R_R, show turn 7 = 7 from rfl]
    rcases turn_7 k with h | h
    · rw [h]
    · rw [h, R_64]
  rw [e2] at r2
  rw [e4] at r4
  clear e2 e4
  generalize ((R x.toNat (turn k) : Nat) : Int) = v at *
  generalize ((R x.toNat (turn (k + 7)) : Nat) : Int) = v7 at *
  generalize x / 72057594037927936 % 256 = a at *
  generalize x / 281474976710656 % 256 = b at *
  generalize x / 4294967296 % 65536 = c at *
  generalize x % 4294967296 = d at *
  have HK := hid hk; clear hk
  have U := hid u; clear u
  have P := hid p; clear p
  have R1 := hid r1; clear r1
  have R2 := hid r2; clear r2
  have R3 := hid r3; clear r3
  have R4 := hid r4; clear r4
  have R5 := hid r5; clear r5
  have hKT : (Int.tmod n 1000) = k := HK.out
  go_enter Try.func3, Try.ntmps3
  go_wp2_with (first
    | (go_at_call 9; (with_reducible refine (palisadelaw1_known.calls 1 true _ known_true).mono ?_); rintro e w1 ⟨rfl, hb⟩)
    | (go_at_call 10; (with_reducible refine (bits_Unpack.calls x a b c d _ U.out).mono ?_); rintro e w' ⟨rfl, ⟨nd, rfl⟩⟩)
    | (go_at_call 11; (with_reducible refine (bits_Pack.calls a b c d x _ P.out).mono ?_); rintro e w' ⟨rfl, ⟨nd, rfl⟩⟩)
    | (go_at_call 12; (with_reducible refine (bits_Rotl.calls x k v _ R1.out).mono ?_); rintro e w' ⟨rfl, ⟨nd, rfl⟩⟩)
    | (go_at_call 12; (with_reducible refine (bits_Rotl.calls v (-k) x _ R2.out).mono ?_); rintro e w' ⟨rfl, ⟨nd, rfl⟩⟩)
    | (go_at_call 12; (with_reducible refine (bits_Rotl.calls x (k + 64) v _ R3.out).mono ?_); rintro e w' ⟨rfl, ⟨nd, rfl⟩⟩)
    | (go_at_call 12; (with_reducible refine (bits_Rotl.calls v 7 v7 _ R4.out).mono ?_); rintro e w' ⟨rfl, ⟨nd, rfl⟩⟩)
    | (go_at_call 12; (with_reducible refine (bits_Rotl.calls x (k + 7) v7 _ R5.out).mono ?_); rintro e w' ⟨rfl, ⟨nd, rfl⟩⟩))
  go_ret
  exact ⟨rfl, ⟨hb.os, hb.tape, hb.output, hb.size, hb.block⟩⟩
end Go.Proofs.Ytgaahjilfdfphaa
