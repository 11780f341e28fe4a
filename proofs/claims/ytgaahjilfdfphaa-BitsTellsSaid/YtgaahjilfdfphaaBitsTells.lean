/- BitsTells, walked: of every numbers and bytes: turned, packed, narrowed, summed, mixed, doubled as the document says. -/
import Derived.Test.YtgaahjilfdfphaaBitsMix
namespace Go.Proofs.Ytgaahjilfdfphaa
open Go.RowKit Go.ChangeShapes Go.Proofs.Ytgaahjilfdfphaa.PBitsTells Go.Proofs.YtgaahjilfdfphaaW.PrintWords Go.Proofs.YtgaahjilfdfphaaW.PrintMore Go.Proofs.YtgaahjilfdfphaaW.PrintLast
set_option maxRecDepth 100000 in
set_option maxHeartbeats 4000000 in
theorem BitsTells_walk (x y n a b c d z : Int) (a8 : Option Addr) (c8 : Nat) (z8 : List Int) (w : World) (w0 : (Lit.int .u64 x).wf = true) (_ : (Lit.int .u64 y).wf = true) (_ : (Lit.int .i64 n).wf = true)
    (_ : (Lit.int .u8 a).wf = true) (_ : (Lit.int .u8 b).wf = true) (_ : (Lit.int .u16 c).wf = true) (_ : (Lit.int .u32 d).wf = true) (_ : (Lit.int .i64 z).wf = true) (h8 : IsInts .u8 w a8 c8 z8) :
    Calls Try.prog 8 #[.int .u64 x, .int .u64 y, .int .i64 n, .int .u8 a, .int .u8 b, .int .u16 c, .int .u32 d, .int .i64 z, .slice a8 z8.length c8] w fun e w' => e = .returned (.bool true) ∧ Below w.heap.size w w' := by
  have bx := bounds_u64 w0
  have hsm := h8.small
  have hle := h8.le
  by_cases hlen : z8.length > 500
  · go_enter Try.func8, Try.ntmps8
    go_wp2_with (go_at_call 9; (with_reducible refine (palisadelaw1_known.calls 1 true _ known_true).mono ?_); rintro e w1 ⟨rfl, hb⟩)
    go_ret
    exact ⟨rfl, ⟨hb.os, hb.tape, hb.output, hb.size, hb.block⟩⟩
  obtain ⟨r1, q1, q2⟩ : ∃ r, bits_Rotl.f x n = some r ∧ palisaderef1_Rotl.f x n = some r := ⟨_, rotl_some x n (by omega) (by omega), refRotl_some x n (by omega) (by omega)⟩
  obtain ⟨r2, q3, q4⟩ : ∃ r, bits_Narrow.f z n = some r ∧ palisaderef1_Narrow.f z n = some r := ⟨_, rfl, refNarrow_eq z n⟩
  obtain ⟨r3, q5⟩ : ∃ r, sFrom 14695981039346656037 z8 = r := ⟨_, rfl⟩
  obtain ⟨r4, q6, q7⟩ : ∃ r, sFrom 14695981039346656037 (b8 x ++ b8 y) = r ∧ palisaderef1_Mix.f 30 x y = some r := ⟨_, rfl, refMix_some x y⟩
  obtain ⟨r5, q8, q9⟩ : ∃ r, bits_Double.f d n = some r ∧ palisaderef1_Double.f d n = some r := ⟨_, rfl, refDouble_eq d n⟩
  have Q1 := hid q1; have Q2 := hid q2; have Q3 := hid q3; have Q4 := hid q4; have Q5 := hid q5; have Q6 := hid q6; have Q7 := hid q7; have Q8 := hid q8; have Q9 := hid q9
  clear q1 q2 q3 q4 q5 q6 q7 q8 q9
  have H8 := hid h8; clear h8
  clear bx w0
  go_enter Try.func8, Try.ntmps8
  go_wp2_with (first
    | (go_at_call 9; (with_reducible refine (palisadelaw1_known.calls 1 true _ known_true).mono ?_); rintro e w1 ⟨rfl, hb⟩; have HF := hid (show Below w.heap.size w w1 from ⟨hb.os, hb.tape, hb.output, hb.size, hb.block⟩); clear hb)
    | (go_at_call 12; (with_reducible refine (bits_Rotl.calls x n r1 _ Q1.out).mono ?_); rintro e w' ⟨rfl, ⟨nd, rfl⟩⟩; have nf := hid (below_drewN HF.out nd); clear HF; have HF := nf; clear nf)
    | (go_at_call 16; (with_reducible refine (palisaderef1_Rotl.calls x n r1 _ Q2.out).mono ?_); rintro e w' ⟨rfl, ⟨nd, rfl⟩⟩; have nf := hid (below_drewN HF.out nd); clear HF; have HF := nf; clear nf)
    | (go_at_call 11; (with_reducible refine (bits_Pack.calls a b c d _ _ rfl).mono ?_); rintro e w' ⟨rfl, ⟨nd, rfl⟩⟩; have nf := hid (below_drewN HF.out nd); clear HF; have HF := nf; clear nf)
    | (go_at_call 13; (with_reducible refine (bits_Narrow.calls z n r2 _ Q3.out).mono ?_); rintro e w' ⟨rfl, hq⟩; have nf := hid (below_next HF.out ⟨hq.os, hq.tape, hq.output, hq.size, hq.block⟩); clear HF hq; have HF := nf; clear nf)
    | (go_at_call 17; (with_reducible refine (palisaderef1_Narrow.calls z n r2 _ Q4.out).mono ?_); rintro e w' ⟨rfl, hq⟩; have nf := hid (below_next HF.out ⟨hq.os, hq.tape, hq.output, hq.size, hq.block⟩); clear HF hq; have HF := nf; clear nf)
    | (go_at_call 14; (with_reducible refine (Sum_calls (H8.out.below HF.out (Nat.le_refl _)) _ rfl (by omega) r3 Q5.out).mono ?_); rintro e w' ⟨rfl, ⟨nd, rfl⟩⟩; have nf := hid (below_drewN HF.out nd); clear HF; have HF := nf; clear nf)
    | (go_at_call 18; (with_reducible refine (RSum_calls (H8.out.below HF.out (Nat.le_refl _)) _ rfl (by omega) r3 Q5.out).mono ?_); rintro e w' ⟨rfl, ⟨nd, rfl⟩⟩; have nf := hid (below_drewN HF.out nd); clear HF; have HF := nf; clear nf)
    | (go_at_call 19; (with_reducible refine (Mix_calls x y _ r4 Q6.out).mono ?_); rintro e w' ⟨rfl, hq⟩; have nf := hid (below_next HF.out ⟨hq.os, hq.tape, hq.output, hq.size, hq.block⟩); clear HF hq; have HF := nf; clear nf)
    | (go_at_call 20; (with_reducible refine (palisaderef1_Mix.calls 30 x y r4 _ Q7.out).mono ?_); rintro e w' ⟨rfl, hq⟩; have nf := hid (below_next HF.out ⟨hq.os, hq.tape, hq.output, hq.size, hq.block⟩); clear HF hq; have HF := nf; clear nf)
    | (go_at_call 15; (with_reducible refine (bits_Double.calls d n r5 _ Q8.out).mono ?_); rintro e w' ⟨rfl, hq⟩; have nf := hid (below_next HF.out ⟨hq.os, hq.tape, hq.output, hq.size, hq.block⟩); clear HF hq; have HF := nf; clear nf)
    | (go_at_call 21; (with_reducible refine (palisaderef1_Double.calls d n r5 _ Q9.out).mono ?_); rintro e w' ⟨rfl, hq⟩; have nf := hid (below_next HF.out ⟨hq.os, hq.tape, hq.output, hq.size, hq.block⟩); clear HF hq; have HF := nf; clear nf))
  go_ret
  exact ⟨rfl, HF.out⟩
end Go.Proofs.Ytgaahjilfdfphaa
