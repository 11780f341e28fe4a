/- WireWidths, walked: each number takes its width, whatever it is; bytes two more than they are. -/
import Derived.Test.YtifhjdjjekeegaaWireVal
namespace Go.Proofs.Ytifhjdjjekeegaa
open Go.RowKit Go.ChangeShapes
set_option linter.unusedVariables false
set_option linter.unusedSimpArgs false
theorem be1 (n : Int) : be n 1 = [n / 1 % 256] := rfl
theorem be2 (n : Int) : be n 2 = [n / 256 % 256, n / 1 % 256] := rfl
theorem be4 (n : Int) : be n 4 = [n / 16777216 % 256, n / 65536 % 256, n / 256 % 256, n / 1 % 256] := rfl
theorem be8 (n : Int) : be n 8 = [n / 72057594037927936 % 256, n / 281474976710656 % 256, n / 1099511627776 % 256, n / 4294967296 % 256, n / 16777216 % 256, n / 65536 % 256, n / 256 % 256, n / 1 % 256] := rfl
set_option maxRecDepth 100000 in
set_option maxHeartbeats 4000000 in
theorem WireWidths_walk (a b c d : Int) (a4 : Option Addr) (c4 : Nat) (z0 : List Int) (w : World) (w0 : (Lit.int .u8 a).wf = true) (w1 : (Lit.int .u16 b).wf = true) (w2 : (Lit.int .u32 c).wf = true) (w3 : (Lit.int .u64 d).wf = true) (h0 : IsInts .u8 w a4 c4 z0) :
    Calls Try.prog 3 #[.int .u8 a, .int .u16 b, .int .u32 c, .int .u64 d, .slice a4 z0.length c4] w fun e w' => e = .returned (.bool true) ∧ Below w.heap.size w w' := by
  have ba := bounds_u8 w0
  have bb := bounds_u16 w1
  have bc := bounds_u32 w2
  have bd := bounds_u64 w3
  clear w0 w1 w2 w3
  have hle := h0.le
  have hsm := h0.small
  by_cases hlen : z0.length > 300
  · go_enter Try.func3, Try.ntmps3
    go_wp2_with (go_at_call 8; (with_reducible refine (known_calls _).mono ?_); rintro e w' ⟨rfl, f1⟩; have HF := hid f1; clear f1)
    go_ret
    exact ⟨rfl, HF.out⟩
  have HI0 := hid h0; clear h0
  have ha : 0 ≤ a ∧ a < 256 := by omega
  have hb : 0 ≤ b ∧ b < 65536 := by omega
  have hc : 0 ≤ c ∧ c < 4294967296 := by omega
  have hd : 0 ≤ d ∧ d < 18446744073709551616 := by omega
  obtain ⟨x, hx⟩ : ∃ x, x = [] ++ be a 1 ++ be b 2 ++ be c 4 ++ be d 8 ++ be (z0.length : Int) 2 ++ z0 := ⟨_, rfl⟩
  have hxl : x.length = z0.length + 17 := by rw [hx]; simp [be_len]; omega
  have hx2 : x = a / 1 % 256 :: b / 256 % 256 :: b / 1 % 256 :: c / 16777216 % 256 :: c / 65536 % 256 :: c / 256 % 256 :: c / 1 % 256 :: d / 72057594037927936 % 256 :: d / 281474976710656 % 256 :: d / 1099511627776 % 256 :: d / 4294967296 % 256 :: d / 16777216 % 256 :: d / 65536 % 256 :: d / 256 % 256 :: d / 1 % 256 :: (be (z0.length : Int) 2 ++ z0) := by
    rw [hx, be1, be2 b, be4, be8]; simp
  have x0 : x[0]? = some a := by rw [hx2]; show some (a / 1 % 256) = _; congr 1; omega
  have x1 : x[1]? = some (b / 256 % 256) := by rw [hx2]; rfl
  have x2 : x[2]? = some (b % 256) := by rw [hx2]; show some (b / 1 % 256) = _; rw [Int.ediv_one]
  have x6 : x[6]? = some (c % 256) := by rw [hx2]; show some (c / 1 % 256) = _; rw [Int.ediv_one]
  have x7 : x[7]? = some (d / 72057594037927936 % 256) := by rw [hx2]; rfl
  have x14 : x[14]? = some (d % 256) := by rw [hx2]; show some (d / 1 % 256) = _; rw [Int.ediv_one]
  have HX := hid hx; clear hx hx2
  have HL := hid hxl; clear hxl
  have L1 := hid (show ([] ++ be a 1).length = 1 by simp [be_len])
  have L3 := hid (show ([] ++ be a 1 ++ be b 2).length = 3 by simp [be_len])
  have L7 := hid (show ([] ++ be a 1 ++ be b 2 ++ be c 4).length = 7 by simp [be_len])
  have L15 := hid (show ([] ++ be a 1 ++ be b 2 ++ be c 4 ++ be d 8).length = 15 by simp [be_len])
  have X0 := hid x0; have X1 := hid x1; have X2 := hid x2; have X6 := hid x6; have X7 := hid x7; have X14 := hid x14
  clear x0 x1 x2 x6 x7 x14
  go_enter Try.func3, Try.ntmps3
  go_wp2_with (first
          | (go_at_call 8; (with_reducible refine (known_calls _).mono ?_); rintro e w' ⟨rfl, f1⟩; have HF := hid f1; clear f1)
          | (go_at_call 9; (with_reducible refine (WNew_calls _ (fun k => k < w.heap.size) (hA_of HF.out)).mono ?_); rintro e w' ⟨rfl, h', f'⟩; have nF := hid (below_next HF.out f'); clear HF f'; have HF := nF; clear nF; have HW := hid h'; clear h')
          | (go_at_call 10; (with_reducible refine (WU8_calls HW.out (hA_of HF.out) _ ha.1 ha.2 (by simp [be_len])).mono ?_); rintro e w' ⟨rfl, h', f'⟩; have nF := hid (below_A HF.out f'); clear HF HW f'; have HF := nF; have HW := hid h'; clear h' nF)
          | (go_at_call 11; (with_reducible refine (WAll_calls HW.out (by first | (simp [be_len]; done) | (simp [be_len]; omega)) 1 L1.out).mono ?_); rintro e w' ⟨rfl, hI, f'⟩; have nF := hid (below_next HF.out f'); have nW := hid (HW.out.quiet (frm0_of f')); clear HF HW f'; have HF := nF; have HW := nW; clear nF nW; clear hI)
          | (go_at_call 12; (with_reducible refine (WU16_calls HW.out (hA_of HF.out) _ hb.1 hb.2 (by simp [be_len])).mono ?_); rintro e w' ⟨rfl, h', f'⟩; have nF := hid (below_A HF.out f'); clear HF HW f'; have HF := nF; have HW := hid h'; clear h' nF)
          | (go_at_call 11; (with_reducible refine (WAll_calls HW.out (by first | (simp [be_len]; done) | (simp [be_len]; omega)) 3 L3.out).mono ?_); rintro e w' ⟨rfl, hI, f'⟩; have nF := hid (below_next HF.out f'); have nW := hid (HW.out.quiet (frm0_of f')); clear HF HW f'; have HF := nF; have HW := nW; clear nF nW; clear hI)
          | (go_at_call 13; (with_reducible refine (WU32_calls HW.out (hA_of HF.out) _ hc.1 hc.2 (by simp [be_len])).mono ?_); rintro e w' ⟨rfl, h', f'⟩; have nF := hid (below_A HF.out f'); clear HF HW f'; have HF := nF; have HW := hid h'; clear h' nF)
          | (go_at_call 11; (with_reducible refine (WAll_calls HW.out (by first | (simp [be_len]; done) | (simp [be_len]; omega)) 7 L7.out).mono ?_); rintro e w' ⟨rfl, hI, f'⟩; have nF := hid (below_next HF.out f'); have nW := hid (HW.out.quiet (frm0_of f')); clear HF HW f'; have HF := nF; have HW := nW; clear nF nW; clear hI)
          | (go_at_call 14; (with_reducible refine (WU64_calls HW.out (hA_of HF.out) _ hd.1 hd.2 (by simp [be_len])).mono ?_); rintro e w' ⟨rfl, h', f'⟩; have nF := hid (below_A HF.out f'); clear HF HW f'; have HF := nF; have HW := hid h'; clear h' nF)
          | (go_at_call 11; (with_reducible refine (WAll_calls HW.out (by first | (simp [be_len]; done) | (simp [be_len]; omega)) 15 L15.out).mono ?_); rintro e w' ⟨rfl, hI, f'⟩; have nF := hid (below_next HF.out f'); have nW := hid (HW.out.quiet (frm0_of f')); clear HF HW f'; have HF := nF; have HW := nW; clear nF nW; clear hI)
          | (go_at_call 15; (with_reducible refine (WBytes_calls HW.out (hA_of HF.out) (HI0.out.below HF.out (Nat.le_refl _)) (fun w' f => HI0.out.below (below_A HF.out f) (Nat.le_refl _)) (by omega) (by simp [be_len])).mono ?_); rintro e w' ⟨rfl, h', f'⟩; have nF := hid (below_A HF.out f'); clear HF HW f'; have HF := nF; have HW := hid h'; clear h' nF)
          | (go_at_call 11; (with_reducible refine (WAll_calls HW.out (by first | (simp [be_len]; done) | (simp [be_len]; omega)) (z0.length + 17) (by rw [← HX.out]; exact HL.out)).mono ?_); rintro e w' ⟨rfl, hI, f'⟩; have nF := hid (below_next HF.out f'); have nW := hid (HW.out.quiet (frm0_of f')); clear HF HW f'; have HF := nF; have HW := nW; clear nF nW; have HI := hid hI; clear hI; have hIx : IsInts .u8 w' _ _ x := HX.out ▸ HI.out; have q0 := hIx.cell 0 _ X0.out; have q1 := hIx.cell 1 _ X1.out; have q2 := hIx.cell 2 _ X2.out; have q6 := hIx.cell 6 _ X6.out; have q7 := hIx.cell 7 _ X7.out; have q14 := hIx.cell 14 _ X14.out; clear hIx))
  go_ret
  exact ⟨rfl, HF.out⟩
end Go.Proofs.Ytifhjdjjekeegaa
