/- An area is parsed: what is none by its lengths. -/
import Derived.Test.YtnlmabdbpjbhoaaImgRef
namespace Go.Proofs.Ytnlmabdbpjbhoaa
open Go.RowKit Go.ChangeShapes
set_option linter.unusedVariables false
set_option linter.unusedSimpArgs false
/-- Too short, or the length told is another. -/
def badLen (x : List Int) : Prop := x.length < 8 ∨ vOf ((x.drop 4).take 4) + 16 ≠ (x.length : Int)
set_option maxHeartbeats 4000000 in
theorem Parse_len {w : World} {a : Option Addr} {c : Nat} {x : List Int} (hx : IsInts .u8 w a c x) (hl : x.length ≤ 40040) (hbad : badLen x) :
    Calls Try.prog 9 #[.slice a x.length c] w fun e w' => e = .returned (.tuple #[.int .u32 0, .slice none 0 0, .bool false]) ∧ Frm (fun _ => False) w w' := by
  have hle := hx.le
  have hsm := hx.small
  have hwf := hx.wf
  have HX := hid hx; clear hx
  have fin : ∀ {wq : World}, Below w.heap.size w wq → Frm (fun _ => False) w wq := fun h => Frm.of_below h (fun k hk hk' => absurd (Nat.lt_of_lt_of_le hk hk') (Nat.lt_irrefl _))
  by_cases h4 : x.length < 4
  · go_enter Try.func9, Try.ntmps9
    go_wp2_with (first
      | (go_at_call 20; (with_reducible refine (Open_calls HX.out rfl (by omega)).mono ?_); rintro e w1 ⟨b', hb', rfl, hR, f'⟩; have HF := hid f'; have HR := hid hR; clear hR f' hb')
      | (go_at_call 21; (with_reducible refine (RU32_short HR.out h4).mono ?_); rintro e w' ⟨rfl, rfl⟩))
    go_ret3
    exact ⟨rfl, fin HF.out⟩
  have hv := vOf_take_bound x hwf 4 (by decide) (by omega)
  rw [show (256 : Int) ^ 4 = 4294967296 from rfl] at hv
  have hv1 := hid (show IntKind.u32.wrap (vOf (x.take 4)) = vOf (x.take 4) by rw [wrap_u32]; omega)
  generalize hV1 : vOf (x.take 4) = v1 at hv1 hv
  have HV1 := hid (show IntKind.u32.wrap (vOf (x.take 4)) = v1 by rw [hV1]; exact hv1.out)
  clear hv1 hV1 hv
  by_cases h8 : x.length < 8
  · have hd := hid (show (x.drop 4).length < 4 by rw [List.length_drop]; omega)
    have hx4 := hid (show 4 ≤ x.length by omega)
    go_enter Try.func9, Try.ntmps9
    go_wp2_with (first
      | (go_at_call 20; (with_reducible refine (Open_calls HX.out rfl (by omega)).mono ?_); rintro e w1 ⟨b', hb', rfl, hR, f'⟩; have HF := hid f'; have HRB := hid hb'; have HR := hid hR; clear hR f' hb')
      | (go_at_call 21; (with_reducible refine (RU32_ok HR.out hx4.out v1 HV1.out).mono ?_); rintro e w' ⟨rfl, h', f'⟩; have nF := hid (below_frm1 HF.out f' HRB.out); clear HF HR f'; have HF := nF; have HR2 := hid h'; clear nF h')
      | (go_at_call 21; (with_reducible refine (RU32_short HR2.out hd.out).mono ?_); rintro e w' ⟨rfl, rfl⟩))
    go_ret3
    exact ⟨rfl, fin HF.out⟩
  have hn := vOf_take_bound (x.drop 4) (fun n h => hwf n (List.mem_of_mem_drop h)) 4 (by decide) (by rw [List.length_drop]; omega)
  rw [show (256 : Int) ^ 4 = 4294967296 from rfl] at hn
  have hb2 : vOf ((x.drop 4).take 4) + 16 ≠ (x.length : Int) := hbad.resolve_left h8
  have hv1 := hid (show IntKind.u32.wrap (vOf ((x.drop 4).take 4)) = vOf ((x.drop 4).take 4) by rw [wrap_u32]; omega)
  generalize hN : vOf ((x.drop 4).take 4) = n at hv1 hn hb2
  have HV2 := hid (show IntKind.u32.wrap (vOf ((x.drop 4).take 4)) = n by rw [hN]; exact hv1.out)
  clear hv1 hN
  have hn0 := hn.1
  have hn1 := hn.2
  have hx4 := hid (show 4 ≤ x.length by omega)
  have hd := hid (show 4 ≤ (x.drop 4).length by rw [List.length_drop]; omega)
  have hne : ((x.length : Int) - 8) ≠ n + 8 := by omega
  have hll := hid (show ((((x.drop 4).drop 4).length : Nat) : Int) = (x.length : Int) - 8 by rw [List.length_drop, List.length_drop]; omega)
  have q1 : (((x.length : Int) - 8) == n + 8) = false := beq_eq_false_iff_ne.2 hne
  have q2 : (((x.length : Int) - 8) != n + 8) = true := bne_iff_ne.2 hne
  have hwf' := hid hwf; clear hwf
  go_enter Try.func9, Try.ntmps9
  go_wp2_with (first
    | (go_at_call 20; (with_reducible refine (Open_calls HX.out rfl (by omega)).mono ?_); rintro e w1 ⟨b', hb', rfl, hR, f'⟩; have HF := hid f'; have HRB := hid hb'; have HR := hid hR; clear hR f' hb')
    | (go_at_call 21; (with_reducible refine (RU32_ok HR.out hx4.out v1 HV1.out).mono ?_); rintro e w' ⟨rfl, h', f'⟩; have nF := hid (below_frm1 HF.out f' HRB.out); clear HF HR f'; have HF := nF; have HR2 := hid h'; clear nF h')
    | (go_at_call 21; (with_reducible refine (RU32_ok HR2.out hd.out n HV2.out).mono ?_); rintro e w' ⟨rfl, h', f'⟩; have nF := hid (below_frm1 HF.out f' HRB.out); clear HF HR2 f'; have HF := nF; have HR3 := hid h'; clear nF h')
    | (go_at_call 22; (with_reducible refine (Left_n HR3.out ((x.length : Int) - 8) hll.out).mono ?_); rintro e w' ⟨rfl, rfl⟩))
  go_ret3
  exact ⟨rfl, fin HF.out⟩
end Go.Proofs.Ytnlmabdbpjbhoaa
