/- An area is parsed: what has the right lengths. -/
import Derived.Test.YtnlmabdbpjbhoaaImgParse
import Derived.Laws.CopyOwn
namespace Go.Proofs.Ytnlmabdbpjbhoaa
open Go.RowKit Go.ChangeShapes
set_option linter.unusedVariables false
set_option linter.unusedSimpArgs false
set_option maxHeartbeats 4000000 in
theorem Parse_sum {w : World} {a : Option Addr} {c : Nat} {x : List Int} (hx : IsInts .u8 w a c x) (hl : x.length ≤ 40040) (h16 : 16 ≤ x.length) (hn : vOf ((x.drop 4).take 4) + 16 = (x.length : Int)) (t v S : Int) (ht : vOf (x.take 4) = t) (hv : vOf (x.drop (x.length - 8)) = v) (hS : sFrom 14695981039346656037 (x.take (x.length - 8)) = S) (hne : v ≠ S) :
    Calls Try.prog 9 #[.slice a x.length c] w fun e w' => e = .returned (.tuple #[.int .u32 0, .slice none 0 0, .bool false]) ∧ Frm (fun _ => False) w w' := by
  have hle := hx.le
  have hsm := hx.small
  have hwf := hid hx.wf
  obtain ⟨m, hm⟩ : ∃ m : Nat, x.length = 16 + m := ⟨x.length - 16, by omega⟩
  obtain ⟨g, off, rfl, _, _⟩ := hx.at_ (by omega)
  have HX := hid hx; clear hx
  have fin : ∀ {wq : World}, Below w.heap.size w wq → Frm (fun _ => False) w wq := fun h => Frm.of_below h (fun k hk hk' => absurd (Nat.lt_of_lt_of_le hk hk') (Nat.lt_irrefl _))
  have HV1 := hid (show IntKind.u32.wrap (vOf (x.take 4)) = t by have := vOf_take_bound x hwf.out 4 (by decide) (by omega); rw [show (256 : Int) ^ 4 = 4294967296 from rfl] at this; rw [wrap_u32]; omega)
  have HV2 := hid (show IntKind.u32.wrap (vOf ((x.drop 4).take 4)) = (m : Int) by rw [wrap_u32]; omega)
  have hx4 := hid (show 4 ≤ x.length by omega)
  have hd := hid (show 4 ≤ (x.drop 4).length by rw [List.length_drop]; omega)
  have hll := hid (show ((((x.drop 4).drop 4).length : Nat) : Int) = (m : Int) + 8 by rw [List.length_drop, List.length_drop]; omega)
  have hl8 := hid (show (x.drop (8 + m)).length = x.length - (8 + m) from List.length_drop ..)
  have hl9 := hid (show 8 ≤ (x.drop (8 + m)).length by rw [List.length_drop]; omega)
  have ht8 := hid (show (x.take (8 + m)).length = 8 + m by rw [List.length_take]; omega)
  have HV3 := hid (show vOf ((x.drop (8 + m)).take 8) = v by rw [List.take_of_length_le (by rw [List.length_drop]; omega)]; rw [show x.length - 8 = 8 + m by omega] at hv; exact hv)
  have HS := hid (show sFrom 14695981039346656037 (x.take (8 + m)) = S by rw [show x.length - 8 = 8 + m by omega] at hS; exact hS)
  clear hv hS ht hn
  have hcn : ¬ c = 8 + m := by omega
  have hc8 : ¬ c = 8 := by omega
  have m0 : (0 : Int) ≤ (m : Int) := by omega
  have m1 : (8 : Int) + (m : Int) ≤ (x.length : Int) := by omega
  have m2 : (8 : Int) + (m : Int) ≤ (c : Int) := by omega
  have m3 : (m : Int) ≤ 40040 := by omega
  have HM := hid hm; clear hm
  have q1 : (v == S) = false := beq_eq_false_iff_ne.2 hne
  have q2 : (v != S) = true := bne_iff_ne.2 hne
  go_enter Try.func9, Try.ntmps9
  go_wp2_with (first
    | (go_at_call 20; (with_reducible refine (Open_calls HX.out rfl (by omega)).mono ?_); rintro e w1 ⟨b', hb', rfl, hR, f'⟩; have HF := hid f'; have HRB := hid hb'; have HR := hid hR; clear hR f' hb')
    | (go_at_call 20; (with_reducible refine (Open_calls (x := x.drop (8 + m)) ((HX.out.below HF.out (Nat.le_refl _)).drop (8 + m)) hl8.out (by rw [hl8.out]; omega)).mono ?_); rintro e w5 ⟨b5, hb5, rfl, hR, f'⟩; have HRC := hid (Nat.le_trans HF.out.size hb5); have nF := hid (below_next HF.out f'); clear HF; have HF := nF; have HR4 := hid hR; clear nF hR f' hb5)
    | (go_at_call 21; (with_reducible refine (RU32_ok HR.out hx4.out t HV1.out).mono ?_); rintro e w' ⟨rfl, h', f'⟩; have nF := hid (below_frm1 HF.out f' HRB.out); clear HF HR f'; have HF := nF; have HR2 := hid h'; clear nF h')
    | (go_at_call 21; (with_reducible refine (RU32_ok HR2.out hd.out (m : Int) HV2.out).mono ?_); rintro e w' ⟨rfl, h', f'⟩; have nF := hid (below_frm1 HF.out f' HRB.out); clear HF HR2 f'; have HF := nF; have HR3 := hid h'; clear nF h')
    | (go_at_call 22; (with_reducible refine (Left_n HR3.out ((m : Int) + 8) hll.out).mono ?_); rintro e w' ⟨rfl, rfl⟩)
    | (go_at_call 23; (with_reducible refine (RU64_ok HR4.out hl9.out v HV3.out).mono ?_); rintro e w' ⟨rfl, h', f'⟩; have nF := hid (below_frm1 HF.out f' HRC.out); clear HF HR4 f' h'; have HF := nF; clear nF)
    | (go_at_call 24; (with_reducible refine (Sum_calls ((HX.out.below HF.out (Nat.le_refl _)).take (8 + m)) (8 + m) ht8.out S HS.out).mono ?_); rintro e w6 ⟨rfl, rfl⟩))
  go_ret3
  exact ⟨rfl, fin HF.out⟩
set_option maxHeartbeats 4000000 in
theorem Parse_ok {w : World} {a : Option Addr} {c : Nat} {x : List Int} (hx : IsInts .u8 w a c x) (hl : x.length ≤ 40040) (h16 : 16 ≤ x.length) (hn : vOf ((x.drop 4).take 4) + 16 = (x.length : Int)) (t v S : Int) (ht : vOf (x.take 4) = t) (hv : vOf (x.drop (x.length - 8)) = v) (hS : sFrom 14695981039346656037 (x.take (x.length - 8)) = S) (hne : v = S) :
    Calls Try.prog 9 #[.slice a x.length c] w fun e w' => ∃ gb, e = .returned (.tuple #[.int .u32 t, .slice (some ⟨gb, 0, none⟩) (x.length - 16) (x.length - 16), .bool true]) ∧ w.heap.size ≤ gb ∧ IsInts .u8 w' (some ⟨gb, 0, none⟩) (x.length - 16) ((x.drop 8).take (x.length - 16)) ∧ Frm (fun _ => False) w w' := by
  have hle := hx.le
  have hsm := hx.small
  have hwf := hid hx.wf
  obtain ⟨m, hm⟩ : ∃ m : Nat, x.length = 16 + m := ⟨x.length - 16, by omega⟩
  obtain ⟨g, off, rfl, _, _⟩ := hx.at_ (by omega)
  have HX := hid hx; clear hx
  have fin : ∀ {wq : World}, Below w.heap.size w wq → Frm (fun _ => False) w wq := fun h => Frm.of_below h (fun k hk hk' => absurd (Nat.lt_of_lt_of_le hk hk') (Nat.lt_irrefl _))
  have HV1 := hid (show IntKind.u32.wrap (vOf (x.take 4)) = t by have := vOf_take_bound x hwf.out 4 (by decide) (by omega); rw [show (256 : Int) ^ 4 = 4294967296 from rfl] at this; rw [wrap_u32]; omega)
  have HV2 := hid (show IntKind.u32.wrap (vOf ((x.drop 4).take 4)) = (m : Int) by rw [wrap_u32]; omega)
  have hx4 := hid (show 4 ≤ x.length by omega)
  have hd := hid (show 4 ≤ (x.drop 4).length by rw [List.length_drop]; omega)
  have hll := hid (show ((((x.drop 4).drop 4).length : Nat) : Int) = (m : Int) + 8 by rw [List.length_drop, List.length_drop]; omega)
  have hl8 := hid (show (x.drop (8 + m)).length = x.length - (8 + m) from List.length_drop ..)
  have hl9 := hid (show 8 ≤ (x.drop (8 + m)).length by rw [List.length_drop]; omega)
  have ht8 := hid (show (x.take (8 + m)).length = 8 + m by rw [List.length_take]; omega)
  have HV3 := hid (show vOf ((x.drop (8 + m)).take 8) = v by rw [List.take_of_length_le (by rw [List.length_drop]; omega)]; rw [show x.length - 8 = 8 + m by omega] at hv; exact hv)
  have HS := hid (show sFrom 14695981039346656037 (x.take (8 + m)) = S by rw [show x.length - 8 = 8 + m by omega] at hS; exact hS)
  clear hv hS ht hn
  have hcn : ¬ c = 8 + m := by omega
  have hc8 : ¬ c = 8 := by omega
  have m0 : (0 : Int) ≤ (m : Int) := by omega
  have m1 : (8 : Int) + (m : Int) ≤ (x.length : Int) := by omega
  have m2 : (8 : Int) + (m : Int) ≤ (c : Int) := by omega
  have m3 : (m : Int) ≤ 40040 := by omega
  have HM := hid hm; clear hm
  have q1 : (v == S) = true := beq_iff_eq.2 hne
  have q2 : (v != S) = false := by rw [hne]; simp
  clear hne
  have hmk : ∀ w, (Instr.makeSlice 23 (.int .u32 (m : Int)) (.int .u32 (m : Int))).run Try.prog w = .ok (.slice (some ⟨w.heap.size, 0, none⟩) m m) (w.alloc (.cells (madeCells #[.int .u8 0] m) 5)) :=
    run_make_row' (P := Try.prog) 23 5 (.int .u8 0) 1 Try.underlying23 u8_info rfl .u32 .u32 m (by omega) (by omega)
  have hbd := hid (show ((x.drop 8).take m).length = m by have := HM.out; rw [List.length_take, List.length_drop]; omega)
  go_enter Try.func9, Try.ntmps9
  go_wp2_with (first
    | (go_at_call 20; (with_reducible refine (Open_calls HX.out rfl (by omega)).mono ?_); rintro e w1 ⟨b', hb', rfl, hR, f'⟩; have HF := hid f'; have HRB := hid hb'; have HR := hid hR; clear hR f' hb')
    | (go_at_call 20; (with_reducible refine (Open_calls (x := x.drop (8 + m)) ((HX.out.below HF.out (Nat.le_refl _)).drop (8 + m)) hl8.out (by rw [hl8.out]; omega)).mono ?_); rintro e w5 ⟨b5, hb5, rfl, hR, f'⟩; have HRC := hid (Nat.le_trans HF.out.size hb5); have nF := hid (below_next HF.out f'); clear HF; have HF := nF; have HR4 := hid hR; clear nF hR f' hb5)
    | (go_at_call 21; (with_reducible refine (RU32_ok HR.out hx4.out t HV1.out).mono ?_); rintro e w' ⟨rfl, h', f'⟩; have nF := hid (below_frm1 HF.out f' HRB.out); clear HF HR f'; have HF := nF; have HR2 := hid h'; clear nF h')
    | (go_at_call 21; (with_reducible refine (RU32_ok HR2.out hd.out (m : Int) HV2.out).mono ?_); rintro e w' ⟨rfl, h', f'⟩; have nF := hid (below_frm1 HF.out f' HRB.out); clear HF HR2 f'; have HF := nF; have HR3 := hid h'; clear nF h')
    | (go_at_call 22; (with_reducible refine (Left_n HR3.out ((m : Int) + 8) hll.out).mono ?_); rintro e w' ⟨rfl, rfl⟩)
    | (go_at_call 23; (with_reducible refine (RU64_ok HR4.out hl9.out v HV3.out).mono ?_); rintro e w' ⟨rfl, h', f'⟩; have nF := hid (below_frm1 HF.out f' HRC.out); clear HF HR4 f' h'; have HF := nF; clear nF)
    | (go_at_call 24; (with_reducible refine (Sum_calls ((HX.out.below HF.out (Nat.le_refl _)).take (8 + m)) (8 + m) ht8.out S HS.out).mono ?_); rintro e w6 ⟨rfl, rfl⟩)
    | ((with_reducible show wpList _ _ _ _ _ _); have hbl : Blk (w'.alloc (.cells (madeCells #[.int .u8 0] m) 5)) w'.heap.size (madeCells #[.int .u8 0] m).toList 5 := (by have := Blk.new w' (madeCells #[.int .u8 0] m).toList 5; simpa using this); have hI3 := (((HX.out.below HF.out (Nat.le_refl _)).drop 8).take m).frm ((Frm.refl (fun _ => False) w').alloc (.cells (madeCells #[.int .u8 0] m) 5)) (fun _ _ h => h); (refine wpList_copy_splice rfl (.tmp 55) (.tmp 58) 23 23 rfl 5 Try.underlying23 u8_size _ _ _ _ _ _ rfl rfl w'.heap.size 0 _ 5 hbl (byt ((x.drop 8).take m)) (by rw [List.length_map, hbd.out, Nat.add_sub_cancel_left]; exact (Nat.min_self m).symm) (fun hp => ⟨rfl, hI3.cellsrc (by simpa using hp)⟩) (by rw [made_len, List.length_map, hbd.out]; omega) (byt_one _) w.heap.size w (HF.out.alloc HF.out.size _) HF.out.size ?_); intro w9 hg9 hb9; have HG := hid HF.out.size; have h9 := hg9.out; (rw [splice_all _ _ (by rw [made_len, List.length_map, hbd.out])] at h9); have HO := hid (show Blk w9 w'.heap.size (byt ((x.drop 8).take m)) 5 from h9); clear HF hbl hI3 hg9 h9; have HF := hid hb9; clear hb9))
  go_ret3
  have hm6 : x.length - 16 = m := by have := HM.out; omega
  rw [hm6]
  exact ⟨_, rfl, HG.out, IsInts.of_take HO.out (List.take_of_length_le (by simp)) (Nat.le_of_eq hbd.out) (by omega) ((HX.out.drop 8).take m).wf, fin HF.out⟩
end Go.Proofs.Ytnlmabdbpjbhoaa
