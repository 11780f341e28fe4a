/- An image is saved. -/
import Derived.Test.YtnlmabdbpjbhoaaImgLoad
namespace Go.Proofs.Ytnlmabdbpjbhoaa
open Go.RowKit Go.ChangeShapes
set_option linter.unusedVariables false
set_option linter.unusedSimpArgs false
set_option maxHeartbeats 2000000 in
theorem Save_nk {w : World} {b : Nat} {x0 x1 : List Int} {n : Int} (h : IsDk w b x0 x1 false n) (hi : img x0 x1 = none) {a : Option Addr} {c : Nat} {y : List Int} (hy : IsInts .u8 w a c y) (hl : y.length ≤ 40000) :
    Calls Try.prog 17 #[.pointer (some ⟨b, 0, none⟩), .slice a y.length c] w fun e w' => e = .returned (.int .i64 0) ∧ IsDk w' b (frame 1 y) x1 false n ∧ Frm (· = b) w w' := by
  have HD := hid h; have HY := hid hy; have hi2 := hid hi
  have hle := hy.le
  have hsm := hy.small
  clear h hy hi
  go_enter Try.func17, Try.ntmps17
  go_wp2_with (first
    | (go_at_call 33; (with_reducible refine (Last_none HD.out hi2.out).mono ?_); rintro e w1 ⟨rfl, f'⟩; have HD2 := hid (HD.out.frm f'); have HY2 := hid (HY.out.frm f' (fun _ _ h => h)); have HF := hid f'; clear HD HY f'; have HD := HD2; have HY := HY2; clear HD2 HY2)
    | (go_at_call 11; (with_reducible refine (Frame_calls (t := 1) (by omega) (by omega) HY.out (by omega)).mono ?_); rintro e w2 ⟨A, l, c2, rfl, rfl, hA, f'⟩; have HD2 := hid (HD.out.frm f'); have HF2 := hid (HF.out.trans f'); have HA := hid hA; clear HD HF hA f'; have HD := HD2; have HF := HF2; clear HD2 HF2)
    | (go_at_call 14; (with_reducible refine (Write_ok0 HD.out HA.out (by rw [frame_len]; omega)).mono ?_); rintro e w3 ⟨rfl, h', f'⟩))
  go_ret
  exact ⟨rfl, h', (Frm0.any HF.out).trans f'⟩
set_option maxHeartbeats 2000000 in
theorem Save_0k {w : World} {b : Nat} {x0 x1 : List Int} {n : Int} (h : IsDk w b x0 x1 false n) (bs : List Int) (t : Int) (hi : img x0 x1 = some (bs, t, 0)) (ht0 : 0 ≤ t) (ht1 : t < 4294967295) {a : Option Addr} {c : Nat} {y : List Int} (hy : IsInts .u8 w a c y) (hl : y.length ≤ 40000) :
    Calls Try.prog 17 #[.pointer (some ⟨b, 0, none⟩), .slice a y.length c] w fun e w' => e = .returned (.int .i64 0) ∧ IsDk w' b x0 (frame (t + 1) y) false n ∧ Frm (· = b) w w' := by
  have HD := hid h; have HY := hid hy; have hi2 := hid hi
  have hle := hy.le
  have hsm := hy.small
  clear h hy hi
  have qt : (t == 4294967295) = false := beq_eq_false_iff_ne.2 (by omega)
  go_enter Try.func17, Try.ntmps17
  go_wp2_with (first
    | (go_at_call 33; (with_reducible refine (Last_some HD.out bs t _ hi2.out).mono ?_); rintro e w1 ⟨g, rfl, hg, hB, f'⟩; have HD2 := hid (HD.out.frm f'); have HY2 := hid (HY.out.frm f' (fun _ _ h => h)); have HF := hid f'; clear HD HY f'; have HD := HD2; have HY := HY2; clear HD2 HY2)
    | (go_at_call 11; (with_reducible refine (Frame_calls (t := (t + 1)) (by omega) (by omega) HY.out (by omega)).mono ?_); rintro e w2 ⟨A, l, c2, rfl, rfl, hA, f'⟩; have HD2 := hid (HD.out.frm f'); have HF2 := hid (HF.out.trans f'); have HA := hid hA; clear HD HF hA f'; have HD := HD2; have HF := HF2; clear HD2 HF2)
    | (go_at_call 14; (with_reducible refine (Write_ok1 HD.out HA.out (by rw [frame_len]; omega)).mono ?_); rintro e w3 ⟨rfl, h', f'⟩))
  go_ret
  exact ⟨rfl, h', (Frm0.any HF.out).trans f'⟩
set_option maxHeartbeats 2000000 in
theorem Save_1k {w : World} {b : Nat} {x0 x1 : List Int} {n : Int} (h : IsDk w b x0 x1 false n) (bs : List Int) (t : Int) (hi : img x0 x1 = some (bs, t, 1)) (ht0 : 0 ≤ t) (ht1 : t < 4294967295) {a : Option Addr} {c : Nat} {y : List Int} (hy : IsInts .u8 w a c y) (hl : y.length ≤ 40000) :
    Calls Try.prog 17 #[.pointer (some ⟨b, 0, none⟩), .slice a y.length c] w fun e w' => e = .returned (.int .i64 0) ∧ IsDk w' b (frame (t + 1) y) x1 false n ∧ Frm (· = b) w w' := by
  have HD := hid h; have HY := hid hy; have hi2 := hid hi
  have hle := hy.le
  have hsm := hy.small
  clear h hy hi
  have qt : (t == 4294967295) = false := beq_eq_false_iff_ne.2 (by omega)
  go_enter Try.func17, Try.ntmps17
  go_wp2_with (first
    | (go_at_call 33; (with_reducible refine (Last_some HD.out bs t _ hi2.out).mono ?_); rintro e w1 ⟨g, rfl, hg, hB, f'⟩; have HD2 := hid (HD.out.frm f'); have HY2 := hid (HY.out.frm f' (fun _ _ h => h)); have HF := hid f'; clear HD HY f'; have HD := HD2; have HY := HY2; clear HD2 HY2)
    | (go_at_call 11; (with_reducible refine (Frame_calls (t := (t + 1)) (by omega) (by omega) HY.out (by omega)).mono ?_); rintro e w2 ⟨A, l, c2, rfl, rfl, hA, f'⟩; have HD2 := hid (HD.out.frm f'); have HF2 := hid (HF.out.trans f'); have HA := hid hA; clear HD HF hA f'; have HD := HD2; have HF := HF2; clear HD2 HF2)
    | (go_at_call 14; (with_reducible refine (Write_ok0 HD.out HA.out (by rw [frame_len]; omega)).mono ?_); rintro e w3 ⟨rfl, h', f'⟩))
  go_ret
  exact ⟨rfl, h', (Frm0.any HF.out).trans f'⟩
set_option maxHeartbeats 2000000 in
theorem Save_nc {w : World} {b : Nat} {x0 x1 : List Int} {n : Int} (h : IsDk w b x0 x1 true n) (hi : img x0 x1 = none) {a : Option Addr} {c : Nat} {y : List Int} (hy : IsInts .u8 w a c y) (hl : y.length ≤ 40000) (m : Nat) (hm : m = min (frame 1 y).length n.toNat) :
    Calls Try.prog 17 #[.pointer (some ⟨b, 0, none⟩), .slice a y.length c] w fun e w' => e = .returned (.int .i64 70) ∧ IsDk w' b ((frame 1 y).take m) x1 false 0 ∧ Frm (· = b) w w' := by
  have HD := hid h; have HY := hid hy; have hi2 := hid hi
  have hle := hy.le
  have hsm := hy.small
  clear h hy hi
  have hm2 := hid hm; clear hm
  go_enter Try.func17, Try.ntmps17
  go_wp2_with (first
    | (go_at_call 33; (with_reducible refine (Last_none HD.out hi2.out).mono ?_); rintro e w1 ⟨rfl, f'⟩; have HD2 := hid (HD.out.frm f'); have HY2 := hid (HY.out.frm f' (fun _ _ h => h)); have HF := hid f'; clear HD HY f'; have HD := HD2; have HY := HY2; clear HD2 HY2)
    | (go_at_call 11; (with_reducible refine (Frame_calls (t := 1) (by omega) (by omega) HY.out (by omega)).mono ?_); rintro e w2 ⟨A, l, c2, rfl, rfl, hA, f'⟩; have HD2 := hid (HD.out.frm f'); have HF2 := hid (HF.out.trans f'); have HA := hid hA; clear HD HF hA f'; have HD := HD2; have HF := HF2; clear HD2 HF2)
    | (go_at_call 14; (with_reducible refine (Write_cut0 HD.out HA.out (by rw [frame_len]; omega) m hm2.out).mono ?_); rintro e w3 ⟨rfl, h', f'⟩))
  go_ret
  exact ⟨rfl, h', (Frm0.any HF.out).trans f'⟩
set_option maxHeartbeats 2000000 in
theorem Save_0c {w : World} {b : Nat} {x0 x1 : List Int} {n : Int} (h : IsDk w b x0 x1 true n) (bs : List Int) (t : Int) (hi : img x0 x1 = some (bs, t, 0)) (ht0 : 0 ≤ t) (ht1 : t < 4294967295) {a : Option Addr} {c : Nat} {y : List Int} (hy : IsInts .u8 w a c y) (hl : y.length ≤ 40000) (m : Nat) (hm : m = min (frame (t + 1) y).length n.toNat) :
    Calls Try.prog 17 #[.pointer (some ⟨b, 0, none⟩), .slice a y.length c] w fun e w' => e = .returned (.int .i64 70) ∧ IsDk w' b x0 ((frame (t + 1) y).take m) false 0 ∧ Frm (· = b) w w' := by
  have HD := hid h; have HY := hid hy; have hi2 := hid hi
  have hle := hy.le
  have hsm := hy.small
  clear h hy hi
  have hm2 := hid hm; clear hm
  have qt : (t == 4294967295) = false := beq_eq_false_iff_ne.2 (by omega)
  go_enter Try.func17, Try.ntmps17
  go_wp2_with (first
    | (go_at_call 33; (with_reducible refine (Last_some HD.out bs t _ hi2.out).mono ?_); rintro e w1 ⟨g, rfl, hg, hB, f'⟩; have HD2 := hid (HD.out.frm f'); have HY2 := hid (HY.out.frm f' (fun _ _ h => h)); have HF := hid f'; clear HD HY f'; have HD := HD2; have HY := HY2; clear HD2 HY2)
    | (go_at_call 11; (with_reducible refine (Frame_calls (t := (t + 1)) (by omega) (by omega) HY.out (by omega)).mono ?_); rintro e w2 ⟨A, l, c2, rfl, rfl, hA, f'⟩; have HD2 := hid (HD.out.frm f'); have HF2 := hid (HF.out.trans f'); have HA := hid hA; clear HD HF hA f'; have HD := HD2; have HF := HF2; clear HD2 HF2)
    | (go_at_call 14; (with_reducible refine (Write_cut1 HD.out HA.out (by rw [frame_len]; omega) m hm2.out).mono ?_); rintro e w3 ⟨rfl, h', f'⟩))
  go_ret
  exact ⟨rfl, h', (Frm0.any HF.out).trans f'⟩
set_option maxHeartbeats 2000000 in
theorem Save_1c {w : World} {b : Nat} {x0 x1 : List Int} {n : Int} (h : IsDk w b x0 x1 true n) (bs : List Int) (t : Int) (hi : img x0 x1 = some (bs, t, 1)) (ht0 : 0 ≤ t) (ht1 : t < 4294967295) {a : Option Addr} {c : Nat} {y : List Int} (hy : IsInts .u8 w a c y) (hl : y.length ≤ 40000) (m : Nat) (hm : m = min (frame (t + 1) y).length n.toNat) :
    Calls Try.prog 17 #[.pointer (some ⟨b, 0, none⟩), .slice a y.length c] w fun e w' => e = .returned (.int .i64 70) ∧ IsDk w' b ((frame (t + 1) y).take m) x1 false 0 ∧ Frm (· = b) w w' := by
  have HD := hid h; have HY := hid hy; have hi2 := hid hi
  have hle := hy.le
  have hsm := hy.small
  clear h hy hi
  have hm2 := hid hm; clear hm
  have qt : (t == 4294967295) = false := beq_eq_false_iff_ne.2 (by omega)
  go_enter Try.func17, Try.ntmps17
  go_wp2_with (first
    | (go_at_call 33; (with_reducible refine (Last_some HD.out bs t _ hi2.out).mono ?_); rintro e w1 ⟨g, rfl, hg, hB, f'⟩; have HD2 := hid (HD.out.frm f'); have HY2 := hid (HY.out.frm f' (fun _ _ h => h)); have HF := hid f'; clear HD HY f'; have HD := HD2; have HY := HY2; clear HD2 HY2)
    | (go_at_call 11; (with_reducible refine (Frame_calls (t := (t + 1)) (by omega) (by omega) HY.out (by omega)).mono ?_); rintro e w2 ⟨A, l, c2, rfl, rfl, hA, f'⟩; have HD2 := hid (HD.out.frm f'); have HF2 := hid (HF.out.trans f'); have HA := hid hA; clear HD HF hA f'; have HD := HD2; have HF := HF2; clear HD2 HF2)
    | (go_at_call 14; (with_reducible refine (Write_cut0 HD.out HA.out (by rw [frame_len]; omega) m hm2.out).mono ?_); rintro e w3 ⟨rfl, h', f'⟩))
  go_ret
  exact ⟨rfl, h', (Frm0.any HF.out).trans f'⟩
end Go.Proofs.Ytnlmabdbpjbhoaa
