/- The last image of a disk. -/
import Derived.Test.YtnlmabdbpjbhoaaImgParse3
import Derived.Test.YtnlmabdbpjbhoaaDkWrite
namespace Go.Proofs.Ytnlmabdbpjbhoaa
open Go.RowKit Go.ChangeShapes
set_option linter.unusedVariables false
set_option linter.unusedSimpArgs false
set_option maxHeartbeats 2000000 in
theorem last_nn {w : World} {b : Nat} {x0 x1 : List Int} {ar : Bool} {n : Int} (h : IsDk w b x0 x1 ar n) (p : parse x0 = none) (q : parse x1 = none) :
    Calls Try.prog 33 #[.pointer (some ⟨b, 0, none⟩)] w fun e w' => e = .returned (.tuple #[.slice none 0 0, .int .u32 0, .int .i64 (-1)]) ∧ Frm (fun _ => False) w w' := by
  have hx0 := h.l0
  have hx1 := h.l1
  have HD := hid h; clear h
  have hp := hid p; have hq := hid q; clear p q
  go_enter Try.func33, Try.ntmps33
  go_wp2_with (first
    | (go_at_call 18; (with_reducible refine (Read_calls HD.out 0).mono ?_); rintro e w1 ⟨A0, k0, rfl, hI, f'⟩; have HF := hid f'; have HI0 := hid (show IsInts .u8 w1 A0 k0 x0 from hI); have HD1 := hid (HD.out.frm (frm0_of f')); clear hI f' HD)
    | (go_at_call 9; (with_reducible refine (Parse_none HI0.out hx0 (arOf x0 x1 0).length rfl hp.out).mono ?_); rintro e w2 ⟨rfl, f'⟩; have HF2 := hid (below_frm0 HF.out f'); have HD2 := hid (HD1.out.frm f'); clear HF HD1 HI0 f'; have HF := HF2; clear HF2)
    | (go_at_call 18; (with_reducible refine (Read_calls HD2.out 1).mono ?_); rintro e w3 ⟨A1, k1, rfl, hI, f'⟩; have HF2 := hid (below_next HF.out f'); have HI1 := hid (show IsInts .u8 w3 A1 k1 x1 from hI); clear HF hI f' HD2; have HF := HF2; clear HF2)
    | (go_at_call 9; (with_reducible refine (Parse_none HI1.out hx1 (arOf x0 x1 1).length rfl hq.out).mono ?_); rintro e w4 ⟨rfl, f'⟩; have HF2 := hid (below_frm0 HF.out f'); clear HF HI1 f'; have HF := HF2; clear HF2))
  go_ret3
  exact ⟨rfl, Frm.of_below HF.out (fun k hk hk' => absurd (Nat.lt_of_lt_of_le hk hk') (Nat.lt_irrefl _))⟩
set_option maxHeartbeats 2000000 in
theorem last_sn {w : World} {b : Nat} {x0 x1 : List Int} {ar : Bool} {n : Int} (h : IsDk w b x0 x1 ar n) (t : Int) (bs : List Int) (p : parse x0 = some (t, bs)) (q : parse x1 = none) :
    Calls Try.prog 33 #[.pointer (some ⟨b, 0, none⟩)] w fun e w' => ∃ g, e = .returned (.tuple #[.slice (some ⟨g, 0, none⟩) bs.length bs.length, .int .u32 t, .int .i64 0]) ∧ w.heap.size ≤ g ∧ IsInts .u8 w' (some ⟨g, 0, none⟩) bs.length bs ∧ Frm (fun _ => False) w w' := by
  have hx0 := h.l0
  have hx1 := h.l1
  have HD := hid h; clear h
  have hp := hid p; have hq := hid q; clear p q
  go_enter Try.func33, Try.ntmps33
  go_wp2_with (first
    | (go_at_call 18; (with_reducible refine (Read_calls HD.out 0).mono ?_); rintro e w1 ⟨A0, k0, rfl, hI, f'⟩; have HF := hid f'; have HI0 := hid (show IsInts .u8 w1 A0 k0 x0 from hI); have HD1 := hid (HD.out.frm (frm0_of f')); clear hI f' HD)
    | (go_at_call 9; (with_reducible refine (Parse_some HI0.out hx0 (arOf x0 x1 0).length rfl t bs hp.out).mono ?_); rintro e w2 ⟨gb, rfl, hgb, hB, f'⟩; have HF2 := hid (below_frm0 HF.out f'); have HD2 := hid (HD1.out.frm f'); have HG := hid (Nat.le_trans HF.out.size hgb); have HB0 := hid hB; clear HF HD1 HI0 f' hB hgb; have HF := HF2; clear HF2)
    | (go_at_call 18; (with_reducible refine (Read_calls HD2.out 1).mono ?_); rintro e w3 ⟨A1, k1, rfl, hI, f'⟩; have HF2 := hid (below_next HF.out f'); have HI1 := hid (show IsInts .u8 w3 A1 k1 x1 from hI); have HB1 := hid (HB0.out.frm (frm0_of f') (fun _ _ h => h)); clear HB0; clear HF hI f' HD2; have HF := HF2; clear HF2)
    | (go_at_call 9; (with_reducible refine (Parse_none HI1.out hx1 (arOf x0 x1 1).length rfl hq.out).mono ?_); rintro e w4 ⟨rfl, f'⟩; have HF2 := hid (below_frm0 HF.out f'); have HB2 := hid (HB1.out.frm f' (fun _ _ h => h)); clear HB1; clear HF HI1 f'; have HF := HF2; clear HF2))
  go_ret3
  exact ⟨_, rfl, HG.out, HB2.out, Frm.of_below HF.out (fun k hk hk' => absurd (Nat.lt_of_lt_of_le hk hk') (Nat.lt_irrefl _))⟩
set_option maxHeartbeats 2000000 in
theorem last_ns {w : World} {b : Nat} {x0 x1 : List Int} {ar : Bool} {n : Int} (h : IsDk w b x0 x1 ar n) (p : parse x0 = none) (u : Int) (cs : List Int) (q : parse x1 = some (u, cs)) :
    Calls Try.prog 33 #[.pointer (some ⟨b, 0, none⟩)] w fun e w' => ∃ g, e = .returned (.tuple #[.slice (some ⟨g, 0, none⟩) cs.length cs.length, .int .u32 u, .int .i64 1]) ∧ w.heap.size ≤ g ∧ IsInts .u8 w' (some ⟨g, 0, none⟩) cs.length cs ∧ Frm (fun _ => False) w w' := by
  have hx0 := h.l0
  have hx1 := h.l1
  have HD := hid h; clear h
  have hp := hid p; have hq := hid q; clear p q
  go_enter Try.func33, Try.ntmps33
  go_wp2_with (first
    | (go_at_call 18; (with_reducible refine (Read_calls HD.out 0).mono ?_); rintro e w1 ⟨A0, k0, rfl, hI, f'⟩; have HF := hid f'; have HI0 := hid (show IsInts .u8 w1 A0 k0 x0 from hI); have HD1 := hid (HD.out.frm (frm0_of f')); clear hI f' HD)
    | (go_at_call 9; (with_reducible refine (Parse_none HI0.out hx0 (arOf x0 x1 0).length rfl hp.out).mono ?_); rintro e w2 ⟨rfl, f'⟩; have HF2 := hid (below_frm0 HF.out f'); have HD2 := hid (HD1.out.frm f'); clear HF HD1 HI0 f'; have HF := HF2; clear HF2)
    | (go_at_call 18; (with_reducible refine (Read_calls HD2.out 1).mono ?_); rintro e w3 ⟨A1, k1, rfl, hI, f'⟩; have HF2 := hid (below_next HF.out f'); have HI1 := hid (show IsInts .u8 w3 A1 k1 x1 from hI); clear HF hI f' HD2; have HF := HF2; clear HF2)
    | (go_at_call 9; (with_reducible refine (Parse_some HI1.out hx1 (arOf x0 x1 1).length rfl u cs hq.out).mono ?_); rintro e w4 ⟨gc, rfl, hgc, hC, f'⟩; have HF2 := hid (below_frm0 HF.out f'); have HG1 := hid (Nat.le_trans HF.out.size hgc); have HC := hid hC; clear HF HI1 f' hC hgc; have HF := HF2; clear HF2))
  go_ret3
  exact ⟨_, rfl, HG1.out, HC.out, Frm.of_below HF.out (fun k hk hk' => absurd (Nat.lt_of_lt_of_le hk hk') (Nat.lt_irrefl _))⟩
set_option maxHeartbeats 2000000 in
theorem last_ss0 {w : World} {b : Nat} {x0 x1 : List Int} {ar : Bool} {n : Int} (h : IsDk w b x0 x1 ar n) (t : Int) (bs : List Int) (p : parse x0 = some (t, bs)) (u : Int) (cs : List Int) (q : parse x1 = some (u, cs)) (hut : u ≤ t) :
    Calls Try.prog 33 #[.pointer (some ⟨b, 0, none⟩)] w fun e w' => ∃ g, e = .returned (.tuple #[.slice (some ⟨g, 0, none⟩) bs.length bs.length, .int .u32 t, .int .i64 0]) ∧ w.heap.size ≤ g ∧ IsInts .u8 w' (some ⟨g, 0, none⟩) bs.length bs ∧ Frm (fun _ => False) w w' := by
  have hx0 := h.l0
  have hx1 := h.l1
  have HD := hid h; clear h
  have hp := hid p; have hq := hid q; clear p q
  go_enter Try.func33, Try.ntmps33
  go_wp2_with (first
    | (go_at_call 18; (with_reducible refine (Read_calls HD.out 0).mono ?_); rintro e w1 ⟨A0, k0, rfl, hI, f'⟩; have HF := hid f'; have HI0 := hid (show IsInts .u8 w1 A0 k0 x0 from hI); have HD1 := hid (HD.out.frm (frm0_of f')); clear hI f' HD)
    | (go_at_call 9; (with_reducible refine (Parse_some HI0.out hx0 (arOf x0 x1 0).length rfl t bs hp.out).mono ?_); rintro e w2 ⟨gb, rfl, hgb, hB, f'⟩; have HF2 := hid (below_frm0 HF.out f'); have HD2 := hid (HD1.out.frm f'); have HG := hid (Nat.le_trans HF.out.size hgb); have HB0 := hid hB; clear HF HD1 HI0 f' hB hgb; have HF := HF2; clear HF2)
    | (go_at_call 18; (with_reducible refine (Read_calls HD2.out 1).mono ?_); rintro e w3 ⟨A1, k1, rfl, hI, f'⟩; have HF2 := hid (below_next HF.out f'); have HI1 := hid (show IsInts .u8 w3 A1 k1 x1 from hI); have HB1 := hid (HB0.out.frm (frm0_of f') (fun _ _ h => h)); clear HB0; clear HF hI f' HD2; have HF := HF2; clear HF2)
    | (go_at_call 9; (with_reducible refine (Parse_some HI1.out hx1 (arOf x0 x1 1).length rfl u cs hq.out).mono ?_); rintro e w4 ⟨gc, rfl, hgc, hC, f'⟩; have HF2 := hid (below_frm0 HF.out f'); have HG1 := hid (Nat.le_trans HF.out.size hgc); have HC := hid hC; have HB2 := hid (HB1.out.frm f' (fun _ _ h => h)); clear HB1; clear HF HI1 f' hC hgc; have HF := HF2; clear HF2))
  go_ret3
  exact ⟨_, rfl, HG.out, HB2.out, Frm.of_below HF.out (fun k hk hk' => absurd (Nat.lt_of_lt_of_le hk hk') (Nat.lt_irrefl _))⟩
set_option maxHeartbeats 2000000 in
theorem last_ss1 {w : World} {b : Nat} {x0 x1 : List Int} {ar : Bool} {n : Int} (h : IsDk w b x0 x1 ar n) (t : Int) (bs : List Int) (p : parse x0 = some (t, bs)) (u : Int) (cs : List Int) (q : parse x1 = some (u, cs)) (hut : t < u) :
    Calls Try.prog 33 #[.pointer (some ⟨b, 0, none⟩)] w fun e w' => ∃ g, e = .returned (.tuple #[.slice (some ⟨g, 0, none⟩) cs.length cs.length, .int .u32 u, .int .i64 1]) ∧ w.heap.size ≤ g ∧ IsInts .u8 w' (some ⟨g, 0, none⟩) cs.length cs ∧ Frm (fun _ => False) w w' := by
  have hx0 := h.l0
  have hx1 := h.l1
  have HD := hid h; clear h
  have hp := hid p; have hq := hid q; clear p q
  go_enter Try.func33, Try.ntmps33
  go_wp2_with (first
    | (go_at_call 18; (with_reducible refine (Read_calls HD.out 0).mono ?_); rintro e w1 ⟨A0, k0, rfl, hI, f'⟩; have HF := hid f'; have HI0 := hid (show IsInts .u8 w1 A0 k0 x0 from hI); have HD1 := hid (HD.out.frm (frm0_of f')); clear hI f' HD)
    | (go_at_call 9; (with_reducible refine (Parse_some HI0.out hx0 (arOf x0 x1 0).length rfl t bs hp.out).mono ?_); rintro e w2 ⟨gb, rfl, hgb, hB, f'⟩; have HF2 := hid (below_frm0 HF.out f'); have HD2 := hid (HD1.out.frm f'); have HG := hid (Nat.le_trans HF.out.size hgb); have HB0 := hid hB; clear HF HD1 HI0 f' hB hgb; have HF := HF2; clear HF2)
    | (go_at_call 18; (with_reducible refine (Read_calls HD2.out 1).mono ?_); rintro e w3 ⟨A1, k1, rfl, hI, f'⟩; have HF2 := hid (below_next HF.out f'); have HI1 := hid (show IsInts .u8 w3 A1 k1 x1 from hI); have HB1 := hid (HB0.out.frm (frm0_of f') (fun _ _ h => h)); clear HB0; clear HF hI f' HD2; have HF := HF2; clear HF2)
    | (go_at_call 9; (with_reducible refine (Parse_some HI1.out hx1 (arOf x0 x1 1).length rfl u cs hq.out).mono ?_); rintro e w4 ⟨gc, rfl, hgc, hC, f'⟩; have HF2 := hid (below_frm0 HF.out f'); have HG1 := hid (Nat.le_trans HF.out.size hgc); have HC := hid hC; have HB2 := hid (HB1.out.frm f' (fun _ _ h => h)); clear HB1; clear HF HI1 f' hC hgc; have HF := HF2; clear HF2))
  go_ret3
  exact ⟨_, rfl, HG1.out, HC.out, Frm.of_below HF.out (fun k hk hk' => absurd (Nat.lt_of_lt_of_le hk hk') (Nat.lt_irrefl _))⟩
end Go.Proofs.Ytnlmabdbpjbhoaa
