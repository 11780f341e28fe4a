/- 'known' of layer 8 returns true. -/
import Derived.Test.YtnlmabdbpjbhoaaImgSave
import Derived.Lib.SlBytesConst
namespace Go.Proofs.Ytnlmabdbpjbhoaa
open Go.RowKit Go.ChangeShapes
set_option linter.unusedVariables false
set_option linter.unusedSimpArgs false
theorem img_nil : img [] [] = none := by simp [img, parse]
theorem img_of_sn {x0 x1 : List Int} {t : Int} {b : List Int} (h : parse x0 = some (t, b)) (h1 : parse x1 = none) : img x0 x1 = some (b, t, 0) := by
  unfold img; rw [h, h1]
theorem img_of_ns {x0 x1 : List Int} {t : Int} {b : List Int} (h : parse x0 = none) (h1 : parse x1 = some (t, b)) : img x0 x1 = some (b, t, 1) := by
  unfold img; rw [h, h1]
theorem img_of_nn {x0 x1 : List Int} (h : parse x0 = none) (h1 : parse x1 = none) : img x0 x1 = none := by
  unfold img; rw [h, h1]
theorem img_of_ss1 {x0 x1 : List Int} {t u : Int} {b c : List Int} (h : parse x0 = some (t, b)) (h1 : parse x1 = some (u, c)) (hlt : t < u) : img x0 x1 = some (c, u, 1) := by
  unfold img; rw [h, h1]; exact if_pos hlt
theorem img_of_ss0 {x0 x1 : List Int} {t u : Int} {b c : List Int} (h : parse x0 = some (t, b)) (h1 : parse x1 = some (u, c)) (hle : u ≤ t) : img x0 x1 = some (b, t, 0) := by
  unfold img; rw [h, h1]; exact if_neg (Int.not_lt.2 hle)
theorem parse_nil : parse [] = none := by simp [parse]
theorem bts_one (z : Int) (h : 0 ≤ z ∧ z ≤ 255) : Bts [z] := fun n hn => by rw [List.mem_singleton.1 hn]; exact h
theorem img_one (z : Int) (hz : Bts [z]) : img (frame 1 [z]) [] = some ([z], 1, 0) :=
  img_of_sn (parse_frame 1 [z] (by decide) (by decide) hz (by simp)) parse_nil
theorem img_two (y z : Int) (hy : Bts [y]) (hz : Bts [z]) : img (frame 1 [y]) (frame 2 [z]) = some ([z], 2, 1) :=
  img_of_ss1 (parse_frame 1 [y] (by decide) (by decide) hy (by simp)) (parse_frame 2 [z] (by decide) (by decide) hz (by simp)) (by decide)
theorem one_const (w : World) (d : Int) (T : Nat) (hd : (Lit.int .u8 d).wf = true) : IsInts .u8 (w.alloc (.cells #[.int .u8 d] T (1, 2))) (some ⟨w.heap.size, 0, none⟩) 1 [d] := by
  refine ⟨Nat.le_refl _, by decide, fun _ => ⟨w.heap.size, 0, rfl, by simp, fun i hi => ?_⟩, fun n hn => by rw [List.mem_singleton.1 hn]; exact hd⟩
  have hi2 : i = 0 := by have := (show ([d] : List Int).length = 1 from rfl); omega
  have hh : (w.alloc (.cells #[.int .u8 d] T (1, 2))).heap[w.heap.size]? = some (.cells #[.int .u8 d] T (1, 2)) := by
    show (w.heap.push _)[w.heap.size]? = _
    simp
  subst hi2
  unfold World.cell?
  rw [hh]
  rfl

theorem Save_a {w : World} {b : Nat} (h : IsDk w b [] [] false 0) :
    Calls Try.prog 17 #[.pointer (some ⟨b, 0, none⟩), .slice (some ⟨w.heap.size, 0, none⟩) 1 1] (w.alloc (.cells #[.int .u8 97] 5 (1, 2))) fun e w' => e = .returned (.int .i64 0) ∧ IsDk w' b (frame 1 [97]) [] false 0 ∧ Frm (· = b) w w' := by
  have f0 : Frm (fun _ => False) w (w.alloc (.cells #[.int .u8 97] 5 (1, 2))) := (Frm.refl _ _).alloc _
  refine (Save_nk (h.frm f0) img_nil (one_const w 97 _ (by decide)) (by decide)).mono ?_
  rintro e w' ⟨rfl, h', f'⟩
  exact ⟨rfl, h', (Frm0.any f0).trans f'⟩
theorem Save_b {w : World} {b : Nat} (h : IsDk w b (frame 1 [97]) [] false 0) :
    Calls Try.prog 17 #[.pointer (some ⟨b, 0, none⟩), .slice (some ⟨w.heap.size, 0, none⟩) 1 1] (w.alloc (.cells #[.int .u8 98] 5 (1, 2))) fun e w' => e = .returned (.int .i64 0) ∧ IsDk w' b (frame 1 [97]) (frame 2 [98]) false 0 ∧ Frm (· = b) w w' := by
  have f0 : Frm (fun _ => False) w (w.alloc (.cells #[.int .u8 98] 5 (1, 2))) := (Frm.refl _ _).alloc _
  refine (Save_0k (h.frm f0) [97] 1 (img_one 97 (bts_one _ (by decide))) (by decide) (by decide) (one_const w 98 _ (by decide)) (by decide)).mono ?_
  rintro e w' ⟨rfl, h', f'⟩
  exact ⟨rfl, h', (Frm0.any f0).trans f'⟩
set_option maxHeartbeats 4000000 in
theorem known_calls (w : World) : Calls Try.prog 8 #[] w fun e w' => e = .returned (.bool true) ∧ Below w.heap.size w w' := by
  have hst : (strOfNums [98] == (⟨#[98]⟩ : ByteArray)) = true := by decide
  have hst2 : decide (strOfNums [98] = (⟨#[98]⟩ : ByteArray)) = true := by decide
  have hst3 : (strOfNums [98]).toList = [98] := by kernel_rfl
  have hcc := fun (w : World) (C : Array Value) (n c : Nat) => Lib.run_convert_bytes_const (P := Try.prog) w 23 5 C n c Try.underlying23 Try.underlying5
  have i0 := hid img_nil
  have i2 := hid (img_two 97 98 (bts_one _ (by decide)) (bts_one _ (by decide)))
  go_enter Try.func8, Try.ntmps8
  go_wp2_with (first
    | (go_at_call 13; (with_reducible refine (DNew_calls _).mono ?_); rintro e w1 ⟨rfl, HD0, f1⟩; have HF := hid f1; clear f1; have HD := hid HD0; clear HD0)
    | (go_at_call 15; (with_reducible refine (Load_none HD.out i0.out).mono ?_); rintro e w2 ⟨rfl, f'⟩; have HD2 := hid (HD.out.frm f'); have HF2 := hid (below_frm0 HF.out f'); clear HD HF f'; have HD := HD2; have HF := HF2; clear HD2 HF2)
    | (go_at_call 17; (with_reducible refine (Save_a HD.out).mono ?_); rintro e w3 ⟨rfl, h', f'⟩; have HD2 := hid h'; have HF2 := hid (below_frm1 HF.out f' (Nat.le_refl _)); clear HD HF f' h'; have HD := HD2; have HF := HF2; clear HD2 HF2)
    | (go_at_call 17; (with_reducible refine (Save_b HD.out).mono ?_); rintro e w4 ⟨rfl, h', f'⟩; have HD2 := hid h'; have HF2 := hid (below_frm1 HF.out f' (Nat.le_refl _)); clear HD HF f' h'; have HD := HD2; have HF := HF2; clear HD2 HF2)
    | (go_at_call 15; (with_reducible refine (Load_some HD.out [98] 2 1 i2.out).mono ?_); rintro e w5 ⟨g, rfl, hg, hB, f'⟩; have hcv := conv_of (show IsInts .u8 w5 (some ⟨g, 0, none⟩) 1 [98] from hB) (l := 1) rfl; have HD2 := hid (HD.out.frm f'); have HF2 := hid (below_frm0 HF.out f'); clear HD HF f' hg hB; have HD := HD2; have HF := HF2; clear HD2 HF2)
    | (go_at_call 16; (with_reducible refine (Turn_some HD.out [98] 2 1 i2.out).mono ?_); rintro e w6 ⟨rfl, f'⟩; have HF2 := hid (below_frm0 HF.out f'); clear HF f'; have HF := HF2; clear HF2))
  go_show
  go_ret
  exact ⟨rfl, HF.out⟩
end Go.Proofs.Ytnlmabdbpjbhoaa
