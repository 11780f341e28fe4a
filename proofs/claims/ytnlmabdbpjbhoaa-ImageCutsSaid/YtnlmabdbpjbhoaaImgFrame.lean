/- The image's frame. -/
import Derived.Test.YtnlmabdbpjbhoaaImgDef
import Derived.Laws.CopyOwn
import Derived.Laws.OwnMore
namespace Go.Proofs.Ytnlmabdbpjbhoaa
open Go.RowKit Go.ChangeShapes
set_option linter.unusedVariables false
set_option linter.unusedSimpArgs false
theorem WNew_self (w : World) : Calls Try.prog 27 #[] w fun e w' => e = .returned (.pointer (some ⟨w.heap.size, 0, none⟩)) ∧ IsWr w' w.heap.size (fun k => k < w.heap.size) [] ∧ Below w.heap.size w w' :=
  WNew_calls w _ fun k hk => hk
theorem below_N {w a c : World} {N : Nat} (h : Below N w a) (f : Frm (fun k => ¬ k < N) a c) (hN : N ≤ w.heap.size) : Below N w c :=
  h.trans (f.below (Nat.le_trans hN h.size) (fun k hk hn => hn hk))
theorem splice_len0 {α : Type} (M X : List α) (h : X.length ≤ M.length) : (splice M 0 X).length = M.length := by
  unfold splice
  simp
  omega
theorem splice2 {α : Type} (M X Y : List α) (hM : M.length = X.length + Y.length) : splice (splice M 0 X) X.length Y = X ++ Y := by
  unfold splice
  simp [hM]
set_option maxHeartbeats 4000000 in
theorem Frame_calls {w : World} {t : Int} {a : Option Addr} {c : Nat} {b : List Int} (h0 : 0 ≤ t) (h1 : t < 4294967296) (hb : IsInts .u8 w a c b) (hl : b.length ≤ 40040) :
    Calls Try.prog 11 #[.int .u32 t, .slice a b.length c] w fun e w' => ∃ A l c', e = .returned (.slice A l c') ∧ l = (frame t b).length ∧ IsInts .u8 w' A c' (frame t b) ∧ Frm (fun _ => False) w w' := by
  have hle := hb.le
  have hsm := hb.small
  have hbw := hid hb.wf
  have HB := hid hb; clear hb
  have e32 : IntKind.u32.wrap (b.length : Int) = (b.length : Int) := by rw [wrap_u32]; omega
  have l0 : (0 : Int) ≤ (b.length : Int) := by omega
  have hmk : ∀ w, (Instr.makeSlice 23 (.int .i64 (8 + (b.length : Int))) (.int .i64 (8 + (b.length : Int)))).run Try.prog w = .ok (.slice (some ⟨w.heap.size, 0, none⟩) (8 + b.length) (8 + b.length)) (w.alloc (.cells (madeCells #[.int .u8 0] (8 + b.length)) 5)) := fun w => by
    have := run_make_row' (P := Try.prog) 23 5 (.int .u8 0) 1 Try.underlying23 u8_info rfl .i64 .i64 (8 + b.length) (by omega) (by omega) w
    simpa using this
  have hL8 := hid (show ([] ++ be t 4 ++ be (b.length : Int) 4).length = 8 by simp [be_len])
  have hfl : (frame0 t b).length = 8 + b.length := by rw [frame0_len]; omega
  obtain ⟨X8, hX8⟩ : ∃ X8, X8 = [] ++ be t 4 ++ be (b.length : Int) 4 := ⟨_, rfl⟩
  have hx8l : X8.length = 8 := by rw [hX8]; exact hL8.out
  have hfx : frame0 t b = X8 ++ b := by rw [hX8]; simp [frame0, List.append_assoc]
  have HX8 := hid hX8; clear hX8
  have hbb : Bts b := fun n hn => bounds_u8 (hbw.out n hn)
  have hSr := range_sFrom (frame0 t b) (bts_frame0 t hbb) 14695981039346656037 (by omega)
  obtain ⟨S, hS⟩ : ∃ S, sFrom 14695981039346656037 (frame0 t b) = S := ⟨_, rfl⟩
  rw [hS] at hSr
  have hS0 := hSr.1
  have hS1 := hSr.2
  have hfw : ∀ n ∈ frame0 t b, (Lit.int .u8 n).wf = true := fun n hn => by
    have := bts_frame0 t hbb n hn
    simp [Lit.wf, IntKind.min, IntKind.max, IntKind.bits, IntKind.signed]; omega
  have HS := hid hS; clear hS hSr
  have HFL := hid hfl; clear hfl
  have HFX := hid hfx; clear hfx
  have HFW := hid hfw; clear hfw
  have hLS := hid (show ([] ++ be S 8).length = 8 by simp [be_len])
  by_cases hbz : b.length = 0
  · have HZ := hid hbz
    have hbz' := eq_true hbz
    clear hbz
    go_enter Try.func11, Try.ntmps11
    go_wp2_with (first
      | (go_at_call 27; (with_reducible refine (WNew_self _).mono ?_); rintro e w1 ⟨rfl, h', f'⟩; first
          | (have hG := hid f'; have HF2 := hid (below_next HF.out f'); have HO2 := hid (HO.out.below f' HO.out.lt); have HGL := hid HO.out.lt; have HN2 := hid HF.out.size; clear HF HO; have HF := HF2; have HO := HO2; clear HF2 HO2; have HW2 := hid h'; clear h' f')
          | (have HF := hid f'; have HW1 := hid h'; clear h' f'))
      | (go_at_call 28; (with_reducible refine (WU32_calls HW1.out (hA_of HF.out) _ (by omega) (by omega) (by simp [be_len])).mono ?_); rintro e w' ⟨rfl, h', f'⟩; have nF := hid (below_A HF.out f'); clear HF HW1 f'; have HF := nF; have HW1 := hid h'; clear h' nF)
      | (go_at_call 29; (with_reducible refine (WAll_calls HW1.out (by rw [hL8.out]; omega) 8 hL8.out).mono ?_); rintro e w3 ⟨rfl, hI, f'⟩; have nF := hid (below_next HF.out f'); clear HF HW1; have HF := nF; clear nF; have HAh := hid (show IsInts .u8 w3 _ 8 X8 from HX8.out ▸ hI); clear hI f')
      | ((with_reducible show wpList _ _ _ _ _ _); have hbl : Blk (w3.alloc (.cells (madeCells #[.int .u8 0] (8 + b.length)) 5)) w3.heap.size (madeCells #[.int .u8 0] (8 + b.length)).toList 5 := (by have := Blk.new w3 (madeCells #[.int .u8 0] (8 + b.length)).toList 5; simpa using this); have hI3 := HAh.out.frm ((Frm.refl (fun _ => False) w3).alloc (.cells (madeCells #[.int .u8 0] (8 + b.length)) 5)) (fun _ _ h => h); have hx8 : (byt X8).length = 8 := (by rw [List.length_map]; exact hx8l); (refine wpList_copy_splice rfl (.tmp 27) (.tmp 28) 23 23 rfl 5 Try.underlying23 u8_size _ _ _ _ _ _ rfl rfl w3.heap.size 0 _ 5 hbl (byt X8) (by rw [hx8]; exact (Nat.min_eq_left (by omega)).symm) (fun hp => ⟨rfl, hI3.cellsrc (by rw [hx8l]; decide)⟩) (by rw [made_len, hx8]; omega) (byt_one _) w.heap.size w (HF.out.alloc HF.out.size _) HF.out.size ?_); intro w4 hg4 hb4; have HG3 := hid HF.out.size; have HG4 := hid (show Blk w4 w3.heap.size (splice (madeCells #[.int .u8 0] (8 + b.length)).toList 0 (byt X8)) 5 from hg4.out); clear HF HAh hg4 hbl hI3; have HF := hid hb4; clear hb4)
      | ((with_reducible show wpList _ _ _ _ _ _); (refine wpList_copy_splice rfl (.tmp 30) (.tmp 31) 23 23 rfl 5 Try.underlying23 u8_size _ _ _ _ _ _ rfl rfl w3.heap.size 8 _ 5 HG4.out (byt b) (by simp) (fun hp => absurd hp (by rw [List.length_map, HZ.out]; decide)) (by rw [splice_len0 _ _ (by rw [hx8, made_len]; omega), made_len, List.length_map]; omega) (byt_one _) w.heap.size w HF.out HG3.out ?_); intro w5 hg5 hb5; have HO := hid (show Blk w5 w3.heap.size (byt (frame0 t b)) 5 by (have h := hg5.out; have e := splice2 (madeCells #[.int .u8 0] (8 + b.length)).toList (byt X8) (byt b) (by rw [made_len, hx8, List.length_map]); rw [hx8] at e; rw [e] at h; unfold Blk; rw [HFX.out, show byt (X8 ++ b) = byt X8 ++ byt b from List.map_append]; exact h)); clear HF HG4 hg5; have HF := hid hb5; clear hb5)
      | (go_at_call 24; (with_reducible refine (Sum_calls (IsInts.of_take HO.out (List.take_of_length_le (by simp)) (Nat.le_of_eq HFL.out) (by omega) HFW.out) _ HFL.out S HS.out).mono ?_); rintro e w' ⟨rfl, rfl⟩)
      | (go_at_call 30; (with_reducible refine (WU64_calls HW2.out (hA_of hG.out) S hS0 hS1 (by simp)).mono ?_); rintro e w' ⟨rfl, h', f'⟩; have n1 := hid (HO.out.frm f' (fun hn => hn HGL.out)); have n2 := hid (HF.out.trans (f'.below HF.out.size (fun k hk hn => hn (Nat.lt_of_lt_of_le hk HN2.out)))); clear HO HF HW2 hG f'; have HO := n1; have HF := n2; have HW2 := hid h'; clear n1 n2 h')
      | (go_at_call 29; (with_reducible refine (WAll_calls HW2.out (by rw [hLS.out]; omega) 8 hLS.out).mono ?_); rintro e w8 ⟨rfl, hI, f'⟩; have n1 := hid (HO.out.below f' HO.out.lt); have n2 := hid (below_next HF.out f'); clear HO HF HW2 f'; have HO := n1; have HF := n2; have HAs := hid hI; clear n1 n2 hI)
      | (at_builtin; refine wpList_more (A := fun _ => False) rfl _ _ rfl rfl (HFL.out ▸ OwnB.of_blk HO.out (fun h => h) (by rw [HFL.out]; omega) HFW.out) (fun _ h => h.elim) HAs.out hLS.out (by rw [HFL.out]; omega) rfl rfl ?_; intro a' l' c' wq ho' hf' hat'; have HO' := hid ho'; have HF' := hid (show Frm (· = w3.heap.size) w8 wq from hf'.mono (fun k _ hk => (Option.some.inj (show some w3.heap.size = some k from hk)).symm)); clear ho' hf' hat'))
    go_ret
    obtain ⟨a1, c1, e1, hi1, _⟩ := HO'.out.ints
    cases e1
    have hfr : frame0 t b ++ ([] ++ be S 8) = frame t b := by unfold frame; rw [HS.out]; rfl
    rw [hfr] at hi1
    refine ⟨_, _, _, rfl, by rw [hfr], hi1, ?_⟩
    have f0 : Frm (fun _ => False) w w8 := Frm.of_below HF.out (fun k hk hk' => absurd (Nat.lt_of_lt_of_le hk hk') (Nat.lt_irrefl _))
    exact f0.trans' HF'.out (fun k hk e => absurd HG3.out (by omega))
  go_enter Try.func11, Try.ntmps11
  go_wp2_with (first
    | (go_at_call 27; (with_reducible refine (WNew_self _).mono ?_); rintro e w1 ⟨rfl, h', f'⟩; first
        | (have hG := hid f'; have HF2 := hid (below_next HF.out f'); have HO2 := hid (HO.out.below f' HO.out.lt); have HGL := hid HO.out.lt; have HN2 := hid HF.out.size; clear HF HO; have HF := HF2; have HO := HO2; clear HF2 HO2; have HW2 := hid h'; clear h' f')
        | (have HF := hid f'; have HW1 := hid h'; clear h' f'))
    | (go_at_call 28; (with_reducible refine (WU32_calls HW1.out (hA_of HF.out) _ (by omega) (by omega) (by simp [be_len])).mono ?_); rintro e w' ⟨rfl, h', f'⟩; have nF := hid (below_A HF.out f'); clear HF HW1 f'; have HF := nF; have HW1 := hid h'; clear h' nF)
    | (go_at_call 29; (with_reducible refine (WAll_calls HW1.out (by rw [hL8.out]; omega) 8 hL8.out).mono ?_); rintro e w3 ⟨rfl, hI, f'⟩; have nF := hid (below_next HF.out f'); clear HF HW1; have HF := nF; clear nF; have HAh := hid (show IsInts .u8 w3 _ 8 X8 from HX8.out ▸ hI); clear hI f')
    | ((with_reducible show wpList _ _ _ _ _ _); have hbl : Blk (w3.alloc (.cells (madeCells #[.int .u8 0] (8 + b.length)) 5)) w3.heap.size (madeCells #[.int .u8 0] (8 + b.length)).toList 5 := (by have := Blk.new w3 (madeCells #[.int .u8 0] (8 + b.length)).toList 5; simpa using this); have hI3 := HAh.out.frm ((Frm.refl (fun _ => False) w3).alloc (.cells (madeCells #[.int .u8 0] (8 + b.length)) 5)) (fun _ _ h => h); have hx8 : (byt X8).length = 8 := (by rw [List.length_map]; exact hx8l); (refine wpList_copy_splice rfl (.tmp 27) (.tmp 28) 23 23 rfl 5 Try.underlying23 u8_size _ _ _ _ _ _ rfl rfl w3.heap.size 0 _ 5 hbl (byt X8) (by rw [hx8]; exact (Nat.min_eq_left (by omega)).symm) (fun hp => ⟨rfl, hI3.cellsrc (by rw [hx8l]; decide)⟩) (by rw [made_len, hx8]; omega) (byt_one _) w.heap.size w (HF.out.alloc HF.out.size _) HF.out.size ?_); intro w4 hg4 hb4; have HG3 := hid HF.out.size; have HG4 := hid (show Blk w4 w3.heap.size (splice (madeCells #[.int .u8 0] (8 + b.length)).toList 0 (byt X8)) 5 from hg4.out); clear HF HAh hg4 hbl hI3; have HF := hid hb4; clear hb4)
    | ((with_reducible show wpList _ _ _ _ _ _); (refine wpList_copy_splice rfl (.tmp 30) (.tmp 31) 23 23 rfl 5 Try.underlying23 u8_size _ _ _ _ _ _ rfl rfl w3.heap.size 8 _ 5 HG4.out (byt b) (by simp) (fun hp => ⟨rfl, (HB.out.below HF.out (Nat.le_refl _)).cellsrc (by omega)⟩) (by rw [splice_len0 _ _ (by rw [hx8, made_len]; omega), made_len, List.length_map]; omega) (byt_one _) w.heap.size w HF.out HG3.out ?_); intro w5 hg5 hb5; have HO := hid (show Blk w5 w3.heap.size (byt (frame0 t b)) 5 by (have h := hg5.out; have e := splice2 (madeCells #[.int .u8 0] (8 + b.length)).toList (byt X8) (byt b) (by rw [made_len, hx8, List.length_map]); rw [hx8] at e; rw [e] at h; unfold Blk; rw [HFX.out, show byt (X8 ++ b) = byt X8 ++ byt b from List.map_append]; exact h)); clear HF HG4 hg5; have HF := hid hb5; clear hb5)
    | (go_at_call 24; (with_reducible refine (Sum_calls (IsInts.of_take HO.out (List.take_of_length_le (by simp)) (Nat.le_of_eq HFL.out) (by omega) HFW.out) _ HFL.out S HS.out).mono ?_); rintro e w' ⟨rfl, rfl⟩)
    | (go_at_call 30; (with_reducible refine (WU64_calls HW2.out (hA_of hG.out) S hS0 hS1 (by simp)).mono ?_); rintro e w' ⟨rfl, h', f'⟩; have n1 := hid (HO.out.frm f' (fun hn => hn HGL.out)); have n2 := hid (HF.out.trans (f'.below HF.out.size (fun k hk hn => hn (Nat.lt_of_lt_of_le hk HN2.out)))); clear HO HF HW2 hG f'; have HO := n1; have HF := n2; have HW2 := hid h'; clear n1 n2 h')
    | (go_at_call 29; (with_reducible refine (WAll_calls HW2.out (by rw [hLS.out]; omega) 8 hLS.out).mono ?_); rintro e w8 ⟨rfl, hI, f'⟩; have n1 := hid (HO.out.below f' HO.out.lt); have n2 := hid (below_next HF.out f'); clear HO HF HW2 f'; have HO := n1; have HF := n2; have HAs := hid hI; clear n1 n2 hI)
    | (at_builtin; refine wpList_more (A := fun _ => False) rfl _ _ rfl rfl (HFL.out ▸ OwnB.of_blk HO.out (fun h => h) (by rw [HFL.out]; omega) HFW.out) (fun _ h => h.elim) HAs.out hLS.out (by rw [HFL.out]; omega) rfl rfl ?_; intro a' l' c' wq ho' hf' hat'; have HO' := hid ho'; have HF' := hid (show Frm (· = w3.heap.size) w8 wq from hf'.mono (fun k _ hk => (Option.some.inj (show some w3.heap.size = some k from hk)).symm)); clear ho' hf' hat'))
  go_ret
  obtain ⟨a1, c1, e1, hi1, _⟩ := HO'.out.ints
  cases e1
  have hfr : frame0 t b ++ ([] ++ be S 8) = frame t b := by unfold frame; rw [HS.out]; rfl
  rw [hfr] at hi1
  refine ⟨_, _, _, rfl, by rw [hfr], hi1, ?_⟩
  have f0 : Frm (fun _ => False) w w8 := Frm.of_below HF.out (fun k hk hk' => absurd (Nat.lt_of_lt_of_le hk hk') (Nat.lt_irrefl _))
  exact f0.trans' HF'.out (fun k hk e => absurd HG3.out (by omega))
end Go.Proofs.Ytnlmabdbpjbhoaa
