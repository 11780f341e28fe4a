/- ImageSpoilt, walked: an image of which one byte is turned is none; the elder one counts then. -/
import Derived.Test.YtnlmabdbpjbhoaaImgKnown
import Derived.Test.YtnlmabdbpjbhoaaImgMore
import Derived.Test.YtnlmabdbpjbhoaaHeld
namespace Go.Proofs.Ytnlmabdbpjbhoaa
open Go.RowKit Go.ChangeShapes
set_option linter.unusedVariables false
set_option linter.unusedSimpArgs false
theorem xor8 (v y : Int) (hv : 0 ≤ v ∧ v ≤ 255) (hy : 0 ≤ y ∧ y ≤ 255) (h0 : y ≠ 0) : (0 ≤ Go.bits .xor .u8 v y ∧ Go.bits .xor .u8 v y ≤ 255) ∧ v ≠ Go.bits .xor .u8 v y := by
  obtain ⟨a, rfl⟩ := Int.eq_ofNat_of_zero_le hv.1
  obtain ⟨b, rfl⟩ := Int.eq_ofNat_of_zero_le hy.1
  have ha : a < 2 ^ 8 := by omega
  have hb : b < 2 ^ 8 := by omega
  have hx : a ^^^ b < 2 ^ 8 := Nat.xor_lt_two_pow ha hb
  rw [u8_xor_nat a b (by omega) (by omega)]
  refine ⟨by omega, fun h => h0 ?_⟩
  have h' : a = a ^^^ b := by omega
  have h2 : a ^^^ a = a ^^^ (a ^^^ b) := congrArg (a ^^^ ·) h'
  rw [← Nat.xor_assoc, Nat.xor_self, Nat.zero_xor] at h2
  omega
theorem Write_ok1N {w : World} {b : Nat} {x0 x1 : List Int} {n : Int} (h : IsDk w b x0 x1 false n) {A : Option Addr} {c N : Nat} {x : List Int} (hx : IsInts .u8 w A c x) (hN : x.length = N) (hl : N ≤ 40040) :
    Calls Try.prog 14 #[.pointer (some ⟨b, 0, none⟩), .int .i64 1, .slice A N c] w fun e w' =>
      e = .returned (.int .i64 0) ∧ IsDk w' b x0 x false n ∧ Frm (· = b) w w' := by
  subst hN; exact Write_ok1 h hx (by omega)
theorem spoilt_ints {w : World} {g N : Nat} {F : List Int} (h : Blk w g (byt F) TU8) (hwf : ∀ n ∈ F, (Lit.int .u8 n).wf = true) (hN : F.length = N) (hs : N ≤ 281474976710656) (k : Nat) (d : Int) (hd : 0 ≤ d ∧ d ≤ 255) :
    IsInts .u8 (w.setCell ⟨g, k, none⟩ (.int .u8 d)) (some ⟨g, 0, none⟩) N (F.set k d) := by
  have hb := h.setCell k (.int .u8 d)
  have e : (byt F).set k (.int .u8 d) = byt (F.set k d) := (List.map_set ..).symm
  rw [e] at hb
  have hl : (F.set k d).length = N := by rw [List.length_set]; exact hN
  have := IsInts.of_blk hb (by omega) (fun n hn => by
    rcases List.mem_or_eq_of_mem_set hn with h | rfl
    · exact hwf n h
    · have h0 := hd.1; have h1 := hd.2; simp [Lit.wf, IntKind.min, IntKind.max, IntKind.bits, IntKind.signed]; omega)
  rw [hl] at this
  exact this
theorem cell_getD {w : World} {g T : Nat} {x : List Int} (h : Blk w g (byt x) T) (k : Nat) (hk : k < x.length) {v : Int} (hv : x.getD k 0 = v) : w.cell? ⟨g, k, none⟩ = some (.int .u8 v) := by
  rw [h.cell, List.getElem?_map, List.getElem?_eq_getElem hk, ← hv, List.getD_eq_getElem?_getD, List.getElem?_eq_getElem hk]; rfl
set_option maxHeartbeats 8000000 in
set_option maxRecDepth 100000 in
theorem ImageSpoilt_walk (a0 : Option Addr) (c0 : Nat) (z0 : List Int) (a1 : Option Addr) (c1 : Nat) (z1 : List Int) (at_ by_ : Int) (w : World) (h0 : IsInts .u8 w a0 c0 z0) (h1 : IsInts .u8 w a1 c1 z1) (w2 : (Lit.int .u16 at_).wf = true) (w3 : (Lit.int .u8 by_).wf = true) :
    Calls Try.prog 6 #[.slice a0 z0.length c0, .slice a1 z1.length c1, .int .u16 at_, .int .u8 by_] w fun e w' => e = .returned (.bool true) ∧ Below w.heap.size w w' := by
  have hat := bounds_u16 w2
  have hby := bounds_u8 w3
  clear w2 w3
  have hle1 := h0.le
  have hle2 := h1.le
  have hsm1 := h0.small
  have hsm2 := h1.small
  have H0 := hid h0; have H1 := hid h1; clear h0 h1
  by_cases hl1 : z0.length > 200
  · go_enter Try.func6, Try.ntmps6
    go_wp2_with (go_at_call 8; (with_reducible refine (known_calls _).mono ?_); rintro e w' ⟨rfl, f1⟩)
    go_ret
    exact ⟨rfl, f1⟩
  by_cases hl2 : z1.length > 200
  · go_enter Try.func6, Try.ntmps6
    go_wp2_with (go_at_call 8; (with_reducible refine (known_calls _).mono ?_); rintro e w' ⟨rfl, f1⟩)
    go_ret
    exact ⟨rfl, f1⟩
  by_cases hby0 : by_ = 0
  · subst hby0
    go_enter Try.func6, Try.ntmps6
    go_wp2_with (go_at_call 8; (with_reducible refine (known_calls _).mono ?_); rintro e w' ⟨rfl, f1⟩)
    go_ret
    exact ⟨rfl, f1⟩
  obtain ⟨F, hF⟩ : ∃ F, frame 2 z1 = F := ⟨_, rfl⟩
  obtain ⟨G, hG⟩ : ∃ G, frame 1 z0 = G := ⟨_, rfl⟩
  obtain ⟨N, hN⟩ : ∃ N, F.length = N := ⟨_, rfl⟩
  have hNl : N = z1.length + 16 := by rw [← hN, ← hF, frame_len]
  have hn0 : (0 : Int) < (N : Int) := by omega
  have hn1 : (N : Int) ≤ 216 := by omega
  obtain ⟨k, hk⟩ : ∃ k : Nat, at_ % (N : Int) = (k : Int) := ⟨(at_ % (N : Int)).toNat, by have := Int.emod_nonneg at_ (show (N : Int) ≠ 0 by omega); omega⟩
  have hkN : k < N := by
    have := Int.emod_lt_of_pos at_ hn0
    omega
  have hkI : (k : Int) < (N : Int) := by omega
  have hkF : k < F.length := by omega
  obtain ⟨v, hv⟩ : ∃ v, F.getD k 0 = v := ⟨_, rfl⟩
  have hbz1 : Bts z1 := fun n hn => bounds_u8 (H1.out.wf n hn)
  have hbz0 : Bts z0 := fun n hn => bounds_u8 (H0.out.wf n hn)
  have hBF : Bts F := hF ▸ bts_frame 2 hbz1
  have hvb : 0 ≤ v ∧ v ≤ 255 := by
    rw [← hv, List.getD_eq_getElem?_getD, List.getElem?_eq_getElem hkF]
    exact hBF _ (List.getElem_mem hkF)
  have hpG := parse_frame 1 z0 (by decide) (by decide) hbz0 (by omega)
  rw [hG] at hpG
  have i0 := hid img_nil
  have i1 := hid (img_of_sn hpG parse_nil)
  obtain ⟨d, hd⟩ : ∃ d, Go.bits .xor .u8 v by_ = d := ⟨_, rfl⟩
  have hx8 := xor8 v by_ hvb hby hby0
  rw [hd] at hx8
  have hps : parse (F.set k d) = none := by
    have := parse_set 2 z1 (by decide) (by decide) hbz1 (by omega) k (by omega) d hx8.1 (by rw [hF, hv]; exact hx8.2)
    rwa [hF] at this
  have i2 := hid (img_of_sn hpG hps)
  have HPS := hid hps
  have HDB := hid hx8.1
  have HSL := hid (show (F.set k d).length = N by rw [List.length_set]; exact hN)
  clear hps hx8
  have hmk : ∀ w, (Instr.makeSlice 23 (.int .i64 40001) (.int .i64 40001)).run Try.prog w = .ok (.slice (some ⟨w.heap.size, 0, none⟩) 40001 40001) (w.alloc (.cells (madeCells #[.int .u8 0] 40001) 5)) := fun w =>
    run_make_row' (P := Try.prog) 23 5 (.int .u8 0) 1 Try.underlying23 u8_info rfl .i64 .i64 40001 (by omega) (by omega) w
  have hN40 := hid (show N ≤ 40040 by omega)
  have qby : (by_ == 0) = false := beq_eq_false_iff_ne.2 hby0
  have hs0 := hid (show z0.length ≤ 40000 by omega)
  have hs1 := hid (show z1.length ≤ 40000 by omega)
  have HN0 := hid (show N ≠ 0 by omega)
  have HFF := hid hF; have HG := hid hG; have HN := hid hN; have HV := hid hv; have HKF := hid hkF; have HPG := hid hpG; have HBF := hid hBF; have HB0 := hid hbz0; have HB1 := hid hbz1; have HNl := hid hNl
  clear hF hG hN hv hkF hpG hBF hbz0 hbz1 hNl
  go_enter Try.func6, Try.ntmps6
  go_wp2_with (first
    | (go_at_call 8; (with_reducible refine (known_calls _).mono ?_); rintro e w1 ⟨rfl, f1⟩; have HF := hid f1; clear f1)
    | (go_at_call 13; (with_reducible refine (DNew_calls _).mono ?_); rintro e w2 ⟨rfl, h', f'⟩; have HB := hid HF.out.size; have HD := hid h'; have n0_ := hid (below_next HF.out f'); clear HF; have HF := n0_; clear n0_; clear f' h')
    | (go_at_call 17; (with_reducible refine (Save_nk HD.out i0.out (H0.out.below HF.out (Nat.le_refl _)) hs0.out).mono ?_); rintro e w3 ⟨rfl, h', f'⟩; (rw [HG.out] at h'); have n0_ := hid (below_frm1 HF.out f' HB.out); have n1_ := hid (h'); clear HF HD; have HF := n0_; clear n0_; have HD := n1_; clear n1_; clear f' h')
    | (go_at_call 17; (with_reducible refine (Save_0k HD.out z0 1 i1.out (by decide) (by decide) (H1.out.below HF.out (Nat.le_refl _)) hs1.out).mono ?_); rintro e w4 ⟨rfl, h', f'⟩; (rw [show (1 : Int) + 1 = 2 from rfl, HFF.out] at h'); have n0_ := hid (below_frm1 HF.out f' HB.out); have n1_ := hid (h'); clear HF HD; have HF := n0_; clear n0_; have HD := n1_; clear n1_; clear f' h')
    | (go_at_call 18; (with_reducible refine (Read_own1 HD.out N HN.out HN0.out).mono ?_); rintro e w5 ⟨rfl, hb', hwf, f'⟩; have qk : w5.cell? ⟨w4.heap.size, k, none⟩ = some (.int .u8 v) := cell_getD hb' k HKF.out HV.out; have zk : w5.frozen? ⟨w4.heap.size, k, none⟩ = false := hb'.free k; have HX := hid (spoilt_ints hb' hwf HN.out (by have := hN40.out; omega) k d HDB.out); have HF5 := hid ((frm0_of f').setCell ⟨w4.heap.size, k, none⟩ (.int .u8 d) (.inl (Nat.le_refl _))); clear f' hb' hwf)
    | (go_at_call 9; (with_reducible refine (Parse_none HX.out (by rw [HSL.out]; exact hN40.out) N HSL.out HPS.out).mono ?_); rintro e w6 ⟨rfl, f'⟩; have n0_ := hid (below_frm0 HF.out (HF5.out.trans f')); have n1_ := hid (HD.out.frm (HF5.out.trans f')); have n2_ := hid (HX.out.frm f' (fun _ _ h => h)); clear HF HD HX; have HF := n0_; clear n0_; have HD := n1_; clear n1_; have HX := n2_; clear n2_; clear f' qk zk HF5)
    | (go_at_call 14; (with_reducible refine (Write_ok1N HD.out HX.out HSL.out hN40.out).mono ?_); rintro e w7 ⟨rfl, h', f'⟩; have n0_ := hid (below_frm1 HF.out f' HB.out); have n1_ := hid (h'); clear HF HD; have HF := n0_; clear n0_; have HD := n1_; clear n1_; clear f' h' HX)
    | (go_at_call 15; (with_reducible refine (Load_some HD.out _ _ _ i2.out).mono ?_); rintro e w8 ⟨g, rfl, hg, hB, f'⟩; have n0_ := hid (below_frm0 HF.out f'); have n1_ := hid (HD.out.frm f'); clear HF HD; have HF := n0_; clear n0_; have HD := n1_; clear n1_; have hcv1 := conv_of hB rfl; have hcv2 := conv_of (H0.out.below HF.out (Nat.le_refl _)) rfl; clear f' hg hB)
    | (go_at_call 16; (with_reducible refine (Turn_some HD.out _ _ _ i2.out).mono ?_); rintro e w9 ⟨rfl, f'⟩; have n0_ := hid (below_frm0 HF.out f'); have n1_ := hid (HD.out.frm f'); clear HF HD; have HF := n0_; clear n0_; have HD := n1_; clear n1_; clear f')
    | (go_at_call 17; (with_reducible refine (Save_long (HD.out.frm ((Frm.refl (fun _ => False) _).alloc _)) _ _ _ i2.out (by decide)).mono ?_); rintro e wA ⟨rfl, f'⟩; have HFA := hid (below_frm0 (HF.out.alloc HF.out.size _) f'); clear f'))
  go_show
  go_ret
  exact ⟨rfl, HFA.out⟩
end Go.Proofs.Ytnlmabdbpjbhoaa
