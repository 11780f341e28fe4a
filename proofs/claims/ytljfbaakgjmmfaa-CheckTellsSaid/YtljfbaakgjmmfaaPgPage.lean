/- The map's method Page. -/
import Derived.Test.YtljfbaakgjmmfaaPgDef
import Derived.Test.YtljfbaakgjmmfaaWireAll
namespace Go.Proofs.Ytljfbaakgjmmfaa
open Go.RowKit Go.ChangeShapes
set_option linter.unusedVariables false
set_option linter.unusedSimpArgs false
theorem Page_none {w : World} {b : Nat} (p : Int) (hp : p < 0 ∨ 7 < p) :
    Calls Try.prog 18 #[.pointer (some ⟨b, 0, none⟩), .int .i64 p] w fun e w' => e = .returned (.slice none 0 0) ∧ Frm (fun _ => False) w w' := by
  rcases hp with hp | hp
  all_goals
    go_enter Try.func18, Try.ntmps18
    go_wp2_with (first
      | (go_at_call 27; (with_reducible refine (WNew_calls w (fun k => k < w.heap.size) (fun k hk => hk)).mono ?_); rintro e w1 ⟨rfl, h', f'⟩; have HF := hid f'; have HW := hid h'; clear h' f'))
    go_ret
    exact ⟨rfl, Frm.of_below HF.out (fun k hk hk' => absurd (Nat.lt_of_lt_of_le hk hk') (Nat.lt_irrefl _))⟩
set_option maxHeartbeats 8000000 in
theorem Page_vals {w : World} {b : Nat} {vs cs : List Int} (h : IsMap w b vs cs) (p : Nat) (hp : p < 7) :
    Calls Try.prog 18 #[.pointer (some ⟨b, 0, none⟩), .int .i64 p] w fun e w' => ∃ g, e = .returned (.slice (some ⟨g, 0, none⟩) (pageB vs cs p).length (pageB vs cs p).length) ∧ w.heap.size ≤ g ∧ IsInts .u8 w' (some ⟨g, 0, none⟩) (pageB vs cs p).length (pageB vs cs p) ∧ Frm (fun _ => False) w w' := by
  have hmw : b < w.heap.size := h.blk.lt
  have HM0 := hid h; clear h
  have hp0 : (0 : Int) ≤ (p : Int) := by omega
  have hp7 : (p : Int) < 7 := by omega
  have qp : ((p : Int) == 7) = false := beq_eq_false_iff_ne.2 (by omega)
  go_enter Try.func18, Try.ntmps18
  go_wp2_with (first
    | (go_at_call 27; (with_reducible refine (WNew_calls w (fun k => k < w.heap.size) (fun k hk => hk)).mono ?_); rintro e w1 ⟨rfl, h', f'⟩; have HF := hid f'; have HW := hid h'; clear h' f'))
  go_loopw [8] (fun kk wr => ∃ j : Nat, j ≤ pcount p ∧ kk = .int .i64 ((p + 7 * j : Nat) : Int) ∧ IsMap wr b vs cs ∧ IsWr wr w.heap.size (fun k => k < w.heap.size) (pvals vs p j) ∧ Below w.heap.size w wr) (fun kk _ => 64 - (intOf kk).toNat)
  case atStart => exact ⟨0, by omega, by simp, HM0.out.frm (frm0_of HF.out) (fun h => h), by rw [show pvals vs p 0 = [] by simp [pvals]]; exact HW.out, HF.out⟩
  case round =>
    clear HW HF
    obtain ⟨j, hj, rfl, hM, hW, hF⟩ := hrel
    have HW := hid hW; have HF := hid hF; have HM := hid hM
    clear hW hF
    by_cases hlt : p + 7 * j < 64
    · have q := hM.val (p + 7 * j) hlt
      have hvb := getD_bd hM.bv (by decide) (p + 7 * j)
      clear hM
      have hk64 : ((p + 7 * j : Nat) : Int) < 64 := by omega
      have hk0 : (0 : Int) ≤ ((p + 7 * j : Nat) : Int) := by omega
      have HL := hid (pvals_len vs p j)
      have hj' := hid (show j + 1 ≤ pcount p by unfold pcount; omega)
      have e8 : IntKind.u8.wrap ((p + 7 * j : Nat) : Int) = ((p + 7 * j : Nat) : Int) := by simp only [IntKind.wrap, IntKind.bits, IntKind.signed]; simp; omega
      have hsucc := hid (pvals_succ vs p j)
      obtain ⟨K, hK⟩ : ∃ K, p + 7 * j = K := ⟨_, rfl⟩
      have hK7 : ((p + 7 * (j + 1) : Nat) : Int) = (K : Int) + 7 := by omega
      rw [hK] at q hvb hk64 hk0 e8 hsucc ⊢
      obtain ⟨v, hv⟩ : ∃ v, vs.getD K 0 = v := ⟨_, rfl⟩
      rw [hv] at q hvb
      have HV := hid hv; clear hv
      have HKK := hid hK; have HK7 := hid hK7; clear hK hK7
      have hjc := hid hj; clear hj hlt
      have hjn := hid (show j ≤ 10 by have := hj'.out; unfold pcount at this; omega)
      by_cases hv0 : v = 0
      · subst hv0
        have hkb := hid (show kbytes vs K = [] by unfold kbytes; rw [HV.out, if_pos rfl])
        go_wp2
        go_roundw
        case rel => exact ⟨j + 1, hj'.out, by first | (rw [HK7.out]; done) | (rw [HK7.out]; go_num), HM.out, by rw [hsucc.out, hkb.out, List.append_nil]; exact HW.out, HF.out⟩
        case measure => simp [intOf]; omega
      · have qv : (v == 0) = false := beq_eq_false_iff_ne.2 hv0
        have qv2 : (v != 0) = true := bne_iff_ne.2 hv0
        have hkb := hid (show kbytes vs K = be (K : Int) 1 ++ be v 2 by unfold kbytes; rw [HV.out, if_neg hv0])
        go_wp2_with (first
          | (go_at_call 28; (with_reducible refine (WU8_calls HW.out (hW_of HF.out) (K : Int) hk0 (by omega) (by have := HL.out; have := hjn.out; omega)).mono ?_); rintro e w' ⟨rfl, h', f'⟩; have n0_ := hid (below_W HF.out f'); have n1_ := hid (HM.out.frm f' (fun h => h hmw)); have n2_ := hid (h'); clear HF HM HW; have HF := n0_; clear n0_; have HM := n1_; clear n1_; have HW := n2_; clear n2_; clear f' h')
          | (go_at_call 31; (with_reducible refine (WU16_calls HW.out (hW_of HF.out) v hvb.1 (by omega) (by rw [List.length_append, be_len]; have := HL.out; have := hjn.out; omega)).mono ?_); rintro e w' ⟨rfl, h', f'⟩; have n0_ := hid (below_W HF.out f'); have n1_ := hid (HM.out.frm f' (fun h => h hmw)); have n2_ := hid (h'); clear HF HM HW; have HF := n0_; clear n0_; have HM := n1_; clear n1_; have HW := n2_; clear n2_; clear f' h'))
        go_roundw
        case rel => exact ⟨j + 1, hj'.out, by first | (rw [HK7.out]; done) | (rw [HK7.out]; go_num), HM.out, by rw [hsucc.out, hkb.out, ← List.append_assoc]; exact HW.out, HF.out⟩
        case measure => simp [intOf]; omega
    · have hjn : j = pcount p := by unfold pcount at *; omega
      have hk64 : (64 : Int) ≤ ((p + 7 * j : Nat) : Int) := by omega
      have hpb : pageB vs cs p = pvals vs p j := by unfold pageB; rw [if_neg (by omega), hjn]
      have HPB := hid hpb; clear hpb
      have hL := pvals_len vs p j
      have HL := hid (show (pvals vs p j).length ≤ 100 by unfold pcount at hjn; omega)
      obtain ⟨L, hLL⟩ : ∃ L, (pvals vs p j).length = L := ⟨_, rfl⟩
      have HLL := hid hLL; have HJN := hid hjn; clear hLL hL hj hM hjn hlt
      generalize ((p + 7 * j : Nat) : Int) = K at *
      go_wp2_with (first
        | (go_at_call 30; (with_reducible refine (WAll_calls HW.out (by have := HL.out; omega) L HLL.out).mono ?_); rintro e w' ⟨rfl, hI, f'⟩; have HG := hid HF.out.size; have HI := hid hI; have n0_ := hid (below_next HF.out f'); clear HF; have HF := n0_; clear n0_; clear f' hI))
      go_ret
      rw [HPB.out, HLL.out]
      exact ⟨_, rfl, HG.out, HI.out, Frm.of_below HF.out (fun k hk hk' => absurd (Nat.lt_of_lt_of_le hk hk') (Nat.lt_irrefl _))⟩
theorem cli_at {w w1 : World} {b : Nat} {vs cs : List Int} {D : List Int} (h : IsMap w b vs cs) (hc : cs = D) (f : Below w.heap.size w w1) (hb : b < w.heap.size) (k : Nat) {v : Int} (hk : D[k]? = some v) : w1.cell? ⟨b, 64 + k, none⟩ = some (.int .u32 v) := by
  subst hc
  obtain ⟨hi, he⟩ := List.getElem?_eq_some_iff.1 hk
  have h2 : IsMap w1 b vs cs := h.frm (frm0_of f) (fun h => h)
  rw [h2.cli k (by have := h.lc; omega), List.getD_eq_getElem?_getD, hk]; rfl
theorem wr_alloc {w0 w : World} {b : Nat} {x : List Int} (h : IsWr w b (fun k => k < w0.heap.size) x) (hA : ∀ k, k < w0.heap.size → k < w.heap.size) (o : Obj) : IsWr (w.alloc o) b (fun k => k < w0.heap.size) x := h.quiet ((Frm.refl _ _).alloc o)
theorem IsWr.guard {w : World} {b : Nat} {A : Nat → Prop} {x : List Int} (h : IsWr w b A x) (g : Nat) (hg : w.heap.size ≤ g) : IsWr w b (fun k => A k ∨ k = g) x := by
  obtain ⟨⟨v, hb, ho, hne⟩, hnA⟩ := h
  refine ⟨⟨v, hb, ⟨ho.own, fun k hk hk' => ?_, ho.wf⟩, hne⟩, fun h => h.elim hnA (fun e => ?_)⟩
  · rcases hk' with hk' | rfl
    · exact ho.off k hk hk'
    · rcases ho.own with ⟨_, h0 | ⟨g', cap, cells, rfl, _, hbl, _⟩⟩
      · obtain ⟨e, _⟩ := h0
        subst e
        simp [Value.ownBlock] at hk
      · simp [Value.ownBlock] at hk
        subst hk
        have := (Array.getElem?_eq_some_iff.1 hbl).1
        omega
  · have := hb.lt
    omega
theorem IsWr.back {w : World} {b g : Nat} {A : Nat → Prop} {x : List Int} (h : IsWr w b (fun k => A k ∨ k = g) x) : IsWr w b A x := by
  obtain ⟨⟨v, hb, ho, hne⟩, hnA⟩ := h
  exact ⟨⟨v, hb, ⟨ho.own, fun k hk hk' => ho.off k hk (.inl hk'), ho.wf⟩, hne⟩, fun h => hnA (.inl h)⟩
theorem hG_of {w wr : World} (h : Below w.heap.size w wr) (o : Obj) : ∀ k, (k < w.heap.size ∨ k = wr.heap.size) → k < (wr.alloc o).heap.size := fun k hk => by
  have := h.size
  simp
  omega
theorem hG2_of {w a : World} {g : Nat} (h : Below w.heap.size w a) (hg : g < a.heap.size) : ∀ k, (k < w.heap.size ∨ k = g) → k < a.heap.size := fun k hk => by
  have := h.size
  omega
theorem below_G {w a c : World} {g : Nat} (h : Below w.heap.size w a) (f : Frm (fun k => ¬ (k < w.heap.size ∨ k = g)) a c) : Below w.heap.size w c := below_frm h f (fun k hk hn => hn (.inl hk))
theorem ten {cs : List Int} (h : cs.length = 10) : ∃ t0 r0 t1 r1 t2 r2 t3 r3 t4 r4, cs = [t0, r0, t1, r1, t2, r2, t3, r3, t4, r4] := by
  match cs, h with
  | [t0, r0, t1, r1, t2, r2, t3, r3, t4, r4], _ => exact ⟨t0, r0, t1, r1, t2, r2, t3, r3, t4, r4, rfl⟩
set_option maxRecDepth 100000 in
set_option maxHeartbeats 8000000 in
theorem Page_clis {w : World} {b : Nat} {vs cs : List Int} (h : IsMap w b vs cs) :
    Calls Try.prog 18 #[.pointer (some ⟨b, 0, none⟩), .int .i64 7] w fun e w' => ∃ g, e = .returned (.slice (some ⟨g, 0, none⟩) (pageB vs cs 7).length (pageB vs cs 7).length) ∧ w.heap.size ≤ g ∧ IsInts .u8 w' (some ⟨g, 0, none⟩) (pageB vs cs 7).length (pageB vs cs 7) ∧ Frm (fun _ => False) w w' := by
  have hmw : b < w.heap.size := h.blk.lt
  obtain ⟨t0, r0, t1, r1, t2, r2, t3, r3, t4, r4, hcs⟩ := ten h.lc
  have hpb : pageB vs cs 7 = pclis cs 5 := by unfold pageB; rw [if_pos rfl]
  have HPB := hid hpb; clear hpb
  have HM0 := hid h; clear h
  have HCS := hid hcs; clear hcs
  go_enter Try.func18, Try.ntmps18
  go_wp2_with (first
    | (go_at_call 27; (with_reducible refine (WNew_calls w (fun k => k < w.heap.size) (fun k hk => hk)).mono ?_); rintro e w1 ⟨rfl, h', f'⟩; have HF := hid f'; have HW := hid h'; clear h' f'; have q0 : w1.cell? ⟨b, 64 + 0, none⟩ = some (.int .u32 t0) := cli_at HM0.out HCS.out HF.out hmw 0 rfl; have q1 : w1.cell? ⟨b, 64 + 1, none⟩ = some (.int .u32 r0) := cli_at HM0.out HCS.out HF.out hmw 1 rfl; have q2 : w1.cell? ⟨b, 64 + 2, none⟩ = some (.int .u32 t1) := cli_at HM0.out HCS.out HF.out hmw 2 rfl; have q3 : w1.cell? ⟨b, 64 + 3, none⟩ = some (.int .u32 r1) := cli_at HM0.out HCS.out HF.out hmw 3 rfl; have q4 : w1.cell? ⟨b, 64 + 4, none⟩ = some (.int .u32 t2) := cli_at HM0.out HCS.out HF.out hmw 4 rfl; have q5 : w1.cell? ⟨b, 64 + 5, none⟩ = some (.int .u32 r2) := cli_at HM0.out HCS.out HF.out hmw 5 rfl; have q6 : w1.cell? ⟨b, 64 + 6, none⟩ = some (.int .u32 t3) := cli_at HM0.out HCS.out HF.out hmw 6 rfl; have q7 : w1.cell? ⟨b, 64 + 7, none⟩ = some (.int .u32 r3) := cli_at HM0.out HCS.out HF.out hmw 7 rfl; have q8 : w1.cell? ⟨b, 64 + 8, none⟩ = some (.int .u32 t4) := cli_at HM0.out HCS.out HF.out hmw 8 rfl; have q9 : w1.cell? ⟨b, 64 + 9, none⟩ = some (.int .u32 r4) := cli_at HM0.out HCS.out HF.out hmw 9 rfl))
  clear q0 q1 q2 q3 q4 q5 q6 q7 q8 q9
  go_loopw [25] (fun kk wr => ∃ j : Nat, j ≤ 5 ∧ kk = .int .i64 (j : Int) ∧ IsMap wr b vs cs ∧ IsWr wr w.heap.size (fun k => k < w.heap.size) (pclis cs j) ∧ Below w.heap.size w wr) (fun kk _ => 5 - (intOf kk).toNat)
  case atStart => exact ⟨0, by omega, by simp, HM0.out.frm (frm0_of HF.out) (fun h => h), by rw [show pclis cs 0 = [] by simp [pclis]]; exact HW.out, HF.out⟩
  case round =>
    clear HW HF
    obtain ⟨j, hj, rfl, hM, hW, hF⟩ := hrel
    have HW := hid hW; have HF := hid hF; have HM := hid hM
    clear hW hF hM
    have HL := hid (pclis_len cs j)
    have hj6 : j = 0 ∨ j = 1 ∨ j = 2 ∨ j = 3 ∨ j = 4 ∨ j = 5 := by omega
    rcases hj6 with rfl | rfl | rfl | rfl | rfl | rfl
    · have HB := hid (show 0 ≤ t0 ∧ t0 ≤ 4294967295 from (HM0.out.bc t0 (by rw [HCS.out]; simp)))
      have HB2 := hid (show 0 ≤ r0 ∧ r0 ≤ 4294967295 from (HM0.out.bc r0 (by rw [HCS.out]; simp)))
      have hsucc := hid (pclis_succ cs 0)
      have hix : ∀ w : World, (Instr.index 71 (.agg #[.int .u32 t0, .int .u32 r0, .int .u32 t1, .int .u32 r1, .int .u32 t2, .int .u32 r2, .int .u32 t3, .int .u32 r3, .int .u32 t4, .int .u32 r4]) (.int .i64 0)).run Try.prog w = .ok (.agg #[.int .u32 t0, .int .u32 r0]) w := fun w => by kernel_rfl
      by_cases ht : t0 = 0
      · have hkb := hid (show cbytes cs 0 = [] by unfold cbytes; rw [HCS.out]; exact if_pos ht)
        have qd : decide (0 < t0) = false := decide_eq_false (by omega)
        have qd1 : t0 ≤ 0 := by omega
        have HT := hid ht; clear ht
        go_wp2
        go_roundw
        case rel => exact ⟨0 + 1, by omega, by go_num, HM.out.frm (frm_box _ _) (fun h => h), by rw [hsucc.out, hkb.out, List.append_nil]; exact wr_alloc HW.out (hW_of HF.out) _, HF.out.alloc HF.out.size _⟩
        case measure => simp [intOf]
      · have hkb := hid (show cbytes cs 0 = be 0 1 ++ be t0 4 ++ be r0 4 by unfold cbytes; rw [HCS.out]; exact if_neg ht)
        have qd1 : 0 < t0 := by have := HB.out; omega
        have HT := hid ht; clear ht
        go_wp2_with (first
          | (go_at_call 28; (with_reducible refine (WU8_calls ((HW.out.guard wr.heap.size (Nat.le_refl _)).quiet (frm_box wr _)) (hG_of HF.out _) 0 (by decide) (by decide) (by have := HL.out; omega)).mono ?_); rintro e w2 ⟨rfl, h', f'⟩; have hgq := hid ((Blk.new wr [.int .u32 t0, .int .u32 r0] 70).frm f' (fun h => h (.inr rfl))); have HM2 := hid ((HM.out.frm (frm_box _ _) (fun h => h)).frm f' (fun h => h (.inl hmw))); have HF2 := hid (below_G (HF.out.alloc HF.out.size _) f'); clear HF HM HW f'; have HF := HF2; have HM := HM2; have HW := hid h'; clear h' HF2 HM2; have u0 := hgq.out.cell 0; have u1 := hgq.out.cell 1; simp only [List.getElem?_cons_succ, List.getElem?_cons_zero] at u0 u1)
          | (go_at_call 29; (with_reducible refine (WU32_calls HW.out (hG2_of HF.out hgq.out.lt) t0 HB.out.1 (by have := HB.out; omega) (by rw [List.length_append, be_len]; have := HL.out; omega)).mono ?_); rintro e w3 ⟨rfl, h', f'⟩; have hgq2 := hid (hgq.out.frm f' (fun h => h (.inr rfl))); have HM2 := hid (HM.out.frm f' (fun h => h (.inl hmw))); have HF2 := hid (below_G HF.out f'); clear HF HM HW f' hgq u0 u1; have hgq := hgq2; have HF := HF2; have HM := HM2; have HW := hid h'; clear h' HF2 HM2 hgq2; have u0 := hgq.out.cell 0; have u1 := hgq.out.cell 1; simp only [List.getElem?_cons_succ, List.getElem?_cons_zero] at u0 u1)
          | (go_at_call 29; (with_reducible refine (WU32_calls HW.out (hG2_of HF.out hgq.out.lt) r0 HB2.out.1 (by have := HB2.out; omega) (by rw [List.length_append, List.length_append, be_len, be_len]; have := HL.out; omega)).mono ?_); rintro e w4 ⟨rfl, h', f'⟩; have HM2 := hid (HM.out.frm f' (fun h => h (.inl hmw))); have HF2 := hid (below_G HF.out f'); clear HF HM HW f' hgq u0 u1; have HF := HF2; have HM := HM2; have HW := hid h'.back; clear h' HF2 HM2))
        go_roundw
        case rel => exact ⟨0 + 1, by omega, by go_num, HM.out, by rw [hsucc.out, hkb.out, ← List.append_assoc, ← List.append_assoc]; exact HW.out, HF.out⟩
        case measure => simp [intOf]
    · have HB := hid (show 0 ≤ t1 ∧ t1 ≤ 4294967295 from (HM0.out.bc t1 (by rw [HCS.out]; simp)))
      have HB2 := hid (show 0 ≤ r1 ∧ r1 ≤ 4294967295 from (HM0.out.bc r1 (by rw [HCS.out]; simp)))
      have hsucc := hid (pclis_succ cs 1)
      have hix : ∀ w : World, (Instr.index 71 (.agg #[.int .u32 t0, .int .u32 r0, .int .u32 t1, .int .u32 r1, .int .u32 t2, .int .u32 r2, .int .u32 t3, .int .u32 r3, .int .u32 t4, .int .u32 r4]) (.int .i64 1)).run Try.prog w = .ok (.agg #[.int .u32 t1, .int .u32 r1]) w := fun w => by kernel_rfl
      by_cases ht : t1 = 0
      · have hkb := hid (show cbytes cs 1 = [] by unfold cbytes; rw [HCS.out]; exact if_pos ht)
        have qd : decide (0 < t1) = false := decide_eq_false (by omega)
        have qd1 : t1 ≤ 0 := by omega
        have HT := hid ht; clear ht
        go_wp2
        go_roundw
        case rel => exact ⟨1 + 1, by omega, by go_num, HM.out.frm (frm_box _ _) (fun h => h), by rw [hsucc.out, hkb.out, List.append_nil]; exact wr_alloc HW.out (hW_of HF.out) _, HF.out.alloc HF.out.size _⟩
        case measure => simp [intOf]
      · have hkb := hid (show cbytes cs 1 = be 1 1 ++ be t1 4 ++ be r1 4 by unfold cbytes; rw [HCS.out]; exact if_neg ht)
        have qd1 : 0 < t1 := by have := HB.out; omega
        have HT := hid ht; clear ht
        go_wp2_with (first
          | (go_at_call 28; (with_reducible refine (WU8_calls ((HW.out.guard wr.heap.size (Nat.le_refl _)).quiet (frm_box wr _)) (hG_of HF.out _) 1 (by decide) (by decide) (by have := HL.out; omega)).mono ?_); rintro e w2 ⟨rfl, h', f'⟩; have hgq := hid ((Blk.new wr [.int .u32 t1, .int .u32 r1] 70).frm f' (fun h => h (.inr rfl))); have HM2 := hid ((HM.out.frm (frm_box _ _) (fun h => h)).frm f' (fun h => h (.inl hmw))); have HF2 := hid (below_G (HF.out.alloc HF.out.size _) f'); clear HF HM HW f'; have HF := HF2; have HM := HM2; have HW := hid h'; clear h' HF2 HM2; have u0 := hgq.out.cell 0; have u1 := hgq.out.cell 1; simp only [List.getElem?_cons_succ, List.getElem?_cons_zero] at u0 u1)
          | (go_at_call 29; (with_reducible refine (WU32_calls HW.out (hG2_of HF.out hgq.out.lt) t1 HB.out.1 (by have := HB.out; omega) (by rw [List.length_append, be_len]; have := HL.out; omega)).mono ?_); rintro e w3 ⟨rfl, h', f'⟩; have hgq2 := hid (hgq.out.frm f' (fun h => h (.inr rfl))); have HM2 := hid (HM.out.frm f' (fun h => h (.inl hmw))); have HF2 := hid (below_G HF.out f'); clear HF HM HW f' hgq u0 u1; have hgq := hgq2; have HF := HF2; have HM := HM2; have HW := hid h'; clear h' HF2 HM2 hgq2; have u0 := hgq.out.cell 0; have u1 := hgq.out.cell 1; simp only [List.getElem?_cons_succ, List.getElem?_cons_zero] at u0 u1)
          | (go_at_call 29; (with_reducible refine (WU32_calls HW.out (hG2_of HF.out hgq.out.lt) r1 HB2.out.1 (by have := HB2.out; omega) (by rw [List.length_append, List.length_append, be_len, be_len]; have := HL.out; omega)).mono ?_); rintro e w4 ⟨rfl, h', f'⟩; have HM2 := hid (HM.out.frm f' (fun h => h (.inl hmw))); have HF2 := hid (below_G HF.out f'); clear HF HM HW f' hgq u0 u1; have HF := HF2; have HM := HM2; have HW := hid h'.back; clear h' HF2 HM2))
        go_roundw
        case rel => exact ⟨1 + 1, by omega, by go_num, HM.out, by rw [hsucc.out, hkb.out, ← List.append_assoc, ← List.append_assoc]; exact HW.out, HF.out⟩
        case measure => simp [intOf]
    · have HB := hid (show 0 ≤ t2 ∧ t2 ≤ 4294967295 from (HM0.out.bc t2 (by rw [HCS.out]; simp)))
      have HB2 := hid (show 0 ≤ r2 ∧ r2 ≤ 4294967295 from (HM0.out.bc r2 (by rw [HCS.out]; simp)))
      have hsucc := hid (pclis_succ cs 2)
      have hix : ∀ w : World, (Instr.index 71 (.agg #[.int .u32 t0, .int .u32 r0, .int .u32 t1, .int .u32 r1, .int .u32 t2, .int .u32 r2, .int .u32 t3, .int .u32 r3, .int .u32 t4, .int .u32 r4]) (.int .i64 2)).run Try.prog w = .ok (.agg #[.int .u32 t2, .int .u32 r2]) w := fun w => by kernel_rfl
      by_cases ht : t2 = 0
      · have hkb := hid (show cbytes cs 2 = [] by unfold cbytes; rw [HCS.out]; exact if_pos ht)
        have qd : decide (0 < t2) = false := decide_eq_false (by omega)
        have qd1 : t2 ≤ 0 := by omega
        have HT := hid ht; clear ht
        go_wp2
        go_roundw
        case rel => exact ⟨2 + 1, by omega, by go_num, HM.out.frm (frm_box _ _) (fun h => h), by rw [hsucc.out, hkb.out, List.append_nil]; exact wr_alloc HW.out (hW_of HF.out) _, HF.out.alloc HF.out.size _⟩
        case measure => simp [intOf]
      · have hkb := hid (show cbytes cs 2 = be 2 1 ++ be t2 4 ++ be r2 4 by unfold cbytes; rw [HCS.out]; exact if_neg ht)
        have qd1 : 0 < t2 := by have := HB.out; omega
        have HT := hid ht; clear ht
        go_wp2_with (first
          | (go_at_call 28; (with_reducible refine (WU8_calls ((HW.out.guard wr.heap.size (Nat.le_refl _)).quiet (frm_box wr _)) (hG_of HF.out _) 2 (by decide) (by decide) (by have := HL.out; omega)).mono ?_); rintro e w2 ⟨rfl, h', f'⟩; have hgq := hid ((Blk.new wr [.int .u32 t2, .int .u32 r2] 70).frm f' (fun h => h (.inr rfl))); have HM2 := hid ((HM.out.frm (frm_box _ _) (fun h => h)).frm f' (fun h => h (.inl hmw))); have HF2 := hid (below_G (HF.out.alloc HF.out.size _) f'); clear HF HM HW f'; have HF := HF2; have HM := HM2; have HW := hid h'; clear h' HF2 HM2; have u0 := hgq.out.cell 0; have u1 := hgq.out.cell 1; simp only [List.getElem?_cons_succ, List.getElem?_cons_zero] at u0 u1)
          | (go_at_call 29; (with_reducible refine (WU32_calls HW.out (hG2_of HF.out hgq.out.lt) t2 HB.out.1 (by have := HB.out; omega) (by rw [List.length_append, be_len]; have := HL.out; omega)).mono ?_); rintro e w3 ⟨rfl, h', f'⟩; have hgq2 := hid (hgq.out.frm f' (fun h => h (.inr rfl))); have HM2 := hid (HM.out.frm f' (fun h => h (.inl hmw))); have HF2 := hid (below_G HF.out f'); clear HF HM HW f' hgq u0 u1; have hgq := hgq2; have HF := HF2; have HM := HM2; have HW := hid h'; clear h' HF2 HM2 hgq2; have u0 := hgq.out.cell 0; have u1 := hgq.out.cell 1; simp only [List.getElem?_cons_succ, List.getElem?_cons_zero] at u0 u1)
          | (go_at_call 29; (with_reducible refine (WU32_calls HW.out (hG2_of HF.out hgq.out.lt) r2 HB2.out.1 (by have := HB2.out; omega) (by rw [List.length_append, List.length_append, be_len, be_len]; have := HL.out; omega)).mono ?_); rintro e w4 ⟨rfl, h', f'⟩; have HM2 := hid (HM.out.frm f' (fun h => h (.inl hmw))); have HF2 := hid (below_G HF.out f'); clear HF HM HW f' hgq u0 u1; have HF := HF2; have HM := HM2; have HW := hid h'.back; clear h' HF2 HM2))
        go_roundw
        case rel => exact ⟨2 + 1, by omega, by go_num, HM.out, by rw [hsucc.out, hkb.out, ← List.append_assoc, ← List.append_assoc]; exact HW.out, HF.out⟩
        case measure => simp [intOf]
    · have HB := hid (show 0 ≤ t3 ∧ t3 ≤ 4294967295 from (HM0.out.bc t3 (by rw [HCS.out]; simp)))
      have HB2 := hid (show 0 ≤ r3 ∧ r3 ≤ 4294967295 from (HM0.out.bc r3 (by rw [HCS.out]; simp)))
      have hsucc := hid (pclis_succ cs 3)
      have hix : ∀ w : World, (Instr.index 71 (.agg #[.int .u32 t0, .int .u32 r0, .int .u32 t1, .int .u32 r1, .int .u32 t2, .int .u32 r2, .int .u32 t3, .int .u32 r3, .int .u32 t4, .int .u32 r4]) (.int .i64 3)).run Try.prog w = .ok (.agg #[.int .u32 t3, .int .u32 r3]) w := fun w => by kernel_rfl
      by_cases ht : t3 = 0
      · have hkb := hid (show cbytes cs 3 = [] by unfold cbytes; rw [HCS.out]; exact if_pos ht)
        have qd : decide (0 < t3) = false := decide_eq_false (by omega)
        have qd1 : t3 ≤ 0 := by omega
        have HT := hid ht; clear ht
        go_wp2
        go_roundw
        case rel => exact ⟨3 + 1, by omega, by go_num, HM.out.frm (frm_box _ _) (fun h => h), by rw [hsucc.out, hkb.out, List.append_nil]; exact wr_alloc HW.out (hW_of HF.out) _, HF.out.alloc HF.out.size _⟩
        case measure => simp [intOf]
      · have hkb := hid (show cbytes cs 3 = be 3 1 ++ be t3 4 ++ be r3 4 by unfold cbytes; rw [HCS.out]; exact if_neg ht)
        have qd1 : 0 < t3 := by have := HB.out; omega
        have HT := hid ht; clear ht
        go_wp2_with (first
          | (go_at_call 28; (with_reducible refine (WU8_calls ((HW.out.guard wr.heap.size (Nat.le_refl _)).quiet (frm_box wr _)) (hG_of HF.out _) 3 (by decide) (by decide) (by have := HL.out; omega)).mono ?_); rintro e w2 ⟨rfl, h', f'⟩; have hgq := hid ((Blk.new wr [.int .u32 t3, .int .u32 r3] 70).frm f' (fun h => h (.inr rfl))); have HM2 := hid ((HM.out.frm (frm_box _ _) (fun h => h)).frm f' (fun h => h (.inl hmw))); have HF2 := hid (below_G (HF.out.alloc HF.out.size _) f'); clear HF HM HW f'; have HF := HF2; have HM := HM2; have HW := hid h'; clear h' HF2 HM2; have u0 := hgq.out.cell 0; have u1 := hgq.out.cell 1; simp only [List.getElem?_cons_succ, List.getElem?_cons_zero] at u0 u1)
          | (go_at_call 29; (with_reducible refine (WU32_calls HW.out (hG2_of HF.out hgq.out.lt) t3 HB.out.1 (by have := HB.out; omega) (by rw [List.length_append, be_len]; have := HL.out; omega)).mono ?_); rintro e w3 ⟨rfl, h', f'⟩; have hgq2 := hid (hgq.out.frm f' (fun h => h (.inr rfl))); have HM2 := hid (HM.out.frm f' (fun h => h (.inl hmw))); have HF2 := hid (below_G HF.out f'); clear HF HM HW f' hgq u0 u1; have hgq := hgq2; have HF := HF2; have HM := HM2; have HW := hid h'; clear h' HF2 HM2 hgq2; have u0 := hgq.out.cell 0; have u1 := hgq.out.cell 1; simp only [List.getElem?_cons_succ, List.getElem?_cons_zero] at u0 u1)
          | (go_at_call 29; (with_reducible refine (WU32_calls HW.out (hG2_of HF.out hgq.out.lt) r3 HB2.out.1 (by have := HB2.out; omega) (by rw [List.length_append, List.length_append, be_len, be_len]; have := HL.out; omega)).mono ?_); rintro e w4 ⟨rfl, h', f'⟩; have HM2 := hid (HM.out.frm f' (fun h => h (.inl hmw))); have HF2 := hid (below_G HF.out f'); clear HF HM HW f' hgq u0 u1; have HF := HF2; have HM := HM2; have HW := hid h'.back; clear h' HF2 HM2))
        go_roundw
        case rel => exact ⟨3 + 1, by omega, by go_num, HM.out, by rw [hsucc.out, hkb.out, ← List.append_assoc, ← List.append_assoc]; exact HW.out, HF.out⟩
        case measure => simp [intOf]
    · have HB := hid (show 0 ≤ t4 ∧ t4 ≤ 4294967295 from (HM0.out.bc t4 (by rw [HCS.out]; simp)))
      have HB2 := hid (show 0 ≤ r4 ∧ r4 ≤ 4294967295 from (HM0.out.bc r4 (by rw [HCS.out]; simp)))
      have hsucc := hid (pclis_succ cs 4)
      have hix : ∀ w : World, (Instr.index 71 (.agg #[.int .u32 t0, .int .u32 r0, .int .u32 t1, .int .u32 r1, .int .u32 t2, .int .u32 r2, .int .u32 t3, .int .u32 r3, .int .u32 t4, .int .u32 r4]) (.int .i64 4)).run Try.prog w = .ok (.agg #[.int .u32 t4, .int .u32 r4]) w := fun w => by kernel_rfl
      by_cases ht : t4 = 0
      · have hkb := hid (show cbytes cs 4 = [] by unfold cbytes; rw [HCS.out]; exact if_pos ht)
        have qd : decide (0 < t4) = false := decide_eq_false (by omega)
        have qd1 : t4 ≤ 0 := by omega
        have HT := hid ht; clear ht
        go_wp2
        go_roundw
        case rel => exact ⟨4 + 1, by omega, by go_num, HM.out.frm (frm_box _ _) (fun h => h), by rw [hsucc.out, hkb.out, List.append_nil]; exact wr_alloc HW.out (hW_of HF.out) _, HF.out.alloc HF.out.size _⟩
        case measure => simp [intOf]
      · have hkb := hid (show cbytes cs 4 = be 4 1 ++ be t4 4 ++ be r4 4 by unfold cbytes; rw [HCS.out]; exact if_neg ht)
        have qd1 : 0 < t4 := by have := HB.out; omega
        have HT := hid ht; clear ht
        go_wp2_with (first
          | (go_at_call 28; (with_reducible refine (WU8_calls ((HW.out.guard wr.heap.size (Nat.le_refl _)).quiet (frm_box wr _)) (hG_of HF.out _) 4 (by decide) (by decide) (by have := HL.out; omega)).mono ?_); rintro e w2 ⟨rfl, h', f'⟩; have hgq := hid ((Blk.new wr [.int .u32 t4, .int .u32 r4] 70).frm f' (fun h => h (.inr rfl))); have HM2 := hid ((HM.out.frm (frm_box _ _) (fun h => h)).frm f' (fun h => h (.inl hmw))); have HF2 := hid (below_G (HF.out.alloc HF.out.size _) f'); clear HF HM HW f'; have HF := HF2; have HM := HM2; have HW := hid h'; clear h' HF2 HM2; have u0 := hgq.out.cell 0; have u1 := hgq.out.cell 1; simp only [List.getElem?_cons_succ, List.getElem?_cons_zero] at u0 u1)
          | (go_at_call 29; (with_reducible refine (WU32_calls HW.out (hG2_of HF.out hgq.out.lt) t4 HB.out.1 (by have := HB.out; omega) (by rw [List.length_append, be_len]; have := HL.out; omega)).mono ?_); rintro e w3 ⟨rfl, h', f'⟩; have hgq2 := hid (hgq.out.frm f' (fun h => h (.inr rfl))); have HM2 := hid (HM.out.frm f' (fun h => h (.inl hmw))); have HF2 := hid (below_G HF.out f'); clear HF HM HW f' hgq u0 u1; have hgq := hgq2; have HF := HF2; have HM := HM2; have HW := hid h'; clear h' HF2 HM2 hgq2; have u0 := hgq.out.cell 0; have u1 := hgq.out.cell 1; simp only [List.getElem?_cons_succ, List.getElem?_cons_zero] at u0 u1)
          | (go_at_call 29; (with_reducible refine (WU32_calls HW.out (hG2_of HF.out hgq.out.lt) r4 HB2.out.1 (by have := HB2.out; omega) (by rw [List.length_append, List.length_append, be_len, be_len]; have := HL.out; omega)).mono ?_); rintro e w4 ⟨rfl, h', f'⟩; have HM2 := hid (HM.out.frm f' (fun h => h (.inl hmw))); have HF2 := hid (below_G HF.out f'); clear HF HM HW f' hgq u0 u1; have HF := HF2; have HM := HM2; have HW := hid h'.back; clear h' HF2 HM2))
        go_roundw
        case rel => exact ⟨4 + 1, by omega, by go_num, HM.out, by rw [hsucc.out, hkb.out, ← List.append_assoc, ← List.append_assoc]; exact HW.out, HF.out⟩
        case measure => simp [intOf]
    · obtain ⟨L, hLL⟩ : ∃ L, (pclis cs 5).length = L := ⟨_, rfl⟩
      have HLL := hid hLL; clear hLL
      go_wp2_with (first
        | (go_at_call 30; (with_reducible refine (WAll_calls HW.out (by have := HL.out; have := HLL.out; omega) L HLL.out).mono ?_); rintro e w' ⟨rfl, hI, f'⟩; have HG := hid HF.out.size; have HI := hid hI; have n0_ := hid (below_next HF.out f'); clear HF; have HF := n0_; clear n0_; clear f' hI))
      go_ret
      rw [HPB.out, HLL.out]
      exact ⟨_, rfl, HG.out, HI.out, Frm.of_below HF.out (fun k hk hk' => absurd (Nat.lt_of_lt_of_le hk hk') (Nat.lt_irrefl _))⟩
end Go.Proofs.Ytljfbaakgjmmfaa
