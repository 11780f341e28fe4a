/- QueuePlays, walked: every row of requests that come and are done: which wait, in their order. For every row of steps. -/
import Derived.Test.YtabmbppolmikcaaQuPlaysP
import Derived.Deep.DeepCutAuto
import Derived.Deep.LoopGhost
namespace Go.Proofs.Ytabmbppolmikcaa
open Go.RowKit Go.ChangeShapes
set_option linter.unusedVariables false
set_option linter.unusedSimpArgs false
set_option maxRecDepth 100000
abbrev TSt : Nat := 44
set_option maxHeartbeats 64000000 in
theorem QueuePlays_walk (a0 : Option Addr) (c0 : Nat) (z0 : List StX) (w : World) (h0 : SlK c44 w a0 c0 z0) :
    Calls Try.prog 4 #[.slice a0 z0.length c0] w fun e w' => e = .returned (.bool true) ∧ Below w.heap.size w w' := by
  obtain ⟨len, hlen⟩ : ∃ len, z0.length = len := ⟨_, rfl⟩
  have HLEN := hid hlen
  rw [hlen]
  have hle := h0.le
  have hsm := h0.small
  rw [hlen] at hle
  clear hlen
  by_cases hl80 : 80 < len
  · have hl : (80 : Int) < (len : Int) := by omega
    go_enter Try.func4, Try.ntmps4
    go_wp2_with (first
      | (go_at_call 6; (with_reducible refine (known_calls w).mono ?_); rintro e w0 ⟨rfl, f'⟩; have HF0 := hid f'; clear f'))
    go_ret
    exact ⟨rfl, HF0.out.below (Nat.le_refl _) (fun _ _ h => h)⟩
  · have hl : ¬ (80 : Int) < (len : Int) := by omega
    have HL80 := hid hl80
    clear hl80
    go_enter Try.func4, Try.ntmps4
    go_wp2_with (first
      | (go_at_call 6; (with_reducible refine (known_calls w).mono ?_); rintro e w0 ⟨rfl, f'⟩; have HF0 := hid f'; clear f')
      | (go_at_call 7; (with_reducible refine (QNew_calls w0).mono ?_); rintro e w1 ⟨rfl, hq, f'⟩; obtain ⟨qb, hqb⟩ : ∃ qb, w0.heap.size + 1 = qb := ⟨_, rfl⟩; obtain ⟨mb, hmb⟩ : ∃ mb, w0.heap.size = mb := ⟨_, rfl⟩; have hsz := HF0.out.size; have HGE := hid (show w.heap.size ≤ qb ∧ w.heap.size ≤ mb by omega); rw [hqb, hmb] at hq; rw [hqb]; have HQ0 := hid hq; have HF1 := hid (HF0.out.trans f'); clear HF0 hq f' hqb hmb hsz))
    have HH0 := hid h0
    have HQ1 := hid (HQ0.out.quiet (qbox w1 (.cells #[.slice none 0 0] TRQ)))
    have HR1 := hid (show IsRQ (w1.alloc (.cells #[.slice none 0 0] TRQ)) w1.heap.size (.slice none 0 0) (([] : List Qe).map (·.1)) from ⟨Blk.new w1 _ _, OwnY.nil _ _⟩)
    have HB1 := hid ((HF1.out.trans (qbox w1 (.cells #[.slice none 0 0] TRQ))).below (Nat.le_refl _) (fun _ _ h => h))
    have HNE := hid (show ¬ w1.heap.size = qb ∧ ¬ w1.heap.size = mb ∧ w.heap.size ≤ w1.heap.size ∧ qb < w1.heap.size ∧ mb < w1.heap.size by have := HQ0.out.lt; have := HF1.out.size; omega)
    clear HQ0 HF1 h0
    generalize w1.alloc (.cells #[.slice none 0 0] TRQ) = w2 at *
    generalize w1.heap.size = rb at *
    go_loopg [5] len (fun gk iv wr => ∃ (i : Nat) (L : List Qe) (n : Nat) (v : Value), i ≤ len ∧ gk = len - i ∧ iv = .int .i64 i ∧ IsQ wr qb mb L n ∧ n ≤ i ∧ IsRQ wr rb v (L.map (·.1)) ∧ Below w.heap.size w wr)
    case atStart => exact ⟨0, [], 0, _, Nat.zero_le _, rfl, rfl, HQ1.out, Nat.le_refl _, HR1.out, HB1.out⟩
    case round =>
      clear HQ1 HR1 HB1
      obtain ⟨i, L, n, v, hi, rfl, rfl, hq, hn, hr, hb⟩ := hrel
      generalize wr = wa at *
      have HQA := hid hq; have HNI := hid hn; have HRA := hid hr; have HBA := hid hb
      clear hq hn hr hb
      by_cases hlt : i < len
      · have HLT := hid hlt
        have HNN := hid (show n ≤ 100000 by have := HNI.out; have := HL80.out; omega)
        have HI := hid HQA.out.inv
        obtain ⟨ga, off, ha, hga, hc⟩ := HH0.out.at_ (by rw [HLEN.out]; omega)
        subst ha
        obtain ⟨x, hx⟩ : ∃ x, z0[i]? = some x := ⟨_, List.getElem?_eq_getElem (by rw [HLEN.out]; exact hlt)⟩
        obtain ⟨cs, hk1, hcell⟩ := hc i _ hx
        obtain ⟨what, ⟨sc, st, sk, sy, sv⟩, rfl, hro⟩ := st_is hk1
        have HRO := hid hro
        rw [cells44] at hcell
        have t0 := (HBA.out.cell (p := ⟨ga, off + i * 6 + 0, none⟩) hga).trans (hcell 0 _ rfl)
        have t1 := (HBA.out.cell (p := ⟨ga, off + i * 6 + 1, none⟩) hga).trans (hcell 1 _ rfl)
        have t2 := (HBA.out.cell (p := ⟨ga, off + i * 6 + 2, none⟩) hga).trans (hcell 2 _ rfl)
        have t3 := (HBA.out.cell (p := ⟨ga, off + i * 6 + 3, none⟩) hga).trans (hcell 3 _ rfl)
        have t4 := (HBA.out.cell (p := ⟨ga, off + i * 6 + 4, none⟩) hga).trans (hcell 4 _ rfl)
        have t5 := (HBA.out.cell (p := ⟨ga, off + i * 6 + 5, none⟩) hga).trans (hcell 5 _ rfl)
        simp only [Nat.add_zero] at t0
        have hii : (i : Int) < (len : Int) := by omega
        have hi0 : (0 : Int) ≤ (i : Int) := by omega
        clear hc hx hk1 hcell hro hlt hi
        go_upto_if 31 with fail
        clear t0 t1 t2 t3 t4 t5
        have HQ := hid (HQA.out.quiet (qbox wa (.cells #[.int .i64 what, .int .u8 sc, .int .u32 st, .int .u8 sk, .int .u8 sy, .int .u16 sv] TSt))); have HR := hid (HRA.out.quiet (qbox wa (.cells #[.int .i64 what, .int .u8 sc, .int .u32 st, .int .u8 sk, .int .u8 sy, .int .u16 sv] TSt))); have HSB := hid (Blk.new wa [.int .i64 what, .int .u8 sc, .int .u32 st, .int .u8 sk, .int .u8 sy, .int .u16 sv] TSt); have HB := hid (HBA.out.trans ((qbox wa (.cells #[.int .i64 what, .int .u8 sc, .int .u32 st, .int .u8 sk, .int .u8 sy, .int .u16 sv] TSt)).below HBA.out.size (fun _ _ h => h)))
        have HSN := hid (show ¬ wa.heap.size = qb ∧ ¬ wa.heap.size = mb ∧ ¬ wa.heap.size = rb ∧ w.heap.size ≤ wa.heap.size by have := HQA.out.lt; have := HRA.out.blk.lt; have := HBA.out.size; omega)
        clear HQA HRA HBA
        generalize wa.alloc (.cells #[.int .i64 what, .int .u8 sc, .int .u32 st, .int .u8 sk, .int .u8 sy, .int .u16 sv] TSt) = wb at *
        generalize wa.heap.size = sb at *
        have s0 := HSB.out.cell 0; have s1 := HSB.out.cell 1; have s2 := HSB.out.cell 2; have s3 := HSB.out.cell 3; have s4 := HSB.out.cell 4; have s5 := HSB.out.cell 5; (simp only [List.getElem?_cons_succ, List.getElem?_cons_zero] at s0 s1 s2 s3 s4 s5)
        go_cut [] (fun wx => ∃ (L2 : List Qe) (n2 : Nat) (v2 : Value), IsQ wx qb mb L2 n2 ∧ n2 ≤ n + 1 ∧ IsRQ wx rb v2 (L2.map (·.1)) ∧ Blk wx sb [.int .i64 what, .int .u8 sc, .int .u32 st, .int .u8 sk, .int .u8 sy, .int .u16 sv] TSt ∧ Below w.heap.size w wx)
        case first =>
          by_cases hw2 : what ≤ 2
          · obtain ⟨z, hz⟩ : ∃ z, putB L ⟨sc, st, sk, sy, sv⟩ = z := ⟨_, rfl⟩
            have HZ := hid hz
            clear hz
            go_wp2_with fail
            (have n1 := hid (HQ.out.quiet (frm_drew wb)); have n2 := hid (HR.out.quiet (frm_drew wb)); have n3 := hid (HSB.out.frm (frm_drew wb) (fun h => h)); have n4 := hid (bdrew HB.out); clear HQ HR HSB HB; have HQ := n1; have HR := n2; have HSB := n3; have HB := n4; clear n1 n2 n3 n4)
            go_region_held3 (fun wx => wx.cell? ⟨sb, 1, none⟩ = some (.int .u8 sc) ∧ wx.cell? ⟨sb, 2, none⟩ = some (.int .u32 st) ∧ wx.cell? ⟨sb, 3, none⟩ = some (.int .u8 sk) ∧ wx.cell? ⟨sb, 4, none⟩ = some (.int .u8 sy) ∧ wx.cell? ⟨sb, 5, none⟩ = some (.int .u16 sv)) (first | go_keep | exact ⟨s1, s2, s3, s4, s5⟩) ((first | (go_at_call 8; (with_reducible refine (Put_any HQ.out HNN.out ⟨sc, st, sk, sy, sv⟩ HRO.out z HZ.out).mono ?_); rintro e w5 ⟨rfl, hq', f'⟩; clear s0 s1 s2 s3 s4 s5; have n1 := hid (show IsRQ _ rb v (L.map (·.1)) from ⟨HR.out.blk.frm f' (fun e => by rcases e with e | e; exact HNE.out.1 e; exact HNE.out.2.1 e), HR.out.own.frm f' (fun k hk e => HR.out.own.off k hk (by have := HNE.out; rcases e with e | e <;> (show k ≤ rb) <;> omega))⟩); have n2 := hid (HSB.out.frm f' (fun e => by have := HSN.out; rcases e with e | e <;> omega)); have n3 := hid (HB.out.trans (f'.below HB.out.size (fun k hk e => by have := HGE.out; rcases e with e | e <;> omega))); clear HQ HR HSB HB f'; have HQ := hid hq'; have HR := n1; have HSB := n2; have HB := n3; clear hq' n1 n2 n3; have s0 := HSB.out.cell 0; have s1 := HSB.out.cell 1; have s2 := HSB.out.cell 2; have s3 := HSB.out.cell 3; have s4 := HSB.out.cell 4; have s5 := HSB.out.cell 5; (simp only [List.getElem?_cons_succ, List.getElem?_cons_zero] at s0 s1 s2 s3 s4 s5)) | (go_at_call 13; (with_reducible refine (RPut_any (n := n) HR.out HI.out ⟨sc, st, sk, sy, sv⟩ z HZ.out).mono ?_); rintro e w6 ⟨rfl, hr', f'⟩; clear s0 s1 s2 s3 s4 s5; obtain ⟨v2, hr2⟩ := hr'; have n1 := hid (HQ.out.frm f' (fun k hk e => by have := HNE.out; rcases hk with hk | hk <;> omega)); have n2 := hid (HSB.out.frm f' (fun e => by have := HSN.out; omega)); have n3 := hid (HB.out.trans (f'.below HB.out.size (fun k hk e => by have := HNE.out; omega))); clear HQ HR HSB HB f'; have HQ := n1; have HR := hid hr2; have HSB := n2; have HB := n3; clear hr2 n1 n2 n3; have s0 := HSB.out.cell 0; have s1 := HSB.out.cell 1; have s2 := HSB.out.cell 2; have s3 := HSB.out.cell 3; have s4 := HSB.out.cell 4; have s5 := HSB.out.cell 5; (simp only [List.getElem?_cons_succ, List.getElem?_cons_zero] at s0 s1 s2 s3 s4 s5))))
            all_goals (go_wp2_with fail)
            all_goals go_meet
            all_goals exact ⟨_, _, _, HQ.out, putN_le _ _, HR.out, HSB.out, HB.out⟩
          · obtain ⟨L2, hL2⟩ : ∃ L2, doneL L sc st = L2 := ⟨_, rfl⟩
            have HL2 := hid hL2
            clear hL2
            go_wp2_with (first
              | (go_at_call 14; (with_reducible refine (QDone_calls HQ.out sc st L2 HL2.out).mono ?_); rintro e w5 ⟨rfl, hq', f'⟩; clear s0 s1 s2 s3 s4 s5; have n1 := hid (show IsRQ _ rb v (L.map (·.1)) from ⟨HR.out.blk.frm f' (fun e => HNE.out.2.1 e), HR.out.own.frm f' (fun k hk e => HR.out.own.off k hk (by have := HNE.out; show k ≤ rb; have : k = mb := e; omega))⟩); have n2 := hid (HSB.out.frm f' (fun e => by have := HSN.out; omega)); have n3 := hid (HB.out.trans (f'.below HB.out.size (fun k hk e => by have := HGE.out; omega))); clear HQ HR HSB HB f'; have HQ := hid hq'; have HR := n1; have HSB := n2; have HB := n3; clear hq' n1 n2 n3; have s0 := HSB.out.cell 0; have s1 := HSB.out.cell 1; have s2 := HSB.out.cell 2; have s3 := HSB.out.cell 3; have s4 := HSB.out.cell 4; have s5 := HSB.out.cell 5; (simp only [List.getElem?_cons_succ, List.getElem?_cons_zero] at s0 s1 s2 s3 s4 s5))
              | (go_at_call 15; (with_reducible refine (RDone_any (n := n) HR.out HI.out sc st L2 HL2.out).mono ?_); rintro e w6 ⟨rfl, hr', f'⟩; clear s0 s1 s2 s3 s4 s5; obtain ⟨v2, hr2⟩ := hr'; have n1 := hid (HQ.out.frm f' (fun k hk e => by have := HNE.out; rcases hk with hk | hk <;> omega)); have n2 := hid (HSB.out.frm f' (fun e => by have := HSN.out; omega)); have n3 := hid (HB.out.trans (f'.below HB.out.size (fun k hk e => by have := HNE.out; omega))); clear HQ HR HSB HB f'; have HQ := n1; have HR := hid hr2; have HSB := n2; have HB := n3; clear hr2 n1 n2 n3; have s0 := HSB.out.cell 0; have s1 := HSB.out.cell 1; have s2 := HSB.out.cell 2; have s3 := HSB.out.cell 3; have s4 := HSB.out.cell 4; have s5 := HSB.out.cell 5; (simp only [List.getElem?_cons_succ, List.getElem?_cons_zero] at s0 s1 s2 s3 s4 s5)))
            go_meet
            exact ⟨_, _, _, HQ.out, Nat.le_succ _, HR.out, HSB.out, HB.out⟩
        case rest =>
          obtain ⟨L2, n2, v2, hq, hn2, hr, hs, hb⟩ := hcut
          have HQ2 := hid hq; have HN2 := hid hn2; have HR2 := hid hr; have HS2 := hid hs; have HB2 := hid hb
          clear hq hn2 hr hs hb HQ HR HSB HB s0 s1 s2 s3 s4 s5 HI
          generalize wc = wd at *
          obtain _ | ⟨⟨⟨xc, xt, xk, xy, xv⟩, xs⟩, L3⟩ := L2
          · obtain ⟨va, vc, hv2⟩ := HR2.out.own.slice
            (rw [List.length_map] at hv2)
            subst hv2
            obtain ⟨N, hN⟩ : ∃ N, ([] : List Qe).length = N := ⟨_, rfl⟩
            have HN := hid hN
            rw [hN] at HR2
            have HN4 := hid (show N ≤ 4 by rw [← hN]; exact HQ2.out.inv.few)
            have hn4 : (N : Int) ≤ 4 := by have := HN4.out; omega
            have hn0 : (0 : Int) ≤ (N : Int) := by omega
            have hnb : decide ((0 : Int) < (N : Int)) = false := by rw [← hN]; rfl
            have hnb2 : decide (0 < N) = false := by rw [← hN]; rfl
            clear hN
            obtain ⟨RR, hRR⟩ : ∃ RR, ([] : List Qe).map (·.1) = RR := ⟨_, rfl⟩
            have HRR := hid hRR
            have HRL := hid (show RR.length = N by rw [← hRR, List.length_map]; exact HN.out)
            have HAY := hid (fun r => (hRR ▸ hasB_iff HQ2.out.inv r : hasB ([] : List Qe) r = RR.any (·.eqb r)))
            rw [hRR] at HR2
            skip
            clear hRR
            go_wp2_with (go_at_call 16; (with_reducible refine (First_none HQ2.out).mono ?_); rintro e w7 ⟨rfl, f'⟩; have n1 := hid ((HQ2.out.quiet f').quiet (qbox w7 (.cells #[.int .u8 0, .int .u32 0, .int .u8 0, .int .u8 0, .int .u16 0] TRq))); have n2 := hid ((HR2.out.quiet f').quiet (qbox w7 (.cells #[.int .u8 0, .int .u32 0, .int .u8 0, .int .u8 0, .int .u16 0] TRq))); have n3 := hid ((HS2.out.frm f' (fun h => h)).frm (qbox w7 (.cells #[.int .u8 0, .int .u32 0, .int .u8 0, .int .u8 0, .int .u16 0] TRq)) (fun h => h)); have n4 := hid ((HB2.out.trans (f'.below HB2.out.size (fun _ _ h => h))).trans ((qbox w7 (.cells #[.int .u8 0, .int .u32 0, .int .u8 0, .int .u8 0, .int .u16 0] TRq)).below (Nat.le_trans HB2.out.size f'.size) (fun _ _ h => h))); have n5 := hid (Blk.new w7 [.int .u8 0, .int .u32 0, .int .u8 0, .int .u8 0, .int .u16 0] TRq); have q0 := fun o => ((HR2.out.quiet f').quiet (qbox w7 o)).blk.cell 0; (simp only [List.getElem?_cons_zero] at q0); clear HQ2 HR2 HS2 HB2 f'; have HQ := n1; have HR := n2; have HS := n3; have HB := n4; have HX := n5; clear n1 n2 n3 n4 n5)
            clear q0
            generalize w7.alloc (.cells #[.int .u8 0, .int .u32 0, .int .u8 0, .int .u8 0, .int .u16 0] TRq) = we at *
            generalize w7.heap.size = xb at *
            go_loopw [9, 10] (fun hv kv wr => ∃ (k : Nat), k ≤ N ∧ kv = .int .i64 k ∧ hv = .bool (anyR (RR.take k) ⟨sc, st, sk, sy, sv⟩) ∧ Frm (fun _ => False) we wr) (fun _ k _ => N - (intOf k).toNat)
            case atStart => exact ⟨0, Nat.zero_le _, rfl, rfl, Frm.refl _ _⟩
            case round =>
              obtain ⟨k, hk, rfl, rfl, hf⟩ := hrel
              generalize wr = wl at *
              have HFL := hid hf
              clear hf
              have q0 := (HR.out.blk.frm HFL.out (fun h => h)).cell 0
              simp only [List.getElem?_cons_zero] at q0
              by_cases hkl : k < N
              · exact absurd (show k < 0 by rw [← HN.out] at hkl; exact hkl) (by omega)
              · have hke : k = N := by omega
                subst hke
                clear hkl hk
                have hki : ¬ (k : Int) < (k : Int) := by omega
                obtain ⟨z, hz⟩ : ∃ z, anyR (RR.take k) ⟨sc, st, sk, sy, sv⟩ = z := ⟨_, rfl⟩
                have HHZ := hid (show hasB ([] : List Qe) ⟨sc, st, sk, sy, sv⟩ = z by rw [HAY.out, ← hz]; unfold anyR; rw [List.take_of_length_le (by rw [HRL.out]; exact Nat.le_refl _)])
                rw [hz]
                clear hz
                go_wp2_with fail
                have hdd := hid ((HFL.out.trans (frm_drew wl)))
                have n1 := hid (HQ.out.quiet hdd.out); have n2 := hid (HR.out.quiet hdd.out); have n3 := hid (HS.out.frm hdd.out (fun h => h)); have n4 := hid (HB.out.trans (hdd.out.below HB.out.size (fun _ _ h => h))); have n5 := hid (HX.out.frm hdd.out (fun h => h))
                skip
                clear HQ HR HS HB HX hdd q0
                have HQ := n1; have HR := n2; have HS := n3; have HB := n4; have HX := n5
                clear n1 n2 n3 n4 n5
                refine wp_region_held_drew (S := fun wx => wx.cell? ⟨rb, 0, none⟩ = some (.slice va k vc) ∧ wx.cell? ⟨sb, 1, none⟩ = some (.int .u8 sc) ∧ wx.cell? ⟨sb, 2, none⟩ = some (.int .u32 st) ∧ wx.cell? ⟨sb, 3, none⟩ = some (.int .u8 sk) ∧ wx.cell? ⟨sb, 4, none⟩ = some (.int .u8 sy) ∧ wx.cell? ⟨sb, 5, none⟩ = some (.int .u16 sv)) (by kernel_rfl) ?_ (fun hHeld => ?_)
                · exact ⟨HR.out.blk.cell 0, HS.out.cell 1, HS.out.cell 2, HS.out.cell 3, HS.out.cell 4, HS.out.cell 5⟩
                refine wpAnyH_take (i := 0) (oi := ⟨some 84, _, _, _, _, _⟩) (v := ?v1) rfl (by kernel_rfl) (by kernel_rfl) (by kernel_rfl) (fun _ _ _ h => h) (Or.inl ⟨by rfl, ?y1⟩) (by assumption) ?r1
                case y1 => (intro wx hSx; (try dsimp only at hSx); go_simp; (try with_reducible rfl))
                try simp only [Act.put, List.setIfInBounds_toArray, List.set_cons_zero, List.set_cons_succ]
                refine wpAnyH_take (i := 2) (oi := ⟨some 86, _, _, _, _, _⟩) (v := ?v2) rfl (by kernel_rfl) (by kernel_rfl) (by kernel_rfl) (fun _ _ _ h => h) (Or.inl ⟨by rfl, ?y2⟩) (by assumption) ?r2
                case y2 => (intro wx hSx; (try dsimp only at hSx); go_simp; (try with_reducible rfl))
                try simp only [Act.put, List.setIfInBounds_toArray, List.set_cons_zero, List.set_cons_succ]
                refine wpAnyH_take (i := 3) (oi := ⟨some 87, _, _, _, _, _⟩) (v := ?v3) rfl (by kernel_rfl) (by kernel_rfl) (by kernel_rfl) (fun _ _ _ h => h) (Or.inl ⟨by rfl, ?y3⟩) (by assumption) ?r3
                case y3 => (intro wx hSx; (try dsimp only at hSx); go_simp; (try with_reducible rfl))
                try simp only [Act.put, List.setIfInBounds_toArray, List.set_cons_zero, List.set_cons_succ]
                refine wpAnyH_take (i := 4) (oi := ⟨some 88, _, _, _, _, _⟩) (v := ?v4) rfl (by kernel_rfl) (by kernel_rfl) (by kernel_rfl) (fun _ _ _ h => h) (Or.inl ⟨by rfl, ?y4⟩) (by assumption) ?r4
                case y4 => (intro wx hSx; (try dsimp only at hSx); go_simp; (try with_reducible rfl))
                try simp only [Act.put, List.setIfInBounds_toArray, List.set_cons_zero, List.set_cons_succ]
                refine wpAnyH_take (i := 5) (oi := ⟨some 89, _, _, _, _, _⟩) (v := ?v5) rfl (by kernel_rfl) (by kernel_rfl) (by kernel_rfl) (fun _ _ _ h => h) (Or.inl ⟨by rfl, ?y5⟩) (by assumption) ?r5
                case y5 => (intro wx hSx; (try dsimp only at hSx); go_simp; (try with_reducible rfl))
                try simp only [Act.put, List.setIfInBounds_toArray, List.set_cons_zero, List.set_cons_succ]
                refine wpAnyH_ready (rs := [1]) (by kernel_rfl) (by simp) ?_
                refine AllReadyH.cons (o := ⟨some 85, _, _, _, _, _⟩) rfl (fun K hK => ?_) AllReadyH.nil
                go_simp
                go_wp2_with ((go_at_call 10; (with_reducible refine (All_calls HQ.out).mono ?_); rintro e w8 ⟨aa, ac, rfl, ha, f'⟩; (rw [HN.out, HRR.out] at ha); (rw [HN.out]); have HA := hid ha; clear ha; have n0_ := hid (HQ.out.quiet f'); have n1_ := hid (HR.out.quiet f'); have n2_ := hid (HS.out.frm f' (fun h => h)); have n3_ := hid (HX.out.frm f' (fun h => h)); have n4_ := hid (HB.out.trans (f'.below HB.out.size (fun _ _ h => h))); clear HQ HR HS HX HB; have HQ := n0_; clear n0_; have HR := n1_; clear n1_; have HS := n2_; clear n2_; have HX := n3_; clear n3_; have HB := n4_; clear n4_; clear f'))
                refine hK.out _ _ ?_ (fun hHeld2 => ?_)
                · ((try dsimp only); (exact ⟨HR.out.blk.cell 0, HS.out.cell 1, HS.out.cell 2, HS.out.cell 3, HS.out.cell 4, HS.out.cell 5⟩))
                clear hK K hHeld; have hHeld := hHeld2; clear hHeld2
                try simp only [Act.put, List.setIfInBounds_toArray, List.set_cons_zero, List.set_cons_succ]
                refine wpAnyH_ready (rs := [6]) (by kernel_rfl) (by simp) ?_
                refine AllReadyH.cons (o := ⟨some 90, _, _, _, _, _⟩) rfl (fun K hK => ?_) AllReadyH.nil
                go_simp
                go_wp2_with ((go_at_call 17; (with_reducible refine (Reqs_calls HA.out.row5 HR.out.own.row5 HRL.out HN4.out).mono ?_); rintro e w9 ⟨rfl, f'⟩; have n0_ := hid (HQ.out.quiet f'); have n1_ := hid (HR.out.quiet f'); have n2_ := hid (HS.out.frm f' (fun h => h)); have n3_ := hid (HX.out.frm f' (fun h => h)); have n4_ := hid (HB.out.trans (f'.below HB.out.size (fun _ _ h => h))); clear HQ HR HS HX HB; have HQ := n0_; clear n0_; have HR := n1_; clear n1_; have HS := n2_; clear n2_; have HX := n3_; clear n3_; have HB := n4_; clear n4_; clear f'))
                refine hK.out _ _ ?_ (fun hHeld2 => ?_)
                · ((try dsimp only); (exact ⟨HR.out.blk.cell 0, HS.out.cell 1, HS.out.cell 2, HS.out.cell 3, HS.out.cell 4, HS.out.cell 5⟩))
                clear hK K hHeld; have hHeld := hHeld2; clear hHeld2
                try simp only [Act.put, List.setIfInBounds_toArray, List.set_cons_zero, List.set_cons_succ]
                refine wpAnyH_take (i := 7) (oi := ⟨some 91, _, _, _, _, _⟩) (v := ?v6) rfl (by kernel_rfl) (by kernel_rfl) (by kernel_rfl) (fun _ _ _ h => h) (Or.inl ⟨by rfl, ?y6⟩) (by assumption) ?r6
                case y6 => (intro wx hSx; (try dsimp only at hSx); go_simp; (try with_reducible rfl))
                try simp only [Act.put, List.setIfInBounds_toArray, List.set_cons_zero, List.set_cons_succ]
                refine wpAnyH_take (i := 8) (oi := ⟨some 92, _, _, _, _, _⟩) (v := ?v7) rfl (by kernel_rfl) (by kernel_rfl) (by kernel_rfl) (fun _ _ _ h => h) (Or.inl ⟨by rfl, ?y7⟩) (by assumption) ?r7
                case y7 => (intro wx hSx; (try dsimp only at hSx); go_simp; (try with_reducible rfl))
                try simp only [Act.put, List.setIfInBounds_toArray, List.set_cons_zero, List.set_cons_succ]
                refine wpAnyH_take (i := 9) (oi := ⟨some 93, _, _, _, _, _⟩) (v := ?v8) rfl (by kernel_rfl) (by kernel_rfl) (by kernel_rfl) (fun _ _ _ h => h) (Or.inl ⟨by rfl, ?y8⟩) (by assumption) ?r8
                case y8 => (intro wx hSx; (try dsimp only at hSx); go_simp; (try with_reducible rfl))
                try simp only [Act.put, List.setIfInBounds_toArray, List.set_cons_zero, List.set_cons_succ]
                refine wpAnyH_take (i := 11) (oi := ⟨some 95, _, _, _, _, _⟩) (v := ?v9) rfl (by kernel_rfl) (by kernel_rfl) (by kernel_rfl) (fun _ _ _ h => h) (Or.inl ⟨by rfl, ?y9⟩) (by assumption) ?r9
                case y9 => (intro wx hSx; (try dsimp only at hSx); go_simp; (try with_reducible rfl))
                try simp only [Act.put, List.setIfInBounds_toArray, List.set_cons_zero, List.set_cons_succ]
                refine wpAnyH_take (i := 12) (oi := ⟨some 96, _, _, _, _, _⟩) (v := ?v10) rfl (by kernel_rfl) (by kernel_rfl) (by kernel_rfl) (fun _ _ _ h => h) (Or.inl ⟨by rfl, ?y10⟩) (by assumption) ?r10
                case y10 => (intro wx hSx; (try dsimp only at hSx); go_simp; (try with_reducible rfl))
                try simp only [Act.put, List.setIfInBounds_toArray, List.set_cons_zero, List.set_cons_succ]
                refine wpAnyH_take (i := 13) (oi := ⟨some 97, _, _, _, _, _⟩) (v := ?v11) rfl (by kernel_rfl) (by kernel_rfl) (by kernel_rfl) (fun _ _ _ h => h) (Or.inl ⟨by rfl, ?y11⟩) (by assumption) ?r11
                case y11 => (intro wx hSx; (try dsimp only at hSx); go_simp; (try with_reducible rfl))
                try simp only [Act.put, List.setIfInBounds_toArray, List.set_cons_zero, List.set_cons_succ]
                refine wpAnyH_take (i := 14) (oi := ⟨some 98, _, _, _, _, _⟩) (v := ?v12) rfl (by kernel_rfl) (by kernel_rfl) (by kernel_rfl) (fun _ _ _ h => h) (Or.inl ⟨by rfl, ?y12⟩) (by assumption) ?r12
                case y12 => (intro wx hSx; (try dsimp only at hSx); go_simp; (try with_reducible rfl))
                try simp only [Act.put, List.setIfInBounds_toArray, List.set_cons_zero, List.set_cons_succ]
                refine wpAnyH_take (i := 15) (oi := ⟨some 99, _, _, _, _, _⟩) (v := ?v13) rfl (by kernel_rfl) (by kernel_rfl) (by kernel_rfl) (fun _ _ _ h => h) (Or.inl ⟨by rfl, ?y13⟩) (by assumption) ?r13
                case y13 => (intro wx hSx; (try dsimp only at hSx); go_simp; (try with_reducible rfl))
                try simp only [Act.put, List.setIfInBounds_toArray, List.set_cons_zero, List.set_cons_succ]
                refine wpAnyH_ready (rs := [10]) (by kernel_rfl) (by simp) ?_
                refine AllReadyH.cons (o := ⟨some 94, _, _, _, _, _⟩) rfl (fun K hK => ?_) AllReadyH.nil
                go_simp
                go_wp2_with ((go_at_call 11; (with_reducible refine (QLen_calls HQ.out).mono ?_); rintro e w' ⟨rfl, rfl⟩; (rw [HN.out])))
                refine hK.out _ _ ?_ (fun hHeld2 => ?_)
                · ((try dsimp only); (exact ⟨HR.out.blk.cell 0, HS.out.cell 1, HS.out.cell 2, HS.out.cell 3, HS.out.cell 4, HS.out.cell 5⟩))
                clear hK K hHeld; have hHeld := hHeld2; clear hHeld2
                try simp only [Act.put, List.setIfInBounds_toArray, List.set_cons_zero, List.set_cons_succ]
                refine wpAnyH_take (i := 16) (oi := ⟨some 100, _, _, _, _, _⟩) (v := ?v14) rfl (by kernel_rfl) (by kernel_rfl) (by kernel_rfl) (fun _ _ _ h => h) (Or.inl ⟨by rfl, ?y14⟩) (by assumption) ?r14
                case y14 => (intro wx hSx; (try dsimp only at hSx); go_simp; (try with_reducible rfl))
                try simp only [Act.put, List.setIfInBounds_toArray, List.set_cons_zero, List.set_cons_succ]
                refine wpAnyH_take (i := 17) (oi := ⟨some 101, _, _, _, _, _⟩) (v := ?v15) rfl (by kernel_rfl) (by kernel_rfl) (by kernel_rfl) (fun _ _ _ h => h) (Or.inl ⟨by rfl, ?y15⟩) (by assumption) ?r15
                case y15 => (intro wx hSx; (try dsimp only at hSx); go_simp; (try with_reducible rfl))
                try simp only [Act.put, List.setIfInBounds_toArray, List.set_cons_zero, List.set_cons_succ]
                refine wpAnyH_take (i := 18) (oi := ⟨some 102, _, _, _, _, _⟩) (v := ?v16) rfl (by kernel_rfl) (by kernel_rfl) (by kernel_rfl) (fun _ _ _ h => h) (Or.inl ⟨by rfl, ?y16⟩) (by assumption) ?r16
                case y16 => (intro wx hSx; (try dsimp only at hSx); go_simp; (try with_reducible rfl))
                try simp only [Act.put, List.setIfInBounds_toArray, List.set_cons_zero, List.set_cons_succ]
                refine wpAnyH_take (i := 19) (oi := ⟨some 103, _, _, _, _, _⟩) (v := ?v17) rfl (by kernel_rfl) (by kernel_rfl) (by kernel_rfl) (fun _ _ _ h => h) (Or.inl ⟨by rfl, ?y17⟩) (by assumption) ?r17
                case y17 => (intro wx hSx; (try dsimp only at hSx); go_simp; (try with_reducible rfl))
                try simp only [Act.put, List.setIfInBounds_toArray, List.set_cons_zero, List.set_cons_succ]
                refine wpAnyH_take (i := 20) (oi := ⟨some 104, _, _, _, _, _⟩) (v := ?v18) rfl (by kernel_rfl) (by kernel_rfl) (by kernel_rfl) (fun _ _ _ h => h) (Or.inl ⟨by rfl, ?y18⟩) (by assumption) ?r18
                case y18 => (intro wx hSx; (try dsimp only at hSx); go_simp; (try with_reducible rfl))
                try simp only [Act.put, List.setIfInBounds_toArray, List.set_cons_zero, List.set_cons_succ]
                refine wpAnyH_take (i := 21) (oi := ⟨some 105, _, _, _, _, _⟩) (v := ?v19) rfl (by kernel_rfl) (by kernel_rfl) (by kernel_rfl) (fun _ _ _ h => h) (Or.inl ⟨by rfl, ?y19⟩) (by assumption) ?r19
                case y19 => (intro wx hSx; (try dsimp only at hSx); go_simp; (try with_reducible rfl))
                try simp only [Act.put, List.setIfInBounds_toArray, List.set_cons_zero, List.set_cons_succ]
                refine wpAnyH_take (i := 22) (oi := ⟨some 106, _, _, _, _, _⟩) (v := ?v20) rfl (by kernel_rfl) (by kernel_rfl) (by kernel_rfl) (fun _ _ _ h => h) (Or.inl ⟨by rfl, ?y20⟩) (by assumption) ?r20
                case y20 => (intro wx hSx; (try dsimp only at hSx); go_simp; (try with_reducible rfl))
                try simp only [Act.put, List.setIfInBounds_toArray, List.set_cons_zero, List.set_cons_succ]
                refine wpAnyH_take (i := 23) (oi := ⟨some 107, _, _, _, _, _⟩) (v := ?v21) rfl (by kernel_rfl) (by kernel_rfl) (by kernel_rfl) (fun _ _ _ h => h) (Or.inl ⟨by rfl, ?y21⟩) (by assumption) ?r21
                case y21 => (intro wx hSx; (try dsimp only at hSx); go_simp; (try with_reducible rfl))
                try simp only [Act.put, List.setIfInBounds_toArray, List.set_cons_zero, List.set_cons_succ]
                refine wpAnyH_take (i := 24) (oi := ⟨some 108, _, _, _, _, _⟩) (v := ?v22) rfl (by kernel_rfl) (by kernel_rfl) (by kernel_rfl) (fun _ _ _ h => h) (Or.inl ⟨by rfl, ?y22⟩) (by assumption) ?r22
                case y22 => (intro wx hSx; (try dsimp only at hSx); go_simp; (try with_reducible rfl))
                try simp only [Act.put, List.setIfInBounds_toArray, List.set_cons_zero, List.set_cons_succ]
                refine wpAnyH_take (i := 25) (oi := ⟨some 109, _, _, _, _, _⟩) (v := ?v23) rfl (by kernel_rfl) (by kernel_rfl) (by kernel_rfl) (fun _ _ _ h => h) (Or.inl ⟨by rfl, ?y23⟩) (by assumption) ?r23
                case y23 => (intro wx hSx; (try dsimp only at hSx); go_simp; (try with_reducible rfl))
                try simp only [Act.put, List.setIfInBounds_toArray, List.set_cons_zero, List.set_cons_succ]
                refine wpAnyH_take (i := 26) (oi := ⟨some 110, _, _, _, _, _⟩) (v := ?v24) rfl (by kernel_rfl) (by kernel_rfl) (by kernel_rfl) (fun _ _ _ h => h) (Or.inl ⟨by rfl, ?y24⟩) (by assumption) ?r24
                case y24 => (intro wx hSx; (try dsimp only at hSx); go_simp; (try with_reducible rfl))
                try simp only [Act.put, List.setIfInBounds_toArray, List.set_cons_zero, List.set_cons_succ]
                refine wpAnyH_take (i := 27) (oi := ⟨some 111, _, _, _, _, _⟩) (v := ?v25) rfl (by kernel_rfl) (by kernel_rfl) (by kernel_rfl) (fun _ _ _ h => h) (Or.inl ⟨by rfl, ?y25⟩) (by assumption) ?r25
                case y25 => (intro wx hSx; (try dsimp only at hSx); go_simp; (try with_reducible rfl))
                try simp only [Act.put, List.setIfInBounds_toArray, List.set_cons_zero, List.set_cons_succ]
                refine wpAnyH_take (i := 28) (oi := ⟨some 112, _, _, _, _, _⟩) (v := ?v26) rfl (by kernel_rfl) (by kernel_rfl) (by kernel_rfl) (fun _ _ _ h => h) (Or.inl ⟨by rfl, ?y26⟩) (by assumption) ?r26
                case y26 => (intro wx hSx; (try dsimp only at hSx); go_simp; (try with_reducible rfl))
                try simp only [Act.put, List.setIfInBounds_toArray, List.set_cons_zero, List.set_cons_succ]
                refine wpAnyH_take (i := 29) (oi := ⟨some 113, _, _, _, _, _⟩) (v := ?v27) rfl (by kernel_rfl) (by kernel_rfl) (by kernel_rfl) (fun _ _ _ h => h) (Or.inl ⟨by rfl, ?y27⟩) (by assumption) ?r27
                case y27 => (intro wx hSx; (try dsimp only at hSx); go_simp; (try with_reducible rfl))
                try simp only [Act.put, List.setIfInBounds_toArray, List.set_cons_zero, List.set_cons_succ]
                refine wpAnyH_take (i := 30) (oi := ⟨some 114, _, _, _, _, _⟩) (v := ?v28) rfl (by kernel_rfl) (by kernel_rfl) (by kernel_rfl) (fun _ _ _ h => h) (Or.inl ⟨by rfl, ?y28⟩) (by assumption) ?r28
                case y28 => (intro wx hSx; (try dsimp only at hSx); go_simp; (try with_reducible rfl))
                try simp only [Act.put, List.setIfInBounds_toArray, List.set_cons_zero, List.set_cons_succ]
                refine wpAnyH_take (i := 31) (oi := ⟨some 115, _, _, _, _, _⟩) (v := undef) rfl (by kernel_rfl) (by kernel_rfl) (by kernel_rfl) (fun _ _ _ h => h) (Or.inr ⟨by rfl, rfl⟩) (by assumption) ?_
                try simp only [Act.put, List.setIfInBounds_toArray, List.set_cons_zero, List.set_cons_succ]
                refine wpAnyH_take (i := 32) (oi := ⟨some 116, _, _, _, _, _⟩) (v := undef) rfl (by kernel_rfl) (by kernel_rfl) (by kernel_rfl) (fun _ _ _ h => h) (Or.inr ⟨by rfl, rfl⟩) (by assumption) ?_
                try simp only [Act.put, List.setIfInBounds_toArray, List.set_cons_zero, List.set_cons_succ]
                refine wpAnyH_take (i := 33) (oi := ⟨some 117, _, _, _, _, _⟩) (v := undef) rfl (by kernel_rfl) (by kernel_rfl) (by kernel_rfl) (fun _ _ _ h => h) (Or.inr ⟨by rfl, rfl⟩) (by assumption) ?_
                try simp only [Act.put, List.setIfInBounds_toArray, List.set_cons_zero, List.set_cons_succ]
                refine wpAnyH_take (i := 34) (oi := ⟨some 118, _, _, _, _, _⟩) (v := undef) rfl (by kernel_rfl) (by kernel_rfl) (by kernel_rfl) (fun _ _ _ h => h) (Or.inr ⟨by rfl, rfl⟩) (by assumption) ?_
                try simp only [Act.put, List.setIfInBounds_toArray, List.set_cons_zero, List.set_cons_succ]
                refine wpAnyH_take (i := 35) (oi := ⟨some 119, _, _, _, _, _⟩) (v := undef) rfl (by kernel_rfl) (by kernel_rfl) (by kernel_rfl) (fun _ _ _ h => h) (Or.inr ⟨by rfl, rfl⟩) (by assumption) ?_
                try simp only [Act.put, List.setIfInBounds_toArray, List.set_cons_zero, List.set_cons_succ]
                refine wpAnyH_take (i := 36) (oi := ⟨some 120, _, _, _, _, _⟩) (v := undef) rfl (by kernel_rfl) (by kernel_rfl) (by kernel_rfl) (fun _ _ _ h => h) (Or.inr ⟨by rfl, rfl⟩) (by assumption) ?_
                try simp only [Act.put, List.setIfInBounds_toArray, List.set_cons_zero, List.set_cons_succ]
                refine wpAnyH_take (i := 37) (oi := ⟨some 121, _, _, _, _, _⟩) (v := undef) rfl (by kernel_rfl) (by kernel_rfl) (by kernel_rfl) (fun _ _ _ h => h) (Or.inr ⟨by rfl, rfl⟩) (by assumption) ?_
                try simp only [Act.put, List.setIfInBounds_toArray, List.set_cons_zero, List.set_cons_succ]
                refine wpAnyH_take (i := 38) (oi := ⟨some 122, _, _, _, _, _⟩) (v := undef) rfl (by kernel_rfl) (by kernel_rfl) (by kernel_rfl) (fun _ _ _ h => h) (Or.inr ⟨by rfl, rfl⟩) (by assumption) ?_
                try simp only [Act.put, List.setIfInBounds_toArray, List.set_cons_zero, List.set_cons_succ]
                refine wpAnyH_take (i := 39) (oi := ⟨some 123, _, _, _, _, _⟩) (v := ?v29) rfl (by kernel_rfl) (by kernel_rfl) (by kernel_rfl) (fun _ _ _ h => h) (Or.inl ⟨by rfl, ?y29⟩) (by assumption) ?r29
                case y29 => (intro wx hSx; (try dsimp only at hSx); go_simp; (try with_reducible rfl))
                try simp only [Act.put, List.setIfInBounds_toArray, List.set_cons_zero, List.set_cons_succ]
                refine wpAnyH_take (i := 40) (oi := ⟨some 124, _, _, _, _, _⟩) (v := ?v30) rfl (by kernel_rfl) (by kernel_rfl) (by kernel_rfl) (fun _ _ _ h => h) (Or.inl ⟨by rfl, ?y30⟩) (by assumption) ?r30
                case y30 => (intro wx hSx; (try dsimp only at hSx); go_simp; (try with_reducible rfl))
                try simp only [Act.put, List.setIfInBounds_toArray, List.set_cons_zero, List.set_cons_succ]
                refine wpAnyH_take (i := 41) (oi := ⟨some 125, _, _, _, _, _⟩) (v := ?v31) rfl (by kernel_rfl) (by kernel_rfl) (by kernel_rfl) (fun _ _ _ h => h) (Or.inl ⟨by rfl, ?y31⟩) (by assumption) ?r31
                case y31 => (intro wx hSx; (try dsimp only at hSx); go_simp; (try with_reducible rfl))
                try simp only [Act.put, List.setIfInBounds_toArray, List.set_cons_zero, List.set_cons_succ]
                refine wpAnyH_take (i := 42) (oi := ⟨some 126, _, _, _, _, _⟩) (v := ?v32) rfl (by kernel_rfl) (by kernel_rfl) (by kernel_rfl) (fun _ _ _ h => h) (Or.inl ⟨by rfl, ?y32⟩) (by assumption) ?r32
                case y32 => (intro wx hSx; (try dsimp only at hSx); go_simp; (try with_reducible rfl))
                try simp only [Act.put, List.setIfInBounds_toArray, List.set_cons_zero, List.set_cons_succ]
                refine wpAnyH_take (i := 43) (oi := ⟨some 127, _, _, _, _, _⟩) (v := ?v33) rfl (by kernel_rfl) (by kernel_rfl) (by kernel_rfl) (fun _ _ _ h => h) (Or.inl ⟨by rfl, ?y33⟩) (by assumption) ?r33
                case y33 => (intro wx hSx; (try dsimp only at hSx); go_simp; (try with_reducible rfl))
                try simp only [Act.put, List.setIfInBounds_toArray, List.set_cons_zero, List.set_cons_succ]
                refine wpAnyH_take (i := 44) (oi := ⟨some 128, _, _, _, _, _⟩) (v := ?v34) rfl (by kernel_rfl) (by kernel_rfl) (by kernel_rfl) (fun _ _ _ h => h) (Or.inl ⟨by rfl, ?y34⟩) (by assumption) ?r34
                case y34 => (intro wx hSx; (try dsimp only at hSx); go_simp; (try with_reducible rfl))
                try simp only [Act.put, List.setIfInBounds_toArray, List.set_cons_zero, List.set_cons_succ]
                refine wpAnyH_take (i := 46) (oi := ⟨some 130, _, _, _, _, _⟩) (v := ?v35) rfl (by kernel_rfl) (by kernel_rfl) (by kernel_rfl) (fun _ _ _ h => h) (Or.inl ⟨by rfl, ?y35⟩) (by assumption) ?r35
                case y35 => (intro wx hSx; (try dsimp only at hSx); go_simp; (try with_reducible rfl))
                try simp only [Act.put, List.setIfInBounds_toArray, List.set_cons_zero, List.set_cons_succ]
                refine wpAnyH_ready (rs := [45]) (by kernel_rfl) (by simp) ?_
                refine AllReadyH.cons (o := ⟨some 129, _, _, _, _, _⟩) rfl (fun K hK => ?_) AllReadyH.nil
                go_simp
                go_wp2_with ((go_at_call 12; (with_reducible refine (QHas_calls HQ.out ⟨sc, st, sk, sy, sv⟩ HRO.out z HHZ.out).mono ?_); rintro e w10 ⟨rfl, f'⟩; have n0_ := hid (HQ.out.quiet f'); have n1_ := hid (HR.out.quiet f'); have n2_ := hid (HS.out.frm f' (fun h => h)); have n3_ := hid (HX.out.frm f' (fun h => h)); have n4_ := hid (HB.out.trans (f'.below HB.out.size (fun _ _ h => h))); clear HQ HR HS HX HB; have HQ := n0_; clear n0_; have HR := n1_; clear n1_; have HS := n2_; clear n2_; have HX := n3_; clear n3_; have HB := n4_; clear n4_; clear f'))
                refine hK.out _ _ ?_ (fun hHeld2 => ?_)
                · ((try dsimp only); (exact ⟨HR.out.blk.cell 0, HS.out.cell 1, HS.out.cell 2, HS.out.cell 3, HS.out.cell 4, HS.out.cell 5⟩))
                clear hK K hHeld; have hHeld := hHeld2; clear hHeld2
                try simp only [Act.put, List.setIfInBounds_toArray, List.set_cons_zero, List.set_cons_succ]
                refine wpAnyH_take (i := 47) (oi := ⟨some 131, _, _, _, _, _⟩) (v := ?v36) rfl (by kernel_rfl) (by kernel_rfl) (by kernel_rfl) (fun _ _ _ h => h) (Or.inl ⟨by rfl, ?y36⟩) (by assumption) ?r36
                case y36 => (intro wx hSx; (try dsimp only at hSx); go_simp; (try with_reducible rfl))
                try simp only [Act.put, List.setIfInBounds_toArray, List.set_cons_zero, List.set_cons_succ]
                refine wpAnyH_take (i := 48) (oi := ⟨some 132, _, _, _, _, _⟩) (v := ?v37) rfl (by kernel_rfl) (by kernel_rfl) (by kernel_rfl) (fun _ _ _ h => h) (Or.inl ⟨by rfl, ?y37⟩) (by assumption) ?r37
                case y37 => (intro wx hSx; (try dsimp only at hSx); go_simp; (try with_reducible rfl))
                try simp only [Act.put, List.setIfInBounds_toArray, List.set_cons_zero, List.set_cons_succ]
                refine wpAnyH_take (i := 49) (oi := ⟨some 133, _, _, _, _, _⟩) (v := ?v38) rfl (by kernel_rfl) (by kernel_rfl) (by kernel_rfl) (fun _ _ _ h => h) (Or.inl ⟨by rfl, ?y38⟩) (by assumption) ?r38
                case y38 => (intro wx hSx; (try dsimp only at hSx); go_simp; (try with_reducible rfl))
                try simp only [Act.put, List.setIfInBounds_toArray, List.set_cons_zero, List.set_cons_succ]
                refine wpAnyH_take (i := 50) (oi := ⟨some 134, _, _, _, _, _⟩) (v := ?v39) rfl (by kernel_rfl) (by kernel_rfl) (by kernel_rfl) (fun _ _ _ h => h) (Or.inl ⟨by rfl, ?y39⟩) (by assumption) ?r39
                case y39 => (intro wx hSx; (try dsimp only at hSx); go_simp; (try with_reducible rfl))
                try simp only [Act.put, List.setIfInBounds_toArray, List.set_cons_zero, List.set_cons_succ]
                refine wpAnyH_take (i := 51) (oi := ⟨some 135, _, _, _, _, _⟩) (v := ?v40) rfl (by kernel_rfl) (by kernel_rfl) (by kernel_rfl) (fun _ _ _ h => h) (Or.inl ⟨by rfl, ?y40⟩) (by assumption) ?r40
                case y40 => (intro wx hSx; (try dsimp only at hSx); go_simp; (try with_reducible rfl))
                try simp only [Act.put, List.setIfInBounds_toArray, List.set_cons_zero, List.set_cons_succ]
                refine wpAnyH_take (i := 52) (oi := ⟨some 136, _, _, _, _, _⟩) (v := ?v41) rfl (by kernel_rfl) (by kernel_rfl) (by kernel_rfl) (fun _ _ _ h => h) (Or.inl ⟨by rfl, ?y41⟩) (by assumption) ?r41
                case y41 => (intro wx hSx; (try dsimp only at hSx); go_simp; (try with_reducible rfl))
                try simp only [Act.put, List.setIfInBounds_toArray, List.set_cons_zero, List.set_cons_succ]
                refine wpAnyH_take (i := 53) (oi := ⟨some 137, _, _, _, _, _⟩) (v := ?v42) rfl (by kernel_rfl) (by kernel_rfl) (by kernel_rfl) (fun _ _ _ h => h) (Or.inl ⟨by rfl, ?y42⟩) (by assumption) ?r42
                case y42 => (intro wx hSx; (try dsimp only at hSx); go_simp; (try with_reducible rfl))
                try simp only [Act.put, List.setIfInBounds_toArray, List.set_cons_zero, List.set_cons_succ]
                refine wpAnyH_take (i := 54) (oi := ⟨some 138, _, _, _, _, _⟩) (v := ?v43) rfl (by kernel_rfl) (by kernel_rfl) (by kernel_rfl) (fun _ _ _ h => h) (Or.inl ⟨by rfl, ?y43⟩) (by assumption) ?r43
                case y43 => (intro wx hSx; (try dsimp only at hSx); go_simp; (try with_reducible rfl))
                try simp only [Act.put, List.setIfInBounds_toArray, List.set_cons_zero, List.set_cons_succ]
                refine wpAnyH_take (i := 55) (oi := ⟨some 139, _, _, _, _, _⟩) (v := ?v44) rfl (by kernel_rfl) (by kernel_rfl) (by kernel_rfl) (fun _ _ _ h => h) (Or.inl ⟨by rfl, ?y44⟩) (by assumption) ?r44
                case y44 => (intro wx hSx; (try dsimp only at hSx); go_simp; (try with_reducible rfl))
                try simp only [Act.put, List.setIfInBounds_toArray, List.set_cons_zero, List.set_cons_succ]
                refine wpAnyH_take (i := 56) (oi := ⟨some 140, _, _, _, _, _⟩) (v := ?v45) rfl (by kernel_rfl) (by kernel_rfl) (by kernel_rfl) (fun _ _ _ h => h) (Or.inl ⟨by rfl, ?y45⟩) (by assumption) ?r45
                case y45 => (intro wx hSx; (try dsimp only at hSx); go_simp; (try with_reducible rfl))
                try simp only [Act.put, List.setIfInBounds_toArray, List.set_cons_zero, List.set_cons_succ]
                refine wpAnyH_done (by kernel_rfl) ?_ _
                go_wp2
                go_roundg (len - (i + 1))
                case measure => have := HLT.out; omega
                case rel => exact ⟨i + 1, ([] : List Qe), n2, _, by have := HLT.out; omega, rfl, by go_num, HQ.out, by have := HNI.out; have := HN2.out; omega, by rw [HRR.out]; exact HR.out, HB.out⟩
          · obtain ⟨va, vc, hv2⟩ := HR2.out.own.slice
            (rw [List.length_map] at hv2)
            subst hv2
            obtain ⟨N, hN⟩ : ∃ N, ((⟨⟨xc, xt, xk, xy, xv⟩, xs⟩ : Qe) :: L3).length = N := ⟨_, rfl⟩
            have HN := hid hN
            rw [hN] at HR2
            have HN4 := hid (show N ≤ 4 by rw [← hN]; exact HQ2.out.inv.few)
            have hn4 : (N : Int) ≤ 4 := by have := HN4.out; omega
            have hn0 : (0 : Int) ≤ (N : Int) := by omega
            have hnp : (0 : Int) < (N : Int) := by rw [← hN, List.length_cons]; omega
            have hnb : decide ((0 : Int) < (N : Int)) = true := decide_eq_true hnp
            have hnb2 : decide (0 < N) = true := decide_eq_true (by omega)
            have hnp2 : 0 < N := by omega
            clear hN
            obtain ⟨RR, hRR⟩ : ∃ RR, ((⟨⟨xc, xt, xk, xy, xv⟩, xs⟩ : Qe) :: L3).map (·.1) = RR := ⟨_, rfl⟩
            have HRR := hid hRR
            have HRL := hid (show RR.length = N by rw [← hRR, List.length_map]; exact HN.out)
            have HAY := hid (fun r => (hRR ▸ hasB_iff HQ2.out.inv r : hasB ((⟨⟨xc, xt, xk, xy, xv⟩, xs⟩ : Qe) :: L3) r = RR.any (·.eqb r)))
            rw [hRR] at HR2
            obtain ⟨vg, hva, hvc⟩ := (HR2.out.own.row5).at_ (by rw [← hRR]; simp)
            subst hva
            have HVC := hid (hvc 0 ⟨xc, xt, xk, xy, xv⟩ (by rw [← hRR]; rfl))
            clear hvc
            clear hRR
            go_wp2_with (go_at_call 16; (with_reducible refine (First_some HQ2.out).mono ?_); rintro e w7 ⟨rfl, f'⟩; have n1 := hid ((HQ2.out.quiet f').quiet (qbox w7 (.cells #[.int .u8 xc, .int .u32 xt, .int .u8 xk, .int .u8 xy, .int .u16 xv] TRq))); have n2 := hid ((HR2.out.quiet f').quiet (qbox w7 (.cells #[.int .u8 xc, .int .u32 xt, .int .u8 xk, .int .u8 xy, .int .u16 xv] TRq))); have n3 := hid ((HS2.out.frm f' (fun h => h)).frm (qbox w7 (.cells #[.int .u8 xc, .int .u32 xt, .int .u8 xk, .int .u8 xy, .int .u16 xv] TRq)) (fun h => h)); have n4 := hid ((HB2.out.trans (f'.below HB2.out.size (fun _ _ h => h))).trans ((qbox w7 (.cells #[.int .u8 xc, .int .u32 xt, .int .u8 xk, .int .u8 xy, .int .u16 xv] TRq)).below (Nat.le_trans HB2.out.size f'.size) (fun _ _ h => h))); have n5 := hid (Blk.new w7 [.int .u8 xc, .int .u32 xt, .int .u8 xk, .int .u8 xy, .int .u16 xv] TRq); have q0 := fun o => ((HR2.out.quiet f').quiet (qbox w7 o)).blk.cell 0; (simp only [List.getElem?_cons_zero] at q0); clear HQ2 HR2 HS2 HB2 f'; have HQ := n1; have HR := n2; have HS := n3; have HB := n4; have HX := n5; clear n1 n2 n3 n4 n5)
            clear q0
            generalize w7.alloc (.cells #[.int .u8 xc, .int .u32 xt, .int .u8 xk, .int .u8 xy, .int .u16 xv] TRq) = we at *
            generalize w7.heap.size = xb at *
            go_loopw [9, 10] (fun hv kv wr => ∃ (k : Nat), k ≤ N ∧ kv = .int .i64 k ∧ hv = .bool (anyR (RR.take k) ⟨sc, st, sk, sy, sv⟩) ∧ Frm (fun _ => False) we wr) (fun _ k _ => N - (intOf k).toNat)
            case atStart => exact ⟨0, Nat.zero_le _, rfl, rfl, Frm.refl _ _⟩
            case round =>
              obtain ⟨k, hk, rfl, rfl, hf⟩ := hrel
              generalize wr = wl at *
              have HFL := hid hf
              clear hf
              have q0 := (HR.out.blk.frm HFL.out (fun h => h)).cell 0
              simp only [List.getElem?_cons_zero] at q0
              by_cases hkl : k < N
              · have HKL := hid hkl
                obtain ⟨y, hy⟩ : ∃ y, RR[k]? = some y := ⟨_, List.getElem?_eq_getElem (by rw [HRL.out]; exact hkl)⟩
                obtain ⟨vg', hva', hvc'⟩ := ((HR.out.own.quiet HFL.out).row5).at_ (by rw [HRL.out]; omega)
                injection hva' with hva'
                injection hva' with hva'
                subst hva'
                have HST := hid (anyR_step ⟨sc, st, sk, sy, sv⟩ hy)
                obtain ⟨yc, yt, yk, yy, yv⟩ := y
                have y0 := hvc' k _ hy 0 (by decide); have y1 := hvc' k _ hy 1 (by decide); have y2 := hvc' k _ hy 2 (by decide); have y3 := hvc' k _ hy 3 (by decide); have y4 := hvc' k _ hy 4 (by decide)
                simp only [rqC, List.getElem?_cons_succ, List.getElem?_cons_zero, Nat.add_zero] at y0 y1 y2 y3 y4
                have HS' := hid (HS.out.frm HFL.out (fun h => h))
                have hki : (k : Int) < (N : Int) := by omega
                have hk0 : (0 : Int) ≤ (k : Int) := by omega
                obtain ⟨z, hz⟩ : ∃ z, (⟨yc, yt, yk, yy, yv⟩ : Rq).eqb ⟨sc, st, sk, sy, sv⟩ = z := ⟨_, rfl⟩
                rw [hz] at HST
                have heq := fun w => eqlRq w yc yt yk yy yv sc st sk sy sv z hz
                obtain ⟨e, he⟩ : ∃ e, anyR (RR.take k) ⟨sc, st, sk, sy, sv⟩ = e := ⟨_, rfl⟩
                have HE := hid he
                rw [he]
                clear hy hvc' hk hkl hz he
                cases e
                · go_wp2_with fail
                  refine wp_region_held_drew (S := fun wx => wx.cell? ⟨rb, 0, none⟩ = some (.slice (some ⟨vg, 0, none⟩) N vc) ∧ wx.cell? ⟨vg, k * 5, none⟩ = some (.int .u8 yc) ∧ wx.cell? ⟨vg, k * 5 + 1, none⟩ = some (.int .u32 yt) ∧ wx.cell? ⟨vg, k * 5 + 2, none⟩ = some (.int .u8 yk) ∧ wx.cell? ⟨vg, k * 5 + 3, none⟩ = some (.int .u8 yy) ∧ wx.cell? ⟨vg, k * 5 + 4, none⟩ = some (.int .u16 yv) ∧ wx.cell? ⟨sb, 1, none⟩ = some (.int .u8 sc) ∧ wx.cell? ⟨sb, 2, none⟩ = some (.int .u32 st) ∧ wx.cell? ⟨sb, 3, none⟩ = some (.int .u8 sk) ∧ wx.cell? ⟨sb, 4, none⟩ = some (.int .u8 sy) ∧ wx.cell? ⟨sb, 5, none⟩ = some (.int .u16 sv)) (by kernel_rfl) ?_ (fun hHeld => ?_)
                  · exact ⟨q0, y0, y1, y2, y3, y4, HS'.out.cell 1, HS'.out.cell 2, HS'.out.cell 3, HS'.out.cell 4, HS'.out.cell 5⟩
                  refine wpAnyH_take (i := 0) (oi := ⟨some 71, _, _, _, _, _⟩) (v := ?v99) rfl (by kernel_rfl) (by kernel_rfl) (by kernel_rfl) (fun _ _ _ h => h) (Or.inl ⟨by rfl, ?y99⟩) (by assumption) ?r99
                  case y99 => (intro wx hSx; (try dsimp only at hSx); go_simp; (try with_reducible rfl))
                  try simp only [Act.put, List.setIfInBounds_toArray, List.set_cons_zero, List.set_cons_succ]
                  refine wpAnyH_take (i := 1) (oi := ⟨some 72, _, _, _, _, _⟩) (v := ?v100) rfl (by kernel_rfl) (by kernel_rfl) (by kernel_rfl) (fun _ _ _ h => h) (Or.inl ⟨by rfl, ?y100⟩) (by assumption) ?r100
                  case y100 => (intro wx hSx; (try dsimp only at hSx); go_simp; (try with_reducible rfl))
                  try simp only [Act.put, List.setIfInBounds_toArray, List.set_cons_zero, List.set_cons_succ]
                  refine wpAnyH_take (i := 2) (oi := ⟨some 73, _, _, _, _, _⟩) (v := ?v101) rfl (by kernel_rfl) (by kernel_rfl) (by kernel_rfl) (fun _ _ _ h => h) (Or.inl ⟨by rfl, ?y101⟩) (by assumption) ?r101
                  case y101 => (intro wx hSx; (try dsimp only at hSx); go_simp; (try with_reducible rfl))
                  try simp only [Act.put, List.setIfInBounds_toArray, List.set_cons_zero, List.set_cons_succ]
                  refine wpAnyH_take (i := 3) (oi := ⟨some 74, _, _, _, _, _⟩) (v := ?v102) rfl (by kernel_rfl) (by kernel_rfl) (by kernel_rfl) (fun _ _ _ h => h) (Or.inl ⟨by rfl, ?y102⟩) (by assumption) ?r102
                  case y102 => (intro wx hSx; (try dsimp only at hSx); go_simp; (try with_reducible rfl))
                  try simp only [Act.put, List.setIfInBounds_toArray, List.set_cons_zero, List.set_cons_succ]
                  refine wpAnyH_take (i := 4) (oi := ⟨some 75, _, _, _, _, _⟩) (v := ?v103) rfl (by kernel_rfl) (by kernel_rfl) (by kernel_rfl) (fun _ _ _ h => h) (Or.inl ⟨by rfl, ?y103⟩) (by assumption) ?r103
                  case y103 => (intro wx hSx; (try dsimp only at hSx); go_simp; (try with_reducible rfl))
                  try simp only [Act.put, List.setIfInBounds_toArray, List.set_cons_zero, List.set_cons_succ]
                  refine wpAnyH_take (i := 5) (oi := ⟨some 76, _, _, _, _, _⟩) (v := ?v104) rfl (by kernel_rfl) (by kernel_rfl) (by kernel_rfl) (fun _ _ _ h => h) (Or.inl ⟨by rfl, ?y104⟩) (by assumption) ?r104
                  case y104 => (intro wx hSx; (try dsimp only at hSx); go_simp; (try with_reducible rfl))
                  try simp only [Act.put, List.setIfInBounds_toArray, List.set_cons_zero, List.set_cons_succ]
                  refine wpAnyH_take (i := 6) (oi := ⟨some 77, _, _, _, _, _⟩) (v := ?v105) rfl (by kernel_rfl) (by kernel_rfl) (by kernel_rfl) (fun _ _ _ h => h) (Or.inl ⟨by rfl, ?y105⟩) (by assumption) ?r105
                  case y105 => (intro wx hSx; (try dsimp only at hSx); go_simp; (try with_reducible rfl))
                  try simp only [Act.put, List.setIfInBounds_toArray, List.set_cons_zero, List.set_cons_succ]
                  refine wpAnyH_take (i := 7) (oi := ⟨some 78, _, _, _, _, _⟩) (v := ?v106) rfl (by kernel_rfl) (by kernel_rfl) (by kernel_rfl) (fun _ _ _ h => h) (Or.inl ⟨by rfl, ?y106⟩) (by assumption) ?r106
                  case y106 => (intro wx hSx; (try dsimp only at hSx); go_simp; (try with_reducible rfl))
                  try simp only [Act.put, List.setIfInBounds_toArray, List.set_cons_zero, List.set_cons_succ]
                  refine wpAnyH_take (i := 8) (oi := ⟨some 79, _, _, _, _, _⟩) (v := ?v107) rfl (by kernel_rfl) (by kernel_rfl) (by kernel_rfl) (fun _ _ _ h => h) (Or.inl ⟨by rfl, ?y107⟩) (by assumption) ?r107
                  case y107 => (intro wx hSx; (try dsimp only at hSx); go_simp; (try with_reducible rfl))
                  try simp only [Act.put, List.setIfInBounds_toArray, List.set_cons_zero, List.set_cons_succ]
                  refine wpAnyH_take (i := 9) (oi := ⟨some 80, _, _, _, _, _⟩) (v := ?v108) rfl (by kernel_rfl) (by kernel_rfl) (by kernel_rfl) (fun _ _ _ h => h) (Or.inl ⟨by rfl, ?y108⟩) (by assumption) ?r108
                  case y108 => (intro wx hSx; (try dsimp only at hSx); go_simp; (try with_reducible rfl))
                  try simp only [Act.put, List.setIfInBounds_toArray, List.set_cons_zero, List.set_cons_succ]
                  refine wpAnyH_take (i := 10) (oi := ⟨some 81, _, _, _, _, _⟩) (v := ?v109) rfl (by kernel_rfl) (by kernel_rfl) (by kernel_rfl) (fun _ _ _ h => h) (Or.inl ⟨by rfl, ?y109⟩) (by assumption) ?r109
                  case y109 => (intro wx hSx; (try dsimp only at hSx); go_simp; (try with_reducible rfl))
                  try simp only [Act.put, List.setIfInBounds_toArray, List.set_cons_zero, List.set_cons_succ]
                  refine wpAnyH_take (i := 11) (oi := ⟨some 82, _, _, _, _, _⟩) (v := ?v110) rfl (by kernel_rfl) (by kernel_rfl) (by kernel_rfl) (fun _ _ _ h => h) (Or.inl ⟨by rfl, ?y110⟩) (by assumption) ?r110
                  case y110 => (intro wx hSx; (try dsimp only at hSx); go_simp; (try with_reducible rfl))
                  try simp only [Act.put, List.setIfInBounds_toArray, List.set_cons_zero, List.set_cons_succ]
                  refine wpAnyH_take (i := 12) (oi := ⟨some 83, _, _, _, _, _⟩) (v := ?v111) rfl (by kernel_rfl) (by kernel_rfl) (by kernel_rfl) (fun _ _ _ h => h) (Or.inl ⟨by rfl, ?y111⟩) (by assumption) ?r111
                  case y111 => (intro wx hSx; (try dsimp only at hSx); go_simp; (try with_reducible rfl))
                  try simp only [Act.put, List.setIfInBounds_toArray, List.set_cons_zero, List.set_cons_succ]
                  refine wpAnyH_take (i := 13) (oi := ⟨some 9, _, _, _, _, _⟩) (v := ?v112) rfl (by kernel_rfl) (by kernel_rfl) (by kernel_rfl) (fun _ _ _ h => h) (Or.inl ⟨by rfl, ?y112⟩) (by assumption) ?r112
                  case y112 => (intro wx hSx; (try dsimp only at hSx); go_simp; (try with_reducible rfl))
                  try simp only [Act.put, List.setIfInBounds_toArray, List.set_cons_zero, List.set_cons_succ]
                  refine wpAnyH_done (by kernel_rfl) ?_ _
                  go_wp2
                  go_roundw
                  case rel => exact ⟨k + 1, by have := HKL.out; omega, by go_num, by rw [HST.out, HE.out]; rfl, HFL.out.drew⟩
                  case measure => have := HKL.out; simp [intOf]; omega
                · go_wp2_with fail
                  refine wp_region_held_drew (S := fun wx => wx.cell? ⟨rb, 0, none⟩ = some (.slice (some ⟨vg, 0, none⟩) N vc) ∧ wx.cell? ⟨vg, k * 5, none⟩ = some (.int .u8 yc) ∧ wx.cell? ⟨vg, k * 5 + 1, none⟩ = some (.int .u32 yt) ∧ wx.cell? ⟨vg, k * 5 + 2, none⟩ = some (.int .u8 yk) ∧ wx.cell? ⟨vg, k * 5 + 3, none⟩ = some (.int .u8 yy) ∧ wx.cell? ⟨vg, k * 5 + 4, none⟩ = some (.int .u16 yv) ∧ wx.cell? ⟨sb, 1, none⟩ = some (.int .u8 sc) ∧ wx.cell? ⟨sb, 2, none⟩ = some (.int .u32 st) ∧ wx.cell? ⟨sb, 3, none⟩ = some (.int .u8 sk) ∧ wx.cell? ⟨sb, 4, none⟩ = some (.int .u8 sy) ∧ wx.cell? ⟨sb, 5, none⟩ = some (.int .u16 sv)) (by kernel_rfl) ?_ (fun hHeld => ?_)
                  · exact ⟨q0, y0, y1, y2, y3, y4, HS'.out.cell 1, HS'.out.cell 2, HS'.out.cell 3, HS'.out.cell 4, HS'.out.cell 5⟩
                  refine wpAnyH_take (i := 0) (oi := ⟨some 71, _, _, _, _, _⟩) (v := ?v113) rfl (by kernel_rfl) (by kernel_rfl) (by kernel_rfl) (fun _ _ _ h => h) (Or.inl ⟨by rfl, ?y113⟩) (by assumption) ?r113
                  case y113 => (intro wx hSx; (try dsimp only at hSx); go_simp; (try with_reducible rfl))
                  try simp only [Act.put, List.setIfInBounds_toArray, List.set_cons_zero, List.set_cons_succ]
                  refine wpAnyH_take (i := 1) (oi := ⟨some 72, _, _, _, _, _⟩) (v := ?v114) rfl (by kernel_rfl) (by kernel_rfl) (by kernel_rfl) (fun _ _ _ h => h) (Or.inl ⟨by rfl, ?y114⟩) (by assumption) ?r114
                  case y114 => (intro wx hSx; (try dsimp only at hSx); go_simp; (try with_reducible rfl))
                  try simp only [Act.put, List.setIfInBounds_toArray, List.set_cons_zero, List.set_cons_succ]
                  refine wpAnyH_take (i := 2) (oi := ⟨some 73, _, _, _, _, _⟩) (v := undef) rfl (by kernel_rfl) (by kernel_rfl) (by kernel_rfl) (fun _ _ _ h => h) (Or.inr ⟨by rfl, rfl⟩) (by assumption) ?_
                  try simp only [Act.put, List.setIfInBounds_toArray, List.set_cons_zero, List.set_cons_succ]
                  refine wpAnyH_take (i := 3) (oi := ⟨some 74, _, _, _, _, _⟩) (v := undef) rfl (by kernel_rfl) (by kernel_rfl) (by kernel_rfl) (fun _ _ _ h => h) (Or.inr ⟨by rfl, rfl⟩) (by assumption) ?_
                  try simp only [Act.put, List.setIfInBounds_toArray, List.set_cons_zero, List.set_cons_succ]
                  refine wpAnyH_take (i := 4) (oi := ⟨some 75, _, _, _, _, _⟩) (v := undef) rfl (by kernel_rfl) (by kernel_rfl) (by kernel_rfl) (fun _ _ _ h => h) (Or.inr ⟨by rfl, rfl⟩) (by assumption) ?_
                  try simp only [Act.put, List.setIfInBounds_toArray, List.set_cons_zero, List.set_cons_succ]
                  refine wpAnyH_take (i := 5) (oi := ⟨some 76, _, _, _, _, _⟩) (v := undef) rfl (by kernel_rfl) (by kernel_rfl) (by kernel_rfl) (fun _ _ _ h => h) (Or.inr ⟨by rfl, rfl⟩) (by assumption) ?_
                  try simp only [Act.put, List.setIfInBounds_toArray, List.set_cons_zero, List.set_cons_succ]
                  refine wpAnyH_take (i := 6) (oi := ⟨some 77, _, _, _, _, _⟩) (v := undef) rfl (by kernel_rfl) (by kernel_rfl) (by kernel_rfl) (fun _ _ _ h => h) (Or.inr ⟨by rfl, rfl⟩) (by assumption) ?_
                  try simp only [Act.put, List.setIfInBounds_toArray, List.set_cons_zero, List.set_cons_succ]
                  refine wpAnyH_take (i := 7) (oi := ⟨some 78, _, _, _, _, _⟩) (v := undef) rfl (by kernel_rfl) (by kernel_rfl) (by kernel_rfl) (fun _ _ _ h => h) (Or.inr ⟨by rfl, rfl⟩) (by assumption) ?_
                  try simp only [Act.put, List.setIfInBounds_toArray, List.set_cons_zero, List.set_cons_succ]
                  refine wpAnyH_take (i := 8) (oi := ⟨some 79, _, _, _, _, _⟩) (v := undef) rfl (by kernel_rfl) (by kernel_rfl) (by kernel_rfl) (fun _ _ _ h => h) (Or.inr ⟨by rfl, rfl⟩) (by assumption) ?_
                  try simp only [Act.put, List.setIfInBounds_toArray, List.set_cons_zero, List.set_cons_succ]
                  refine wpAnyH_take (i := 9) (oi := ⟨some 80, _, _, _, _, _⟩) (v := undef) rfl (by kernel_rfl) (by kernel_rfl) (by kernel_rfl) (fun _ _ _ h => h) (Or.inr ⟨by rfl, rfl⟩) (by assumption) ?_
                  try simp only [Act.put, List.setIfInBounds_toArray, List.set_cons_zero, List.set_cons_succ]
                  refine wpAnyH_take (i := 10) (oi := ⟨some 81, _, _, _, _, _⟩) (v := undef) rfl (by kernel_rfl) (by kernel_rfl) (by kernel_rfl) (fun _ _ _ h => h) (Or.inr ⟨by rfl, rfl⟩) (by assumption) ?_
                  try simp only [Act.put, List.setIfInBounds_toArray, List.set_cons_zero, List.set_cons_succ]
                  refine wpAnyH_take (i := 11) (oi := ⟨some 82, _, _, _, _, _⟩) (v := undef) rfl (by kernel_rfl) (by kernel_rfl) (by kernel_rfl) (fun _ _ _ h => h) (Or.inr ⟨by rfl, rfl⟩) (by assumption) ?_
                  try simp only [Act.put, List.setIfInBounds_toArray, List.set_cons_zero, List.set_cons_succ]
                  refine wpAnyH_take (i := 12) (oi := ⟨some 83, _, _, _, _, _⟩) (v := ?v115) rfl (by kernel_rfl) (by kernel_rfl) (by kernel_rfl) (fun _ _ _ h => h) (Or.inl ⟨by rfl, ?y115⟩) (by assumption) ?r115
                  case y115 => (intro wx hSx; (try dsimp only at hSx); go_simp; (try with_reducible rfl))
                  try simp only [Act.put, List.setIfInBounds_toArray, List.set_cons_zero, List.set_cons_succ]
                  refine wpAnyH_take (i := 13) (oi := ⟨some 9, _, _, _, _, _⟩) (v := ?v116) rfl (by kernel_rfl) (by kernel_rfl) (by kernel_rfl) (fun _ _ _ h => h) (Or.inl ⟨by rfl, ?y116⟩) (by assumption) ?r116
                  case y116 => (intro wx hSx; (try dsimp only at hSx); go_simp; (try with_reducible rfl))
                  try simp only [Act.put, List.setIfInBounds_toArray, List.set_cons_zero, List.set_cons_succ]
                  refine wpAnyH_done (by kernel_rfl) ?_ _
                  go_wp2
                  go_roundw
                  case rel => exact ⟨k + 1, by have := HKL.out; omega, by go_num, by rw [HST.out, HE.out]; rfl, HFL.out.drew⟩
                  case measure => have := HKL.out; simp [intOf]; omega
              · have hke : k = N := by omega
                subst hke
                clear hkl hk
                have hki : ¬ (k : Int) < (k : Int) := by omega
                obtain ⟨z, hz⟩ : ∃ z, anyR (RR.take k) ⟨sc, st, sk, sy, sv⟩ = z := ⟨_, rfl⟩
                have HHZ := hid (show hasB ((⟨⟨xc, xt, xk, xy, xv⟩, xs⟩ : Qe) :: L3) ⟨sc, st, sk, sy, sv⟩ = z by rw [HAY.out, ← hz]; unfold anyR; rw [List.take_of_length_le (by rw [HRL.out]; exact Nat.le_refl _)])
                rw [hz]
                clear hz
                go_wp2_with fail
                have hdd := hid ((HFL.out.trans (frm_drew wl)))
                have n1 := hid (HQ.out.quiet hdd.out); have n2 := hid (HR.out.quiet hdd.out); have n3 := hid (HS.out.frm hdd.out (fun h => h)); have n4 := hid (HB.out.trans (hdd.out.below HB.out.size (fun _ _ h => h))); have n5 := hid (HX.out.frm hdd.out (fun h => h))
                obtain ⟨vg', hva', hvc'⟩ := (n2.out.own.row5).at_ (by rw [HRL.out]; omega)
                injection hva' with hva'
                injection hva' with hva'
                subst hva'
                have hr0 : RR[0]? = some ⟨xc, xt, xk, xy, xv⟩ := by rw [← HRR.out]; rfl
                have HV0 := hid (hvc' 0 _ hr0 0 (by decide))
                have HV1 := hid (hvc' 0 _ hr0 1 (by decide))
                have HV2 := hid (hvc' 0 _ hr0 2 (by decide))
                have HV3 := hid (hvc' 0 _ hr0 3 (by decide))
                have HV4 := hid (hvc' 0 _ hr0 4 (by decide))
                (simp only [rqC, List.getElem?_cons_succ, List.getElem?_cons_zero, Nat.zero_mul, Nat.zero_add] at HV0 HV1 HV2 HV3 HV4)
                have heq := fun w => neqRq w xc xt xk xy xv xc xt xk xy xv true (Rq.eqb_self ⟨xc, xt, xk, xy, xv⟩)
                simp only [Bool.not_true] at heq
                clear hvc' hr0
                clear HQ HR HS HB HX hdd q0
                have HQ := n1; have HR := n2; have HS := n3; have HB := n4; have HX := n5
                clear n1 n2 n3 n4 n5
                refine wp_region_held_drew (S := fun wx => wx.cell? ⟨rb, 0, none⟩ = some (.slice (some ⟨vg, 0, none⟩) k vc) ∧ wx.cell? ⟨xb, 0, none⟩ = some (.int .u8 xc) ∧ wx.cell? ⟨xb, 1, none⟩ = some (.int .u32 xt) ∧ wx.cell? ⟨xb, 2, none⟩ = some (.int .u8 xk) ∧ wx.cell? ⟨xb, 3, none⟩ = some (.int .u8 xy) ∧ wx.cell? ⟨xb, 4, none⟩ = some (.int .u16 xv) ∧ wx.cell? ⟨vg, 0, none⟩ = some (.int .u8 xc) ∧ wx.cell? ⟨vg, 1, none⟩ = some (.int .u32 xt) ∧ wx.cell? ⟨vg, 2, none⟩ = some (.int .u8 xk) ∧ wx.cell? ⟨vg, 3, none⟩ = some (.int .u8 xy) ∧ wx.cell? ⟨vg, 4, none⟩ = some (.int .u16 xv) ∧ wx.cell? ⟨sb, 1, none⟩ = some (.int .u8 sc) ∧ wx.cell? ⟨sb, 2, none⟩ = some (.int .u32 st) ∧ wx.cell? ⟨sb, 3, none⟩ = some (.int .u8 sk) ∧ wx.cell? ⟨sb, 4, none⟩ = some (.int .u8 sy) ∧ wx.cell? ⟨sb, 5, none⟩ = some (.int .u16 sv)) (by kernel_rfl) ?_ (fun hHeld => ?_)
                · exact ⟨HR.out.blk.cell 0, HX.out.cell 0, HX.out.cell 1, HX.out.cell 2, HX.out.cell 3, HX.out.cell 4, HV0.out, HV1.out, HV2.out, HV3.out, HV4.out, HS.out.cell 1, HS.out.cell 2, HS.out.cell 3, HS.out.cell 4, HS.out.cell 5⟩
                refine wpAnyH_take (i := 0) (oi := ⟨some 84, _, _, _, _, _⟩) (v := ?v46) rfl (by kernel_rfl) (by kernel_rfl) (by kernel_rfl) (fun _ _ _ h => h) (Or.inl ⟨by rfl, ?y46⟩) (by assumption) ?r46
                case y46 => (intro wx hSx; (try dsimp only at hSx); go_simp; (try with_reducible rfl))
                try simp only [Act.put, List.setIfInBounds_toArray, List.set_cons_zero, List.set_cons_succ]
                refine wpAnyH_take (i := 2) (oi := ⟨some 86, _, _, _, _, _⟩) (v := ?v47) rfl (by kernel_rfl) (by kernel_rfl) (by kernel_rfl) (fun _ _ _ h => h) (Or.inl ⟨by rfl, ?y47⟩) (by assumption) ?r47
                case y47 => (intro wx hSx; (try dsimp only at hSx); go_simp; (try with_reducible rfl))
                try simp only [Act.put, List.setIfInBounds_toArray, List.set_cons_zero, List.set_cons_succ]
                refine wpAnyH_take (i := 3) (oi := ⟨some 87, _, _, _, _, _⟩) (v := ?v48) rfl (by kernel_rfl) (by kernel_rfl) (by kernel_rfl) (fun _ _ _ h => h) (Or.inl ⟨by rfl, ?y48⟩) (by assumption) ?r48
                case y48 => (intro wx hSx; (try dsimp only at hSx); go_simp; (try with_reducible rfl))
                try simp only [Act.put, List.setIfInBounds_toArray, List.set_cons_zero, List.set_cons_succ]
                refine wpAnyH_take (i := 4) (oi := ⟨some 88, _, _, _, _, _⟩) (v := ?v49) rfl (by kernel_rfl) (by kernel_rfl) (by kernel_rfl) (fun _ _ _ h => h) (Or.inl ⟨by rfl, ?y49⟩) (by assumption) ?r49
                case y49 => (intro wx hSx; (try dsimp only at hSx); go_simp; (try with_reducible rfl))
                try simp only [Act.put, List.setIfInBounds_toArray, List.set_cons_zero, List.set_cons_succ]
                refine wpAnyH_take (i := 5) (oi := ⟨some 89, _, _, _, _, _⟩) (v := ?v50) rfl (by kernel_rfl) (by kernel_rfl) (by kernel_rfl) (fun _ _ _ h => h) (Or.inl ⟨by rfl, ?y50⟩) (by assumption) ?r50
                case y50 => (intro wx hSx; (try dsimp only at hSx); go_simp; (try with_reducible rfl))
                try simp only [Act.put, List.setIfInBounds_toArray, List.set_cons_zero, List.set_cons_succ]
                refine wpAnyH_ready (rs := [1]) (by kernel_rfl) (by simp) ?_
                refine AllReadyH.cons (o := ⟨some 85, _, _, _, _, _⟩) rfl (fun K hK => ?_) AllReadyH.nil
                go_simp
                go_wp2_with ((go_at_call 10; (with_reducible refine (All_calls HQ.out).mono ?_); rintro e w8 ⟨aa, ac, rfl, ha, f'⟩; (rw [HN.out, HRR.out] at ha); (rw [HN.out]); have HA := hid ha; clear ha; have n0_ := hid (HQ.out.quiet f'); have n1_ := hid (HR.out.quiet f'); have n2_ := hid (HS.out.frm f' (fun h => h)); have n3_ := hid (HX.out.frm f' (fun h => h)); have n4_ := hid (HB.out.trans (f'.below HB.out.size (fun _ _ h => h))); have n5_ := hid (cell_keep f' HV0.out); have n6_ := hid (cell_keep f' HV1.out); have n7_ := hid (cell_keep f' HV2.out); have n8_ := hid (cell_keep f' HV3.out); have n9_ := hid (cell_keep f' HV4.out); clear HQ HR HS HX HB HV0 HV1 HV2 HV3 HV4; have HQ := n0_; clear n0_; have HR := n1_; clear n1_; have HS := n2_; clear n2_; have HX := n3_; clear n3_; have HB := n4_; clear n4_; have HV0 := n5_; clear n5_; have HV1 := n6_; clear n6_; have HV2 := n7_; clear n7_; have HV3 := n8_; clear n8_; have HV4 := n9_; clear n9_; clear f'))
                refine hK.out _ _ ?_ (fun hHeld2 => ?_)
                · ((try dsimp only); (exact ⟨HR.out.blk.cell 0, HX.out.cell 0, HX.out.cell 1, HX.out.cell 2, HX.out.cell 3, HX.out.cell 4, HV0.out, HV1.out, HV2.out, HV3.out, HV4.out, HS.out.cell 1, HS.out.cell 2, HS.out.cell 3, HS.out.cell 4, HS.out.cell 5⟩))
                clear hK K hHeld; have hHeld := hHeld2; clear hHeld2
                try simp only [Act.put, List.setIfInBounds_toArray, List.set_cons_zero, List.set_cons_succ]
                refine wpAnyH_ready (rs := [6]) (by kernel_rfl) (by simp) ?_
                refine AllReadyH.cons (o := ⟨some 90, _, _, _, _, _⟩) rfl (fun K hK => ?_) AllReadyH.nil
                go_simp
                go_wp2_with ((go_at_call 17; (with_reducible refine (Reqs_calls HA.out.row5 HR.out.own.row5 HRL.out HN4.out).mono ?_); rintro e w9 ⟨rfl, f'⟩; have n0_ := hid (HQ.out.quiet f'); have n1_ := hid (HR.out.quiet f'); have n2_ := hid (HS.out.frm f' (fun h => h)); have n3_ := hid (HX.out.frm f' (fun h => h)); have n4_ := hid (HB.out.trans (f'.below HB.out.size (fun _ _ h => h))); have n5_ := hid (cell_keep f' HV0.out); have n6_ := hid (cell_keep f' HV1.out); have n7_ := hid (cell_keep f' HV2.out); have n8_ := hid (cell_keep f' HV3.out); have n9_ := hid (cell_keep f' HV4.out); clear HQ HR HS HX HB HV0 HV1 HV2 HV3 HV4; have HQ := n0_; clear n0_; have HR := n1_; clear n1_; have HS := n2_; clear n2_; have HX := n3_; clear n3_; have HB := n4_; clear n4_; have HV0 := n5_; clear n5_; have HV1 := n6_; clear n6_; have HV2 := n7_; clear n7_; have HV3 := n8_; clear n8_; have HV4 := n9_; clear n9_; clear f'))
                refine hK.out _ _ ?_ (fun hHeld2 => ?_)
                · ((try dsimp only); (exact ⟨HR.out.blk.cell 0, HX.out.cell 0, HX.out.cell 1, HX.out.cell 2, HX.out.cell 3, HX.out.cell 4, HV0.out, HV1.out, HV2.out, HV3.out, HV4.out, HS.out.cell 1, HS.out.cell 2, HS.out.cell 3, HS.out.cell 4, HS.out.cell 5⟩))
                clear hK K hHeld; have hHeld := hHeld2; clear hHeld2
                try simp only [Act.put, List.setIfInBounds_toArray, List.set_cons_zero, List.set_cons_succ]
                refine wpAnyH_take (i := 7) (oi := ⟨some 91, _, _, _, _, _⟩) (v := ?v51) rfl (by kernel_rfl) (by kernel_rfl) (by kernel_rfl) (fun _ _ _ h => h) (Or.inl ⟨by rfl, ?y51⟩) (by assumption) ?r51
                case y51 => (intro wx hSx; (try dsimp only at hSx); go_simp; (try with_reducible rfl))
                try simp only [Act.put, List.setIfInBounds_toArray, List.set_cons_zero, List.set_cons_succ]
                refine wpAnyH_take (i := 8) (oi := ⟨some 92, _, _, _, _, _⟩) (v := ?v52) rfl (by kernel_rfl) (by kernel_rfl) (by kernel_rfl) (fun _ _ _ h => h) (Or.inl ⟨by rfl, ?y52⟩) (by assumption) ?r52
                case y52 => (intro wx hSx; (try dsimp only at hSx); go_simp; (try with_reducible rfl))
                try simp only [Act.put, List.setIfInBounds_toArray, List.set_cons_zero, List.set_cons_succ]
                refine wpAnyH_take (i := 9) (oi := ⟨some 93, _, _, _, _, _⟩) (v := ?v53) rfl (by kernel_rfl) (by kernel_rfl) (by kernel_rfl) (fun _ _ _ h => h) (Or.inl ⟨by rfl, ?y53⟩) (by assumption) ?r53
                case y53 => (intro wx hSx; (try dsimp only at hSx); go_simp; (try with_reducible rfl))
                try simp only [Act.put, List.setIfInBounds_toArray, List.set_cons_zero, List.set_cons_succ]
                refine wpAnyH_take (i := 11) (oi := ⟨some 95, _, _, _, _, _⟩) (v := ?v54) rfl (by kernel_rfl) (by kernel_rfl) (by kernel_rfl) (fun _ _ _ h => h) (Or.inl ⟨by rfl, ?y54⟩) (by assumption) ?r54
                case y54 => (intro wx hSx; (try dsimp only at hSx); go_simp; (try with_reducible rfl))
                try simp only [Act.put, List.setIfInBounds_toArray, List.set_cons_zero, List.set_cons_succ]
                refine wpAnyH_take (i := 12) (oi := ⟨some 96, _, _, _, _, _⟩) (v := ?v55) rfl (by kernel_rfl) (by kernel_rfl) (by kernel_rfl) (fun _ _ _ h => h) (Or.inl ⟨by rfl, ?y55⟩) (by assumption) ?r55
                case y55 => (intro wx hSx; (try dsimp only at hSx); go_simp; (try with_reducible rfl))
                try simp only [Act.put, List.setIfInBounds_toArray, List.set_cons_zero, List.set_cons_succ]
                refine wpAnyH_take (i := 13) (oi := ⟨some 97, _, _, _, _, _⟩) (v := ?v56) rfl (by kernel_rfl) (by kernel_rfl) (by kernel_rfl) (fun _ _ _ h => h) (Or.inl ⟨by rfl, ?y56⟩) (by assumption) ?r56
                case y56 => (intro wx hSx; (try dsimp only at hSx); go_simp; (try with_reducible rfl))
                try simp only [Act.put, List.setIfInBounds_toArray, List.set_cons_zero, List.set_cons_succ]
                refine wpAnyH_take (i := 14) (oi := ⟨some 98, _, _, _, _, _⟩) (v := ?v57) rfl (by kernel_rfl) (by kernel_rfl) (by kernel_rfl) (fun _ _ _ h => h) (Or.inl ⟨by rfl, ?y57⟩) (by assumption) ?r57
                case y57 => (intro wx hSx; (try dsimp only at hSx); go_simp; (try with_reducible rfl))
                try simp only [Act.put, List.setIfInBounds_toArray, List.set_cons_zero, List.set_cons_succ]
                refine wpAnyH_take (i := 15) (oi := ⟨some 99, _, _, _, _, _⟩) (v := ?v58) rfl (by kernel_rfl) (by kernel_rfl) (by kernel_rfl) (fun _ _ _ h => h) (Or.inl ⟨by rfl, ?y58⟩) (by assumption) ?r58
                case y58 => (intro wx hSx; (try dsimp only at hSx); go_simp; (try with_reducible rfl))
                try simp only [Act.put, List.setIfInBounds_toArray, List.set_cons_zero, List.set_cons_succ]
                refine wpAnyH_ready (rs := [10]) (by kernel_rfl) (by simp) ?_
                refine AllReadyH.cons (o := ⟨some 94, _, _, _, _, _⟩) rfl (fun K hK => ?_) AllReadyH.nil
                go_simp
                go_wp2_with ((go_at_call 11; (with_reducible refine (QLen_calls HQ.out).mono ?_); rintro e w' ⟨rfl, rfl⟩; (rw [HN.out])))
                refine hK.out _ _ ?_ (fun hHeld2 => ?_)
                · ((try dsimp only); (exact ⟨HR.out.blk.cell 0, HX.out.cell 0, HX.out.cell 1, HX.out.cell 2, HX.out.cell 3, HX.out.cell 4, HV0.out, HV1.out, HV2.out, HV3.out, HV4.out, HS.out.cell 1, HS.out.cell 2, HS.out.cell 3, HS.out.cell 4, HS.out.cell 5⟩))
                clear hK K hHeld; have hHeld := hHeld2; clear hHeld2
                try simp only [Act.put, List.setIfInBounds_toArray, List.set_cons_zero, List.set_cons_succ]
                refine wpAnyH_take (i := 16) (oi := ⟨some 100, _, _, _, _, _⟩) (v := ?v59) rfl (by kernel_rfl) (by kernel_rfl) (by kernel_rfl) (fun _ _ _ h => h) (Or.inl ⟨by rfl, ?y59⟩) (by assumption) ?r59
                case y59 => (intro wx hSx; (try dsimp only at hSx); go_simp; (try with_reducible rfl))
                try simp only [Act.put, List.setIfInBounds_toArray, List.set_cons_zero, List.set_cons_succ]
                refine wpAnyH_take (i := 17) (oi := ⟨some 101, _, _, _, _, _⟩) (v := ?v60) rfl (by kernel_rfl) (by kernel_rfl) (by kernel_rfl) (fun _ _ _ h => h) (Or.inl ⟨by rfl, ?y60⟩) (by assumption) ?r60
                case y60 => (intro wx hSx; (try dsimp only at hSx); go_simp; (try with_reducible rfl))
                try simp only [Act.put, List.setIfInBounds_toArray, List.set_cons_zero, List.set_cons_succ]
                refine wpAnyH_take (i := 18) (oi := ⟨some 102, _, _, _, _, _⟩) (v := ?v61) rfl (by kernel_rfl) (by kernel_rfl) (by kernel_rfl) (fun _ _ _ h => h) (Or.inl ⟨by rfl, ?y61⟩) (by assumption) ?r61
                case y61 => (intro wx hSx; (try dsimp only at hSx); go_simp; (try with_reducible rfl))
                try simp only [Act.put, List.setIfInBounds_toArray, List.set_cons_zero, List.set_cons_succ]
                refine wpAnyH_take (i := 19) (oi := ⟨some 103, _, _, _, _, _⟩) (v := ?v62) rfl (by kernel_rfl) (by kernel_rfl) (by kernel_rfl) (fun _ _ _ h => h) (Or.inl ⟨by rfl, ?y62⟩) (by assumption) ?r62
                case y62 => (intro wx hSx; (try dsimp only at hSx); go_simp; (try with_reducible rfl))
                try simp only [Act.put, List.setIfInBounds_toArray, List.set_cons_zero, List.set_cons_succ]
                refine wpAnyH_take (i := 20) (oi := ⟨some 104, _, _, _, _, _⟩) (v := ?v63) rfl (by kernel_rfl) (by kernel_rfl) (by kernel_rfl) (fun _ _ _ h => h) (Or.inl ⟨by rfl, ?y63⟩) (by assumption) ?r63
                case y63 => (intro wx hSx; (try dsimp only at hSx); go_simp; (try with_reducible rfl))
                try simp only [Act.put, List.setIfInBounds_toArray, List.set_cons_zero, List.set_cons_succ]
                refine wpAnyH_take (i := 21) (oi := ⟨some 105, _, _, _, _, _⟩) (v := ?v64) rfl (by kernel_rfl) (by kernel_rfl) (by kernel_rfl) (fun _ _ _ h => h) (Or.inl ⟨by rfl, ?y64⟩) (by assumption) ?r64
                case y64 => (intro wx hSx; (try dsimp only at hSx); go_simp; (try with_reducible rfl))
                try simp only [Act.put, List.setIfInBounds_toArray, List.set_cons_zero, List.set_cons_succ]
                refine wpAnyH_take (i := 22) (oi := ⟨some 106, _, _, _, _, _⟩) (v := ?v65) rfl (by kernel_rfl) (by kernel_rfl) (by kernel_rfl) (fun _ _ _ h => h) (Or.inl ⟨by rfl, ?y65⟩) (by assumption) ?r65
                case y65 => (intro wx hSx; (try dsimp only at hSx); go_simp; (try with_reducible rfl))
                try simp only [Act.put, List.setIfInBounds_toArray, List.set_cons_zero, List.set_cons_succ]
                refine wpAnyH_take (i := 23) (oi := ⟨some 107, _, _, _, _, _⟩) (v := ?v66) rfl (by kernel_rfl) (by kernel_rfl) (by kernel_rfl) (fun _ _ _ h => h) (Or.inl ⟨by rfl, ?y66⟩) (by assumption) ?r66
                case y66 => (intro wx hSx; (try dsimp only at hSx); go_simp; (try with_reducible rfl))
                try simp only [Act.put, List.setIfInBounds_toArray, List.set_cons_zero, List.set_cons_succ]
                refine wpAnyH_take (i := 24) (oi := ⟨some 108, _, _, _, _, _⟩) (v := ?v67) rfl (by kernel_rfl) (by kernel_rfl) (by kernel_rfl) (fun _ _ _ h => h) (Or.inl ⟨by rfl, ?y67⟩) (by assumption) ?r67
                case y67 => (intro wx hSx; (try dsimp only at hSx); go_simp; (try with_reducible rfl))
                try simp only [Act.put, List.setIfInBounds_toArray, List.set_cons_zero, List.set_cons_succ]
                refine wpAnyH_take (i := 25) (oi := ⟨some 109, _, _, _, _, _⟩) (v := ?v68) rfl (by kernel_rfl) (by kernel_rfl) (by kernel_rfl) (fun _ _ _ h => h) (Or.inl ⟨by rfl, ?y68⟩) (by assumption) ?r68
                case y68 => (intro wx hSx; (try dsimp only at hSx); go_simp; (try with_reducible rfl))
                try simp only [Act.put, List.setIfInBounds_toArray, List.set_cons_zero, List.set_cons_succ]
                refine wpAnyH_take (i := 26) (oi := ⟨some 110, _, _, _, _, _⟩) (v := ?v69) rfl (by kernel_rfl) (by kernel_rfl) (by kernel_rfl) (fun _ _ _ h => h) (Or.inl ⟨by rfl, ?y69⟩) (by assumption) ?r69
                case y69 => (intro wx hSx; (try dsimp only at hSx); go_simp; (try with_reducible rfl))
                try simp only [Act.put, List.setIfInBounds_toArray, List.set_cons_zero, List.set_cons_succ]
                refine wpAnyH_take (i := 27) (oi := ⟨some 111, _, _, _, _, _⟩) (v := ?v70) rfl (by kernel_rfl) (by kernel_rfl) (by kernel_rfl) (fun _ _ _ h => h) (Or.inl ⟨by rfl, ?y70⟩) (by assumption) ?r70
                case y70 => (intro wx hSx; (try dsimp only at hSx); go_simp; (try with_reducible rfl))
                try simp only [Act.put, List.setIfInBounds_toArray, List.set_cons_zero, List.set_cons_succ]
                refine wpAnyH_take (i := 28) (oi := ⟨some 112, _, _, _, _, _⟩) (v := ?v71) rfl (by kernel_rfl) (by kernel_rfl) (by kernel_rfl) (fun _ _ _ h => h) (Or.inl ⟨by rfl, ?y71⟩) (by assumption) ?r71
                case y71 => (intro wx hSx; (try dsimp only at hSx); go_simp; (try with_reducible rfl))
                try simp only [Act.put, List.setIfInBounds_toArray, List.set_cons_zero, List.set_cons_succ]
                refine wpAnyH_take (i := 29) (oi := ⟨some 113, _, _, _, _, _⟩) (v := ?v72) rfl (by kernel_rfl) (by kernel_rfl) (by kernel_rfl) (fun _ _ _ h => h) (Or.inl ⟨by rfl, ?y72⟩) (by assumption) ?r72
                case y72 => (intro wx hSx; (try dsimp only at hSx); go_simp; (try with_reducible rfl))
                try simp only [Act.put, List.setIfInBounds_toArray, List.set_cons_zero, List.set_cons_succ]
                refine wpAnyH_take (i := 30) (oi := ⟨some 114, _, _, _, _, _⟩) (v := ?v73) rfl (by kernel_rfl) (by kernel_rfl) (by kernel_rfl) (fun _ _ _ h => h) (Or.inl ⟨by rfl, ?y73⟩) (by assumption) ?r73
                case y73 => (intro wx hSx; (try dsimp only at hSx); go_simp; (try with_reducible rfl))
                try simp only [Act.put, List.setIfInBounds_toArray, List.set_cons_zero, List.set_cons_succ]
                refine wpAnyH_take (i := 31) (oi := ⟨some 115, _, _, _, _, _⟩) (v := ?v74) rfl (by kernel_rfl) (by kernel_rfl) (by kernel_rfl) (fun _ _ _ h => h) (Or.inl ⟨by rfl, ?y74⟩) (by assumption) ?r74
                case y74 => (intro wx hSx; (try dsimp only at hSx); go_simp; (try with_reducible rfl))
                try simp only [Act.put, List.setIfInBounds_toArray, List.set_cons_zero, List.set_cons_succ]
                refine wpAnyH_take (i := 32) (oi := ⟨some 116, _, _, _, _, _⟩) (v := ?v75) rfl (by kernel_rfl) (by kernel_rfl) (by kernel_rfl) (fun _ _ _ h => h) (Or.inl ⟨by rfl, ?y75⟩) (by assumption) ?r75
                case y75 => (intro wx hSx; (try dsimp only at hSx); go_simp; (try with_reducible rfl))
                try simp only [Act.put, List.setIfInBounds_toArray, List.set_cons_zero, List.set_cons_succ]
                refine wpAnyH_take (i := 33) (oi := ⟨some 117, _, _, _, _, _⟩) (v := ?v76) rfl (by kernel_rfl) (by kernel_rfl) (by kernel_rfl) (fun _ _ _ h => h) (Or.inl ⟨by rfl, ?y76⟩) (by assumption) ?r76
                case y76 => (intro wx hSx; (try dsimp only at hSx); go_simp; (try with_reducible rfl))
                try simp only [Act.put, List.setIfInBounds_toArray, List.set_cons_zero, List.set_cons_succ]
                refine wpAnyH_take (i := 34) (oi := ⟨some 118, _, _, _, _, _⟩) (v := ?v77) rfl (by kernel_rfl) (by kernel_rfl) (by kernel_rfl) (fun _ _ _ h => h) (Or.inl ⟨by rfl, ?y77⟩) (by assumption) ?r77
                case y77 => (intro wx hSx; (try dsimp only at hSx); go_simp; (try with_reducible rfl))
                try simp only [Act.put, List.setIfInBounds_toArray, List.set_cons_zero, List.set_cons_succ]
                refine wpAnyH_take (i := 35) (oi := ⟨some 119, _, _, _, _, _⟩) (v := ?v78) rfl (by kernel_rfl) (by kernel_rfl) (by kernel_rfl) (fun _ _ _ h => h) (Or.inl ⟨by rfl, ?y78⟩) (by assumption) ?r78
                case y78 => (intro wx hSx; (try dsimp only at hSx); go_simp; (try with_reducible rfl))
                try simp only [Act.put, List.setIfInBounds_toArray, List.set_cons_zero, List.set_cons_succ]
                refine wpAnyH_take (i := 36) (oi := ⟨some 120, _, _, _, _, _⟩) (v := ?v79) rfl (by kernel_rfl) (by kernel_rfl) (by kernel_rfl) (fun _ _ _ h => h) (Or.inl ⟨by rfl, ?y79⟩) (by assumption) ?r79
                case y79 => (intro wx hSx; (try dsimp only at hSx); go_simp; (try with_reducible rfl))
                try simp only [Act.put, List.setIfInBounds_toArray, List.set_cons_zero, List.set_cons_succ]
                refine wpAnyH_take (i := 37) (oi := ⟨some 121, _, _, _, _, _⟩) (v := ?v80) rfl (by kernel_rfl) (by kernel_rfl) (by kernel_rfl) (fun _ _ _ h => h) (Or.inl ⟨by rfl, ?y80⟩) (by assumption) ?r80
                case y80 => (intro wx hSx; (try dsimp only at hSx); go_simp; (try with_reducible rfl))
                try simp only [Act.put, List.setIfInBounds_toArray, List.set_cons_zero, List.set_cons_succ]
                refine wpAnyH_take (i := 38) (oi := ⟨some 122, _, _, _, _, _⟩) (v := ?v81) rfl (by kernel_rfl) (by kernel_rfl) (by kernel_rfl) (fun _ _ _ h => h) (Or.inl ⟨by rfl, ?y81⟩) (by assumption) ?r81
                case y81 => (intro wx hSx; (try dsimp only at hSx); go_simp; (try with_reducible rfl))
                try simp only [Act.put, List.setIfInBounds_toArray, List.set_cons_zero, List.set_cons_succ]
                refine wpAnyH_take (i := 39) (oi := ⟨some 123, _, _, _, _, _⟩) (v := ?v82) rfl (by kernel_rfl) (by kernel_rfl) (by kernel_rfl) (fun _ _ _ h => h) (Or.inl ⟨by rfl, ?y82⟩) (by assumption) ?r82
                case y82 => (intro wx hSx; (try dsimp only at hSx); go_simp; (try with_reducible rfl))
                try simp only [Act.put, List.setIfInBounds_toArray, List.set_cons_zero, List.set_cons_succ]
                refine wpAnyH_take (i := 40) (oi := ⟨some 124, _, _, _, _, _⟩) (v := ?v83) rfl (by kernel_rfl) (by kernel_rfl) (by kernel_rfl) (fun _ _ _ h => h) (Or.inl ⟨by rfl, ?y83⟩) (by assumption) ?r83
                case y83 => (intro wx hSx; (try dsimp only at hSx); go_simp; (try with_reducible rfl))
                try simp only [Act.put, List.setIfInBounds_toArray, List.set_cons_zero, List.set_cons_succ]
                refine wpAnyH_take (i := 41) (oi := ⟨some 125, _, _, _, _, _⟩) (v := ?v84) rfl (by kernel_rfl) (by kernel_rfl) (by kernel_rfl) (fun _ _ _ h => h) (Or.inl ⟨by rfl, ?y84⟩) (by assumption) ?r84
                case y84 => (intro wx hSx; (try dsimp only at hSx); go_simp; (try with_reducible rfl))
                try simp only [Act.put, List.setIfInBounds_toArray, List.set_cons_zero, List.set_cons_succ]
                refine wpAnyH_take (i := 42) (oi := ⟨some 126, _, _, _, _, _⟩) (v := ?v85) rfl (by kernel_rfl) (by kernel_rfl) (by kernel_rfl) (fun _ _ _ h => h) (Or.inl ⟨by rfl, ?y85⟩) (by assumption) ?r85
                case y85 => (intro wx hSx; (try dsimp only at hSx); go_simp; (try with_reducible rfl))
                try simp only [Act.put, List.setIfInBounds_toArray, List.set_cons_zero, List.set_cons_succ]
                refine wpAnyH_take (i := 43) (oi := ⟨some 127, _, _, _, _, _⟩) (v := ?v86) rfl (by kernel_rfl) (by kernel_rfl) (by kernel_rfl) (fun _ _ _ h => h) (Or.inl ⟨by rfl, ?y86⟩) (by assumption) ?r86
                case y86 => (intro wx hSx; (try dsimp only at hSx); go_simp; (try with_reducible rfl))
                try simp only [Act.put, List.setIfInBounds_toArray, List.set_cons_zero, List.set_cons_succ]
                refine wpAnyH_take (i := 44) (oi := ⟨some 128, _, _, _, _, _⟩) (v := ?v87) rfl (by kernel_rfl) (by kernel_rfl) (by kernel_rfl) (fun _ _ _ h => h) (Or.inl ⟨by rfl, ?y87⟩) (by assumption) ?r87
                case y87 => (intro wx hSx; (try dsimp only at hSx); go_simp; (try with_reducible rfl))
                try simp only [Act.put, List.setIfInBounds_toArray, List.set_cons_zero, List.set_cons_succ]
                refine wpAnyH_take (i := 46) (oi := ⟨some 130, _, _, _, _, _⟩) (v := ?v88) rfl (by kernel_rfl) (by kernel_rfl) (by kernel_rfl) (fun _ _ _ h => h) (Or.inl ⟨by rfl, ?y88⟩) (by assumption) ?r88
                case y88 => (intro wx hSx; (try dsimp only at hSx); go_simp; (try with_reducible rfl))
                try simp only [Act.put, List.setIfInBounds_toArray, List.set_cons_zero, List.set_cons_succ]
                refine wpAnyH_ready (rs := [45]) (by kernel_rfl) (by simp) ?_
                refine AllReadyH.cons (o := ⟨some 129, _, _, _, _, _⟩) rfl (fun K hK => ?_) AllReadyH.nil
                go_simp
                go_wp2_with ((go_at_call 12; (with_reducible refine (QHas_calls HQ.out ⟨sc, st, sk, sy, sv⟩ HRO.out z HHZ.out).mono ?_); rintro e w10 ⟨rfl, f'⟩; have n0_ := hid (HQ.out.quiet f'); have n1_ := hid (HR.out.quiet f'); have n2_ := hid (HS.out.frm f' (fun h => h)); have n3_ := hid (HX.out.frm f' (fun h => h)); have n4_ := hid (HB.out.trans (f'.below HB.out.size (fun _ _ h => h))); have n5_ := hid (cell_keep f' HV0.out); have n6_ := hid (cell_keep f' HV1.out); have n7_ := hid (cell_keep f' HV2.out); have n8_ := hid (cell_keep f' HV3.out); have n9_ := hid (cell_keep f' HV4.out); clear HQ HR HS HX HB HV0 HV1 HV2 HV3 HV4; have HQ := n0_; clear n0_; have HR := n1_; clear n1_; have HS := n2_; clear n2_; have HX := n3_; clear n3_; have HB := n4_; clear n4_; have HV0 := n5_; clear n5_; have HV1 := n6_; clear n6_; have HV2 := n7_; clear n7_; have HV3 := n8_; clear n8_; have HV4 := n9_; clear n9_; clear f'))
                refine hK.out _ _ ?_ (fun hHeld2 => ?_)
                · ((try dsimp only); (exact ⟨HR.out.blk.cell 0, HX.out.cell 0, HX.out.cell 1, HX.out.cell 2, HX.out.cell 3, HX.out.cell 4, HV0.out, HV1.out, HV2.out, HV3.out, HV4.out, HS.out.cell 1, HS.out.cell 2, HS.out.cell 3, HS.out.cell 4, HS.out.cell 5⟩))
                clear hK K hHeld; have hHeld := hHeld2; clear hHeld2
                try simp only [Act.put, List.setIfInBounds_toArray, List.set_cons_zero, List.set_cons_succ]
                refine wpAnyH_take (i := 47) (oi := ⟨some 131, _, _, _, _, _⟩) (v := ?v89) rfl (by kernel_rfl) (by kernel_rfl) (by kernel_rfl) (fun _ _ _ h => h) (Or.inl ⟨by rfl, ?y89⟩) (by assumption) ?r89
                case y89 => (intro wx hSx; (try dsimp only at hSx); go_simp; (try with_reducible rfl))
                try simp only [Act.put, List.setIfInBounds_toArray, List.set_cons_zero, List.set_cons_succ]
                refine wpAnyH_take (i := 48) (oi := ⟨some 132, _, _, _, _, _⟩) (v := ?v90) rfl (by kernel_rfl) (by kernel_rfl) (by kernel_rfl) (fun _ _ _ h => h) (Or.inl ⟨by rfl, ?y90⟩) (by assumption) ?r90
                case y90 => (intro wx hSx; (try dsimp only at hSx); go_simp; (try with_reducible rfl))
                try simp only [Act.put, List.setIfInBounds_toArray, List.set_cons_zero, List.set_cons_succ]
                refine wpAnyH_take (i := 49) (oi := ⟨some 133, _, _, _, _, _⟩) (v := ?v91) rfl (by kernel_rfl) (by kernel_rfl) (by kernel_rfl) (fun _ _ _ h => h) (Or.inl ⟨by rfl, ?y91⟩) (by assumption) ?r91
                case y91 => (intro wx hSx; (try dsimp only at hSx); go_simp; (try with_reducible rfl))
                try simp only [Act.put, List.setIfInBounds_toArray, List.set_cons_zero, List.set_cons_succ]
                refine wpAnyH_take (i := 50) (oi := ⟨some 134, _, _, _, _, _⟩) (v := ?v92) rfl (by kernel_rfl) (by kernel_rfl) (by kernel_rfl) (fun _ _ _ h => h) (Or.inl ⟨by rfl, ?y92⟩) (by assumption) ?r92
                case y92 => (intro wx hSx; (try dsimp only at hSx); go_simp; (try with_reducible rfl))
                try simp only [Act.put, List.setIfInBounds_toArray, List.set_cons_zero, List.set_cons_succ]
                refine wpAnyH_take (i := 51) (oi := ⟨some 135, _, _, _, _, _⟩) (v := ?v93) rfl (by kernel_rfl) (by kernel_rfl) (by kernel_rfl) (fun _ _ _ h => h) (Or.inl ⟨by rfl, ?y93⟩) (by assumption) ?r93
                case y93 => (intro wx hSx; (try dsimp only at hSx); go_simp; (try with_reducible rfl))
                try simp only [Act.put, List.setIfInBounds_toArray, List.set_cons_zero, List.set_cons_succ]
                refine wpAnyH_take (i := 52) (oi := ⟨some 136, _, _, _, _, _⟩) (v := ?v94) rfl (by kernel_rfl) (by kernel_rfl) (by kernel_rfl) (fun _ _ _ h => h) (Or.inl ⟨by rfl, ?y94⟩) (by assumption) ?r94
                case y94 => (intro wx hSx; (try dsimp only at hSx); go_simp; (try with_reducible rfl))
                try simp only [Act.put, List.setIfInBounds_toArray, List.set_cons_zero, List.set_cons_succ]
                refine wpAnyH_take (i := 53) (oi := ⟨some 137, _, _, _, _, _⟩) (v := ?v95) rfl (by kernel_rfl) (by kernel_rfl) (by kernel_rfl) (fun _ _ _ h => h) (Or.inl ⟨by rfl, ?y95⟩) (by assumption) ?r95
                case y95 => (intro wx hSx; (try dsimp only at hSx); go_simp; (try with_reducible rfl))
                try simp only [Act.put, List.setIfInBounds_toArray, List.set_cons_zero, List.set_cons_succ]
                refine wpAnyH_take (i := 54) (oi := ⟨some 138, _, _, _, _, _⟩) (v := ?v96) rfl (by kernel_rfl) (by kernel_rfl) (by kernel_rfl) (fun _ _ _ h => h) (Or.inl ⟨by rfl, ?y96⟩) (by assumption) ?r96
                case y96 => (intro wx hSx; (try dsimp only at hSx); go_simp; (try with_reducible rfl))
                try simp only [Act.put, List.setIfInBounds_toArray, List.set_cons_zero, List.set_cons_succ]
                refine wpAnyH_take (i := 55) (oi := ⟨some 139, _, _, _, _, _⟩) (v := ?v97) rfl (by kernel_rfl) (by kernel_rfl) (by kernel_rfl) (fun _ _ _ h => h) (Or.inl ⟨by rfl, ?y97⟩) (by assumption) ?r97
                case y97 => (intro wx hSx; (try dsimp only at hSx); go_simp; (try with_reducible rfl))
                try simp only [Act.put, List.setIfInBounds_toArray, List.set_cons_zero, List.set_cons_succ]
                refine wpAnyH_take (i := 56) (oi := ⟨some 140, _, _, _, _, _⟩) (v := ?v98) rfl (by kernel_rfl) (by kernel_rfl) (by kernel_rfl) (fun _ _ _ h => h) (Or.inl ⟨by rfl, ?y98⟩) (by assumption) ?r98
                case y98 => (intro wx hSx; (try dsimp only at hSx); go_simp; (try with_reducible rfl))
                try simp only [Act.put, List.setIfInBounds_toArray, List.set_cons_zero, List.set_cons_succ]
                refine wpAnyH_done (by kernel_rfl) ?_ _
                go_wp2
                go_roundg (len - (i + 1))
                case measure => have := HLT.out; omega
                case rel => exact ⟨i + 1, ((⟨⟨xc, xt, xk, xy, xv⟩, xs⟩ : Qe) :: L3), n2, _, by have := HLT.out; omega, rfl, by go_num, HQ.out, by have := HNI.out; have := HN2.out; omega, by rw [HRR.out]; exact HR.out, HB.out⟩
      · have hke : i = len := by omega
        subst hke
        clear hlt hi
        go_wp2
        go_ret
        exact ⟨rfl, HBA.out⟩
end Go.Proofs.Ytabmbppolmikcaa
