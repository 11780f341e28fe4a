/- ServiceOnce, walked: whatever requests come again change nothing the second time. -/
import Derived.Test.YtaeonidjfmlbiaaSvcKnown
import Derived.Test.YtaeonidjfmlbiaaSvcPure
import Derived.Test.YtaeonidjfmlbiaaOwnR
import Derived.Test.YtaeonidjfmlbiaaPgCopy
import Derived.Deep.RegionHeld3
namespace Go.Proofs.Ytaeonidjfmlbiaa
open Go.RowKit Go.ChangeShapes
set_option linter.unusedVariables false
set_option linter.unusedSimpArgs false
set_option maxRecDepth 20000
abbrev TTs : Nat := 37
def tsV (cs : List Int) : List Value := [.int .u32 0, .int .u32 (getT cs 1), .int .u32 (getT cs 2), .int .u32 (getT cs 3), .int .u32 (getT cs 4)]
theorem tsV_at (cs : List Int) (n : Nat) (hn : n < 4) : (tsV cs)[n + 1]? = some (.int .u32 (getT cs ((n : Int) + 1))) := by
  rcases (show n = 0 ∨ n = 1 ∨ n = 2 ∨ n = 3 by omega) with rfl | rfl | rfl | rfl <;> rfl
theorem tsV_set {cs : List Int} (hl : cs.length = 10) (n : Nat) (hn : n < 4) (t r : Int) : (tsV cs).set (n + 1) (.int .u32 t) = tsV (setC cs ((n : Int) + 1) t r) := by
  have key : ∀ i : Int, 1 ≤ i → i ≤ 4 → getT (setC cs ((n : Int) + 1) t r) i = if i = (n : Int) + 1 then t else getT cs i := fun i h1 h4 => by
    split
    · rename_i e; rw [e]; exact getT_set_eq hl (by omega) (by omega) t r
    · rename_i e; exact getT_set_ne (by omega) (by omega) (fun e2 => e e2.symm) t r
  unfold tsV
  rw [key 1 (by decide) (by decide), key 2 (by decide) (by decide), key 3 (by decide) (by decide), key 4 (by decide) (by decide)]
  rcases (show n = 0 ∨ n = 1 ∨ n = 2 ∨ n = 3 by omega) with rfl | rfl | rfl | rfl <;> rfl
/-- Each of these is a real one of a client's, no younger than the client's last one. -/
def GoodL (l : List Rq) (cs : List Int) : Prop := ∀ r ∈ l, (1 ≤ r.c ∧ r.c ≤ 4) ∧ 0 ≤ r.y ∧ (0 ≤ r.v ∧ r.v ≤ 65535) ∧ isReal r.c r.t r.k r.y r.v = true ∧ r.t ≤ getT cs r.c
theorem GoodL.snoc {l : List Rq} {cs : List Int} (h : GoodL l cs) (hl : cs.length = 10) (r : Rq) (X : Int) (h1 : 1 ≤ r.c ∧ r.c ≤ 4) (hy : 0 ≤ r.y) (hv : 0 ≤ r.v ∧ r.v ≤ 65535) (hr : isReal r.c r.t r.k r.y r.v = true) (ht : getT cs r.c ≤ r.t) : GoodL (l ++ [r]) (setC cs r.c r.t X) := fun q hq => by
  have key : ∀ i : Int, 1 ≤ i → i ≤ 4 → getT (setC cs r.c r.t X) i = if i = r.c then r.t else getT cs i := fun i h1 h4 => by
    split
    · rename_i e; rw [e]; exact getT_set_eq hl (by omega) (by omega) _ _
    · rename_i e; exact getT_set_ne (by omega) (by omega) (fun e2 => e e2.symm) _ _
  rcases List.mem_append.1 hq with hq | hq
  · obtain ⟨a, b, c, d, e⟩ := h q hq
    refine ⟨a, b, c, d, ?_⟩
    rw [key _ a.1 a.2]
    split
    · rename_i e2; rw [e2] at e; omega
    · exact e
  · rw [List.mem_singleton] at hq
    subst hq
    refine ⟨h1, hy, hv, hr, ?_⟩
    rw [key _ h1.1 h1.2, if_pos rfl]
    exact Int.le_refl _
theorem getT_lim {cs : List Int} (hb : ∀ x ∈ cs, 0 ≤ x ∧ x ≤ 4294967295) (c : Int) : 0 ≤ getT cs c := by unfold getT; split; exact (getD_bd hb (by decide) _).1; decide
theorem getT_up {cs : List Int} (hl : cs.length = 10) {n0 : Nat} {T X : Int} {i : Nat} (h : ∀ c, getT cs c ≤ i) (hT : T ≤ i) (c : Int) : getT (setC cs ((n0 : Int) + 1) (T + 1) X) c ≤ ((i + 1 : Nat) : Int) := by
  by_cases hc : c = (n0 : Int) + 1
  · by_cases h4 : (n0 : Int) + 1 ≤ 4
    · rw [hc, getT_set_eq hl (by omega) h4]; omega
    · rw [setC, if_neg (by omega)]; have := h c; omega
  · by_cases h0 : 0 ≤ c
    · rw [getT_set_ne (by omega) h0 (fun e => hc e.symm)]; have := h c; omega
    · rw [getT, if_neg (by omega)]; omega
theorem blk_two {w : World} {b b' T T' : Nat} {cs cs' : List Value} (h : Blk w b cs T) (h' : Blk w b' cs' T') (e : b = b') : T = T' := by
  subst e
  unfold Blk at h h'
  rw [h] at h'
  injection h' with h'
  injection h'
theorem real_of {c t k y v : Int} (hc : 1 ≤ c ∧ c ≤ 4) (ht : t ≠ 0) (hk : 1 ≤ k ∧ k ≤ 3) (hy : y < 64) (hv : k ≠ 2 ∨ v = 0) : isReal c t k y v = true := decide_eq_true ⟨hc.1, hc.2, ht, hk.1, hk.2, hy, hv⟩
set_option maxRecDepth 100000 in
set_option maxHeartbeats 16000000 in
theorem ServiceOnce_walk (a0 : Option Addr) (c0 : Nat) (z0 : List Int) (a1 : Option Addr) (c1 : Nat) (z1 : List Int) (w : World) (h0 : IsInts .u8 w a0 c0 z0) (h1 : IsInts .u8 w a1 c1 z1) :
    Calls Try.prog 6 #[.slice a0 z0.length c0, .slice a1 z1.length c1] w fun e w' => e = .returned (.bool true) ∧ Below w.heap.size w w' := by
  have hle := h0.le
  have hsm := h0.small
  have hle1 := h1.le
  have hsm1 := h1.small
  by_cases hlen : z0.length > 40
  · go_enter Try.func6, Try.ntmps6
    go_wp2_with (go_at_call 8; (with_reducible refine (known_calls _).mono ?_); rintro e w1 ⟨rfl, f1⟩)
    go_ret
    exact ⟨rfl, f1⟩
  by_cases hlen1 : z1.length > 60
  · go_enter Try.func6, Try.ntmps6
    go_wp2_with (go_at_call 8; (with_reducible refine (known_calls _).mono ?_); rintro e w1 ⟨rfl, f1⟩)
    go_ret
    exact ⟨rfl, f1⟩
  have H0 := hid h0; have H1 := hid h1; clear h0 h1
  have HZL := hid (show z0.length ≤ 40 by omega)
  go_enter Try.func6, Try.ntmps6
  go_wp2_with (first
    | (go_at_call 8; (with_reducible refine (known_calls _).mono ?_); rintro e w1 ⟨rfl, f1⟩; have HF := hid f1; clear f1)
    | (go_at_call 9; (with_reducible refine (PNew_calls w1).mono ?_); rintro e w2 ⟨rfl, h', f'⟩; have HB := hid HF.out.size; have HM := hid h'; have HF2 := hid (below_next HF.out f'); clear HF; have HF := HF2; clear HF2; clear h' f'))
  have HTS0 := hid (show Blk (w2.alloc (.cells #[.int .u32 0, .int .u32 0, .int .u32 0, .int .u32 0, .int .u32 0] TTs)) w2.heap.size (tsV (List.replicate 10 0)) TTs from Blk.new w2 (tsV (List.replicate 10 0)) TTs)
  have HM0 := hid (HM.out.frm (frm_box w2 (.cells #[.int .u32 0, .int .u32 0, .int .u32 0, .int .u32 0, .int .u32 0] TTs)) (fun h => h))
  have HF0 := hid (HF.out.alloc HF.out.size (.cells #[.int .u32 0, .int .u32 0, .int .u32 0, .int .u32 0, .int .u32 0] TTs))
  have HTB := hid (show w.heap.size ≤ w2.heap.size from HF.out.size)
  have HMT := hid (show w1.heap.size ≠ w2.heap.size from fun e => by have := HM.out.blk.lt; omega)
  clear HM HF
  generalize hmb : w1.heap.size = mb at *
  generalize htb : w2.heap.size = tb at *
  clear hmb htb
  go_loopw [6, 8] (fun lv iv wr => ∃ (i : Nat) (vs cs : List Int) (v : Value) (l : List Rq), i ≤ z0.length ∧ lv = v ∧ iv = .int .i64 i ∧ l.length = i ∧ IsMap wr mb vs cs ∧ Blk wr tb (tsV cs) TTs ∧ OwnR wr (fun k => k < w.heap.size) v l ∧ GoodL l cs ∧ (∀ c, getT cs c ≤ i) ∧ Below w.heap.size w wr) (fun _ i _ => z0.length - (intOf i).toNat)
  case atStart => exact ⟨0, _, _, _, [], by omega, rfl, rfl, rfl, HM0.out, HTS0.out, OwnR.nil _ _, fun r hr => (by cases hr), fun c => (by rw [getT_zero]; decide), HF0.out⟩
  case round =>
    clear HM0 HTS0 HF0
    obtain ⟨i, vs, cs, v, l, hi, rfl, rfl, hll, hm, ht, ho, hg, htb, hf⟩ := hrel
    have HM := hid hm; have HT := hid ht; have HO := hid ho; have HG := hid hg; have HTL := hid htb; have HF := hid hf; have HLL := hid hll
    clear hm ht ho hg htb hf hll
    have HNM := hid (fun k hk => HO.out.not_blk HM.out.blk (by decide) (k := k) hk)
    have HNT := hid (fun k hk => HO.out.not_blk HT.out (by decide) (k := k) hk)
    obtain ⟨la, lc, hla⟩ := HO.out.slice
    rw [HLL.out] at hla
    have HLA := hid hla; clear hla
    by_cases hlt : i < z0.length
    · obtain ⟨ga, oa, rfl, hga, hca⟩ := H0.out.at_ (by omega)
      have hxa := hca i hlt
      have wfa : (Lit.int .u8 (z0.getD i 0)).wf = true := H0.out.wf _ (by rw [List.getD_eq_getElem?_getD, List.getElem?_eq_getElem hlt]; exact List.getElem_mem hlt)
      generalize z0.getD i 0 = x at hxa wfa
      obtain ⟨hx0, hx255⟩ := bounds_u8 wfa
      have q0 := (HF.out.cell (p := ⟨ga, oa + i, none⟩) hga).trans hxa
      obtain ⟨n0, hn0⟩ := Int.eq_ofNat_of_zero_le (Int.emod_nonneg x (show (4 : Int) ≠ 0 by decide))
      have hn4 : n0 < 4 := by omega
      have hn4i : (n0 : Int) < 4 := by omega
      obtain ⟨T, hT⟩ : ∃ T, getT cs ((n0 : Int) + 1) = T := ⟨_, rfl⟩
      have hTb : 0 ≤ T ∧ T ≤ i := by rw [← hT]; exact ⟨getT_lim HM.out.bc _, HTL.out _⟩
      obtain ⟨hT0, hTi⟩ := hTb
      have hi40 : (i : Int) ≤ 40 := by omega
      obtain ⟨Y, hY⟩ : ∃ Y, x / 16 = Y := ⟨_, rfl⟩
      have hYb : 0 ≤ Y ∧ Y < 16 := by omega
      obtain ⟨D, hD⟩ : ∃ D, x / 4 = D := ⟨_, rfl⟩
      obtain ⟨k0, hk0⟩ : ∃ k0, D % 3 = k0 := ⟨_, rfl⟩
      have hD0 : 0 ≤ D := by omega
      have hD2 : x.tdiv 4 % 256 = D := by rw [Int.tdiv_eq_ediv_of_nonneg hx0, hD]; omega
      have hY2 : x.tdiv 16 % 256 = Y := by rw [Int.tdiv_eq_ediv_of_nonneg hx0, hY]; omega
      have hk0b : 0 ≤ k0 ∧ k0 < 3 := by omega
      have t0 := HT.out.cell (n0 + 1)
      rw [tsV_at cs n0 hn4, hT] at t0
      have z0f := HT.out.free (n0 + 1)
      have hil : (i : Int) < (z0.length : Int) := by omega
      have e1 : IntKind.u8.wrap ((n0 : Int) + 1) = (n0 : Int) + 1 := by simp [IntKind.wrap, IntKind.bits, IntKind.signed]; omega
      have e2 : IntKind.u32.wrap (T + 1) = T + 1 := by simp [IntKind.wrap, IntKind.bits, IntKind.signed]; omega
      have e3 : IntKind.u16.wrap (i : Int) = (i : Int) := by simp [IntKind.wrap, IntKind.bits, IntKind.signed]; omega
      have hgt : ga ≠ tb := fun e => by have := HTB.out; omega
      have HGA := hid hga; have HGT := hid hgt; have HQ0 := hid q0
      have HCL := hid HM.out.lc
      obtain ⟨W, hW⟩ : ∃ W, getV vs Y = W := ⟨_, rfl⟩
      have HW := hid hW
      have HYB := hid hYb; have HN4 := hid hn4; have HTT := hid hT; have HT0 := hid hT0; have HTI := hid hTi; have HI40 := hid hi40; have HLT := hid hlt
      have hY0 := hYb.1
      have HXA := hid hxa
      clear hca hxa wfa hga hi hlt hYb hW hT hx255
      rcases (show k0 = 0 ∨ k0 = 1 ∨ k0 = 2 by omega) with rfl | rfl | rfl
      · have e4 : IntKind.u8.wrap (1 + 0) = 1 := by decide
        obtain ⟨R, hR⟩ : ∃ R : Rq, R = ⟨(n0 : Int) + 1, T + 1, 1, Y, (i : Int)⟩ := ⟨_, rfl⟩
        have HRR := hid hR
        have HCC := hid (show 0 ≤ (n0 : Int) + 1 by omega)
        have HTB1 := hid (show 0 ≤ T + 1 ∧ T + 1 ≤ 4294967295 by omega)
        have HVB := hid (show 0 ≤ ((i : Int) : Int) ∧ ((i : Int) : Int) ≤ 65535 by omega)
        have hreal : isReal ((n0 : Int) + 1) (T + 1) 1 Y (i : Int) = true := real_of (by omega) (by omega) (by decide) (by have := HYB.out; omega) (by first | exact .inl (by decide) | exact .inr rfl)
        have HRE := hid hreal
        have HN1 := hid (isNew_of hreal (show getT cs ((n0 : Int) + 1) < T + 1 by rw [HTT.out]; omega))
        obtain ⟨X, hX⟩ : ∃ X, doesR 1 (getV vs Y) (i : Int) = X := ⟨_, rfl⟩
        obtain ⟨Z, hZ⟩ : ∃ Z, doesV 1 (getV vs Y) (i : Int) = Z := ⟨_, rfl⟩
        have HX := hid hX; have HZ := hid hZ
        have HTN := hid (show getT (setC cs ((n0 : Int) + 1) (T + 1) X) ((n0 : Int) + 1) = T + 1 from getT_set_eq HCL.out (by omega) (by omega) _ _)
        have HN2 := hid (show isNew (setC cs ((n0 : Int) + 1) (T + 1) X) ((n0 : Int) + 1) (T + 1) 1 Y (i : Int) = false from isNew_not (by rw [HTN.out]; exact Int.le_refl _))
        have HTS := hid (tsV_set HCL.out n0 HN4.out (T + 1) X)
        clear hR hreal hX hZ
        go_wp2
        obtain ⟨w5, hw5⟩ : ∃ w5, w5 = wr.setCell ⟨tb, n0 + 1, none⟩ (.int .u32 (T + 1)) := ⟨_, rfl⟩
        have f5 : Frm (· = tb) wr w5 := hw5 ▸ (Frm.refl (· = tb) wr).setCell _ _ (.inr rfl)
        have HM5 := hid (HM.out.frm f5 HMT.out)
        have HT5 := hid (show Blk w5 tb (tsV (setC cs ((n0 : Int) + 1) (T + 1) X)) TTs by rw [hw5, ← HTS.out]; exact HT.out.setCell _ _)
        have HO5 := hid (HO.out.frm f5 (fun k hk e => HNT.out k hk e))
        have HF5 := hid (below_frm1 HF.out f5 HTB.out)
        rw [← hw5]
        clear HM HT HO HF f5 hw5 q0 t0 z0f
        have q0 : w5.cell? ⟨ga, oa + i, none⟩ = some (.int .u8 x) := (HF5.out.cell (p := ⟨ga, oa + i, none⟩) HGA.out).trans HXA.out
        have t0 := HT5.out.cell (n0 + 1)
        rw [tsV_at _ n0 HN4.out, HTN.out] at t0
        have hl1 : ga < w5.heap.size := Nat.lt_of_lt_of_le HGA.out HF5.out.size
        have hl2 := HT5.out.lt
        go_region
        clear hl1 hl2
        go_wp2_with (first
          | (go_at_call 13; have tk9 := HR; (with_reducible refine (SNew_calls HM.out ((n0 : Int) + 1) (T + 1) 1 Y (i : Int) HCC.out false HN2.out).mono ?_); rintro e w8 ⟨rfl, f'⟩; clear r0 r1 r2 r3 r4; have n0_ := hid (HM.out.frm f' (fun h => h)); have n1_ := hid (HT.out.frm f' (fun h => h)); have n2_ := hid (HO.out.quiet f'); have n3_ := hid (HR.out.frm f' (fun h => h)); have n4_ := hid (below_frm0 HF.out f'); clear HM HT HO HR HF; have HM := n0_; clear n0_; have HT := n1_; clear n1_; have HO := n2_; clear n2_; have HR := n3_; clear n3_; have HF := n4_; clear n4_; clear f'; have r0 := HR.out.cell 0; have r1 := HR.out.cell 1; have r2 := HR.out.cell 2; have r3 := HR.out.cell 3; have r4 := HR.out.cell 4; (simp only [rqC, List.getElem?_cons_succ, List.getElem?_cons_zero] at r0 r1 r2 r3 r4))
          | (go_at_call 13; (with_reducible refine (SNew_calls (HM5.out.frm (((Frm.refl (fun _ => False) _).alloc _).drew) (fun h => h)) ((n0 : Int) + 1) (T + 1) 1 Y (i : Int) HCC.out true HN1.out).mono ?_); rintro e w6 ⟨rfl, f'⟩; clear q0 t0; have HM := hid (HM5.out.frm (Frm.trans (((Frm.refl (fun _ => False) _).alloc _).drew) f') (fun h => h)); have HT := hid (HT5.out.frm (Frm.trans (((Frm.refl (fun _ => False) _).alloc _).drew) f') (fun h => h)); have HO := hid (HO5.out.quiet (Frm.trans (((Frm.refl (fun _ => False) _).alloc _).drew) f')); have HF := hid (below_frm0 HF5.out (Frm.trans (((Frm.refl (fun _ => False) _).alloc _).drew) f')); have HR := hid (((show Blk (w5.alloc (.cells (rqC (⟨(n0 : Int) + 1, T + 1, 1, Y, (i : Int)⟩ : Rq)).toArray TRq)).drew w5.heap.size (rqC (⟨(n0 : Int) + 1, T + 1, 1, Y, (i : Int)⟩ : Rq)) TRq from (Blk.new w5 (rqC (⟨(n0 : Int) + 1, T + 1, 1, Y, (i : Int)⟩ : Rq)) TRq).drew)).frm f' (fun h => h)); clear HM5 HT5 HO5 HF5 f'; have r0 := HR.out.cell 0; have r1 := HR.out.cell 1; have r2 := HR.out.cell 2; have r3 := HR.out.cell 3; have r4 := HR.out.cell 4; (simp only [rqC, List.getElem?_cons_succ, List.getElem?_cons_zero] at r0 r1 r2 r3 r4))
          | (go_at_call 11; (with_reducible refine (Apply_new HM.out ((n0 : Int) + 1) (T + 1) 1 Y (i : Int) HCC.out HTB1.out HYB.out.1 HVB.out HN1.out X Z HX.out HZ.out).mono ?_); rintro e w7 ⟨rfl, h', f'⟩; clear r0 r1 r2 r3 r4; have n0_ := hid (HT.out.frm f' HMT.out.symm); have n1_ := hid (HO.out.frm f' (fun k hk => HNM.out k hk)); have n2_ := hid (HR.out.frm f' (fun e => by have h1 := (blk_two HR.out HM.out.blk e); exact absurd h1 (by decide))); have n3_ := hid (below_frm1 HF.out f' HB.out); clear HT HO HR HF; have HT := n0_; clear n0_; have HO := n1_; clear n1_; have HR := n2_; clear n2_; have HF := n3_; clear n3_; clear HM; have HM := hid h'; clear h' f'; have r0 := HR.out.cell 0; have r1 := HR.out.cell 1; have r2 := HR.out.cell 2; have r3 := HR.out.cell 3; have r4 := HR.out.cell 4; (simp only [rqC, List.getElem?_cons_succ, List.getElem?_cons_zero] at r0 r1 r2 r3 r4))
          | (at_builtin; refine wpList_moreR R rfl _ _ rfl rfl (HO.out.quiet (frm_box _ _)) (fun k hk => by have := HF.out.size; simp; omega) (by rw [HRR.out]; exact Blk.new w8 (rqC ⟨(n0 : Int) + 1, T + 1, 1, Y, (i : Int)⟩) TRq) (by have := HLL.out; have := HI40.out; omega) (by first | rfl | exact HLA.out.symm) rfl ?_; intro v' w9 ho' hf' hat'; have HO9 := hid ho'; have HM9 := hid ((HM.out.frm (frm_box w8 _) (fun h => h)).frm hf' (fun e => HNM.out _ e rfl)); have HT9 := hid ((HT.out.frm (frm_box w8 _) (fun h => h)).frm hf' (fun e => HNT.out _ e rfl)); have HF9 := hid (below_frm (HF.out.alloc HF.out.size _) hf' (fun k hk e => HO.out.off k e hk)); clear ho' hf' hat'))
        go_roundw
        case rel => exact ⟨i + 1, _, _, v', l ++ [R], by have := HLT.out; omega, rfl, by go_num, by rw [List.length_append, HLL.out]; rfl, HM9.out, HT9.out, HO9.out, (by have h := HG.out.snoc HCL.out R X (by rw [HRR.out]; dsimp only; omega) (by rw [HRR.out]; exact HYB.out.1) (by rw [HRR.out]; exact HVB.out) (by rw [HRR.out]; exact HRE.out) (by rw [HRR.out]; dsimp only; rw [HTT.out]; omega); rw [HRR.out] at h ⊢; exact h), (fun c => getT_up HCL.out HTL.out HTI.out c), HF9.out⟩
        case measure => simp [intOf]; have := HLT.out; omega
      · have e4 : IntKind.u8.wrap (1 + 1) = 2 := by decide
        obtain ⟨R, hR⟩ : ∃ R : Rq, R = ⟨(n0 : Int) + 1, T + 1, 2, Y, 0⟩ := ⟨_, rfl⟩
        have HRR := hid hR
        have HCC := hid (show 0 ≤ (n0 : Int) + 1 by omega)
        have HTB1 := hid (show 0 ≤ T + 1 ∧ T + 1 ≤ 4294967295 by omega)
        have HVB := hid (show 0 ≤ (0 : Int) ∧ (0 : Int) ≤ 65535 by omega)
        have hreal : isReal ((n0 : Int) + 1) (T + 1) 2 Y 0 = true := real_of (by omega) (by omega) (by decide) (by have := HYB.out; omega) (by first | exact .inl (by decide) | exact .inr rfl)
        have HRE := hid hreal
        have HN1 := hid (isNew_of hreal (show getT cs ((n0 : Int) + 1) < T + 1 by rw [HTT.out]; omega))
        obtain ⟨X, hX⟩ : ∃ X, doesR 2 (getV vs Y) 0 = X := ⟨_, rfl⟩
        obtain ⟨Z, hZ⟩ : ∃ Z, doesV 2 (getV vs Y) 0 = Z := ⟨_, rfl⟩
        have HX := hid hX; have HZ := hid hZ
        have HTN := hid (show getT (setC cs ((n0 : Int) + 1) (T + 1) X) ((n0 : Int) + 1) = T + 1 from getT_set_eq HCL.out (by omega) (by omega) _ _)
        have HN2 := hid (show isNew (setC cs ((n0 : Int) + 1) (T + 1) X) ((n0 : Int) + 1) (T + 1) 2 Y 0 = false from isNew_not (by rw [HTN.out]; exact Int.le_refl _))
        have HTS := hid (tsV_set HCL.out n0 HN4.out (T + 1) X)
        clear hR hreal hX hZ
        go_wp2
        obtain ⟨w5, hw5⟩ : ∃ w5, w5 = wr.setCell ⟨tb, n0 + 1, none⟩ (.int .u32 (T + 1)) := ⟨_, rfl⟩
        have f5 : Frm (· = tb) wr w5 := hw5 ▸ (Frm.refl (· = tb) wr).setCell _ _ (.inr rfl)
        have HM5 := hid (HM.out.frm f5 HMT.out)
        have HT5 := hid (show Blk w5 tb (tsV (setC cs ((n0 : Int) + 1) (T + 1) X)) TTs by rw [hw5, ← HTS.out]; exact HT.out.setCell _ _)
        have HO5 := hid (HO.out.frm f5 (fun k hk e => HNT.out k hk e))
        have HF5 := hid (below_frm1 HF.out f5 HTB.out)
        rw [← hw5]
        clear HM HT HO HF f5 hw5 q0 t0 z0f
        have q0 : w5.cell? ⟨ga, oa + i, none⟩ = some (.int .u8 x) := (HF5.out.cell (p := ⟨ga, oa + i, none⟩) HGA.out).trans HXA.out
        have t0 := HT5.out.cell (n0 + 1)
        rw [tsV_at _ n0 HN4.out, HTN.out] at t0
        have hl1 : ga < w5.heap.size := Nat.lt_of_lt_of_le HGA.out HF5.out.size
        have hl2 := HT5.out.lt
        go_region
        clear hl1 hl2
        go_wp2_with (first
          | (go_at_call 13; have tk9 := HR; (with_reducible refine (SNew_calls HM.out ((n0 : Int) + 1) (T + 1) 2 Y 0 HCC.out false HN2.out).mono ?_); rintro e w8 ⟨rfl, f'⟩; clear r0 r1 r2 r3 r4; have n0_ := hid (HM.out.frm f' (fun h => h)); have n1_ := hid (HT.out.frm f' (fun h => h)); have n2_ := hid (HO.out.quiet f'); have n3_ := hid (HR.out.frm f' (fun h => h)); have n4_ := hid (below_frm0 HF.out f'); clear HM HT HO HR HF; have HM := n0_; clear n0_; have HT := n1_; clear n1_; have HO := n2_; clear n2_; have HR := n3_; clear n3_; have HF := n4_; clear n4_; clear f'; have r0 := HR.out.cell 0; have r1 := HR.out.cell 1; have r2 := HR.out.cell 2; have r3 := HR.out.cell 3; have r4 := HR.out.cell 4; (simp only [rqC, List.getElem?_cons_succ, List.getElem?_cons_zero] at r0 r1 r2 r3 r4))
          | (go_at_call 13; (with_reducible refine (SNew_calls (HM5.out.frm (((Frm.refl (fun _ => False) _).alloc _).drew) (fun h => h)) ((n0 : Int) + 1) (T + 1) 2 Y 0 HCC.out true HN1.out).mono ?_); rintro e w6 ⟨rfl, f'⟩; clear q0 t0; have HM := hid (HM5.out.frm (Frm.trans (((Frm.refl (fun _ => False) _).alloc _).drew) f') (fun h => h)); have HT := hid (HT5.out.frm (Frm.trans (((Frm.refl (fun _ => False) _).alloc _).drew) f') (fun h => h)); have HO := hid (HO5.out.quiet (Frm.trans (((Frm.refl (fun _ => False) _).alloc _).drew) f')); have HF := hid (below_frm0 HF5.out (Frm.trans (((Frm.refl (fun _ => False) _).alloc _).drew) f')); have HR := hid (((show Blk (w5.alloc (.cells (rqC (⟨(n0 : Int) + 1, T + 1, 2, Y, 0⟩ : Rq)).toArray TRq)).drew w5.heap.size (rqC (⟨(n0 : Int) + 1, T + 1, 2, Y, 0⟩ : Rq)) TRq from (Blk.new w5 (rqC (⟨(n0 : Int) + 1, T + 1, 2, Y, 0⟩ : Rq)) TRq).drew)).frm f' (fun h => h)); clear HM5 HT5 HO5 HF5 f'; have r0 := HR.out.cell 0; have r1 := HR.out.cell 1; have r2 := HR.out.cell 2; have r3 := HR.out.cell 3; have r4 := HR.out.cell 4; (simp only [rqC, List.getElem?_cons_succ, List.getElem?_cons_zero] at r0 r1 r2 r3 r4))
          | (go_at_call 11; (with_reducible refine (Apply_new HM.out ((n0 : Int) + 1) (T + 1) 2 Y 0 HCC.out HTB1.out HYB.out.1 HVB.out HN1.out X Z HX.out HZ.out).mono ?_); rintro e w7 ⟨rfl, h', f'⟩; clear r0 r1 r2 r3 r4; have n0_ := hid (HT.out.frm f' HMT.out.symm); have n1_ := hid (HO.out.frm f' (fun k hk => HNM.out k hk)); have n2_ := hid (HR.out.frm f' (fun e => by have h1 := (blk_two HR.out HM.out.blk e); exact absurd h1 (by decide))); have n3_ := hid (below_frm1 HF.out f' HB.out); clear HT HO HR HF; have HT := n0_; clear n0_; have HO := n1_; clear n1_; have HR := n2_; clear n2_; have HF := n3_; clear n3_; clear HM; have HM := hid h'; clear h' f'; have r0 := HR.out.cell 0; have r1 := HR.out.cell 1; have r2 := HR.out.cell 2; have r3 := HR.out.cell 3; have r4 := HR.out.cell 4; (simp only [rqC, List.getElem?_cons_succ, List.getElem?_cons_zero] at r0 r1 r2 r3 r4))
          | (at_builtin; refine wpList_moreR R rfl _ _ rfl rfl (HO.out.quiet (frm_box _ _)) (fun k hk => by have := HF.out.size; simp; omega) (by rw [HRR.out]; exact Blk.new w8 (rqC ⟨(n0 : Int) + 1, T + 1, 2, Y, 0⟩) TRq) (by have := HLL.out; have := HI40.out; omega) (by first | rfl | exact HLA.out.symm) rfl ?_; intro v' w9 ho' hf' hat'; have HO9 := hid ho'; have HM9 := hid ((HM.out.frm (frm_box w8 _) (fun h => h)).frm hf' (fun e => HNM.out _ e rfl)); have HT9 := hid ((HT.out.frm (frm_box w8 _) (fun h => h)).frm hf' (fun e => HNT.out _ e rfl)); have HF9 := hid (below_frm (HF.out.alloc HF.out.size _) hf' (fun k hk e => HO.out.off k e hk)); clear ho' hf' hat'))
        go_roundw
        case rel => exact ⟨i + 1, _, _, v', l ++ [R], by have := HLT.out; omega, rfl, by go_num, by rw [List.length_append, HLL.out]; rfl, HM9.out, HT9.out, HO9.out, (by have h := HG.out.snoc HCL.out R X (by rw [HRR.out]; dsimp only; omega) (by rw [HRR.out]; exact HYB.out.1) (by rw [HRR.out]; exact HVB.out) (by rw [HRR.out]; exact HRE.out) (by rw [HRR.out]; dsimp only; rw [HTT.out]; omega); rw [HRR.out] at h ⊢; exact h), (fun c => getT_up HCL.out HTL.out HTI.out c), HF9.out⟩
        case measure => simp [intOf]; have := HLT.out; omega
      · have e4 : IntKind.u8.wrap (1 + 2) = 3 := by decide
        obtain ⟨R, hR⟩ : ∃ R : Rq, R = ⟨(n0 : Int) + 1, T + 1, 3, Y, (i : Int)⟩ := ⟨_, rfl⟩
        have HRR := hid hR
        have HCC := hid (show 0 ≤ (n0 : Int) + 1 by omega)
        have HTB1 := hid (show 0 ≤ T + 1 ∧ T + 1 ≤ 4294967295 by omega)
        have HVB := hid (show 0 ≤ ((i : Int) : Int) ∧ ((i : Int) : Int) ≤ 65535 by omega)
        have hreal : isReal ((n0 : Int) + 1) (T + 1) 3 Y (i : Int) = true := real_of (by omega) (by omega) (by decide) (by have := HYB.out; omega) (by first | exact .inl (by decide) | exact .inr rfl)
        have HRE := hid hreal
        have HN1 := hid (isNew_of hreal (show getT cs ((n0 : Int) + 1) < T + 1 by rw [HTT.out]; omega))
        obtain ⟨X, hX⟩ : ∃ X, doesR 3 (getV vs Y) (i : Int) = X := ⟨_, rfl⟩
        obtain ⟨Z, hZ⟩ : ∃ Z, doesV 3 (getV vs Y) (i : Int) = Z := ⟨_, rfl⟩
        have HX := hid hX; have HZ := hid hZ
        have HTN := hid (show getT (setC cs ((n0 : Int) + 1) (T + 1) X) ((n0 : Int) + 1) = T + 1 from getT_set_eq HCL.out (by omega) (by omega) _ _)
        have HN2 := hid (show isNew (setC cs ((n0 : Int) + 1) (T + 1) X) ((n0 : Int) + 1) (T + 1) 3 Y (i : Int) = false from isNew_not (by rw [HTN.out]; exact Int.le_refl _))
        have HTS := hid (tsV_set HCL.out n0 HN4.out (T + 1) X)
        clear hR hreal hX hZ
        go_wp2
        obtain ⟨w5, hw5⟩ : ∃ w5, w5 = wr.setCell ⟨tb, n0 + 1, none⟩ (.int .u32 (T + 1)) := ⟨_, rfl⟩
        have f5 : Frm (· = tb) wr w5 := hw5 ▸ (Frm.refl (· = tb) wr).setCell _ _ (.inr rfl)
        have HM5 := hid (HM.out.frm f5 HMT.out)
        have HT5 := hid (show Blk w5 tb (tsV (setC cs ((n0 : Int) + 1) (T + 1) X)) TTs by rw [hw5, ← HTS.out]; exact HT.out.setCell _ _)
        have HO5 := hid (HO.out.frm f5 (fun k hk e => HNT.out k hk e))
        have HF5 := hid (below_frm1 HF.out f5 HTB.out)
        rw [← hw5]
        clear HM HT HO HF f5 hw5 q0 t0 z0f
        have q0 : w5.cell? ⟨ga, oa + i, none⟩ = some (.int .u8 x) := (HF5.out.cell (p := ⟨ga, oa + i, none⟩) HGA.out).trans HXA.out
        have t0 := HT5.out.cell (n0 + 1)
        rw [tsV_at _ n0 HN4.out, HTN.out] at t0
        have hl1 : ga < w5.heap.size := Nat.lt_of_lt_of_le HGA.out HF5.out.size
        have hl2 := HT5.out.lt
        go_region
        clear hl1 hl2
        go_wp2_with (first
          | (go_at_call 13; have tk9 := HR; (with_reducible refine (SNew_calls HM.out ((n0 : Int) + 1) (T + 1) 3 Y (i : Int) HCC.out false HN2.out).mono ?_); rintro e w8 ⟨rfl, f'⟩; clear r0 r1 r2 r3 r4; have n0_ := hid (HM.out.frm f' (fun h => h)); have n1_ := hid (HT.out.frm f' (fun h => h)); have n2_ := hid (HO.out.quiet f'); have n3_ := hid (HR.out.frm f' (fun h => h)); have n4_ := hid (below_frm0 HF.out f'); clear HM HT HO HR HF; have HM := n0_; clear n0_; have HT := n1_; clear n1_; have HO := n2_; clear n2_; have HR := n3_; clear n3_; have HF := n4_; clear n4_; clear f'; have r0 := HR.out.cell 0; have r1 := HR.out.cell 1; have r2 := HR.out.cell 2; have r3 := HR.out.cell 3; have r4 := HR.out.cell 4; (simp only [rqC, List.getElem?_cons_succ, List.getElem?_cons_zero] at r0 r1 r2 r3 r4))
          | (go_at_call 13; (with_reducible refine (SNew_calls (HM5.out.frm (((Frm.refl (fun _ => False) _).alloc _).drew) (fun h => h)) ((n0 : Int) + 1) (T + 1) 3 Y (i : Int) HCC.out true HN1.out).mono ?_); rintro e w6 ⟨rfl, f'⟩; clear q0 t0; have HM := hid (HM5.out.frm (Frm.trans (((Frm.refl (fun _ => False) _).alloc _).drew) f') (fun h => h)); have HT := hid (HT5.out.frm (Frm.trans (((Frm.refl (fun _ => False) _).alloc _).drew) f') (fun h => h)); have HO := hid (HO5.out.quiet (Frm.trans (((Frm.refl (fun _ => False) _).alloc _).drew) f')); have HF := hid (below_frm0 HF5.out (Frm.trans (((Frm.refl (fun _ => False) _).alloc _).drew) f')); have HR := hid (((show Blk (w5.alloc (.cells (rqC (⟨(n0 : Int) + 1, T + 1, 3, Y, (i : Int)⟩ : Rq)).toArray TRq)).drew w5.heap.size (rqC (⟨(n0 : Int) + 1, T + 1, 3, Y, (i : Int)⟩ : Rq)) TRq from (Blk.new w5 (rqC (⟨(n0 : Int) + 1, T + 1, 3, Y, (i : Int)⟩ : Rq)) TRq).drew)).frm f' (fun h => h)); clear HM5 HT5 HO5 HF5 f'; have r0 := HR.out.cell 0; have r1 := HR.out.cell 1; have r2 := HR.out.cell 2; have r3 := HR.out.cell 3; have r4 := HR.out.cell 4; (simp only [rqC, List.getElem?_cons_succ, List.getElem?_cons_zero] at r0 r1 r2 r3 r4))
          | (go_at_call 11; (with_reducible refine (Apply_new HM.out ((n0 : Int) + 1) (T + 1) 3 Y (i : Int) HCC.out HTB1.out HYB.out.1 HVB.out HN1.out X Z HX.out HZ.out).mono ?_); rintro e w7 ⟨rfl, h', f'⟩; clear r0 r1 r2 r3 r4; have n0_ := hid (HT.out.frm f' HMT.out.symm); have n1_ := hid (HO.out.frm f' (fun k hk => HNM.out k hk)); have n2_ := hid (HR.out.frm f' (fun e => by have h1 := (blk_two HR.out HM.out.blk e); exact absurd h1 (by decide))); have n3_ := hid (below_frm1 HF.out f' HB.out); clear HT HO HR HF; have HT := n0_; clear n0_; have HO := n1_; clear n1_; have HR := n2_; clear n2_; have HF := n3_; clear n3_; clear HM; have HM := hid h'; clear h' f'; have r0 := HR.out.cell 0; have r1 := HR.out.cell 1; have r2 := HR.out.cell 2; have r3 := HR.out.cell 3; have r4 := HR.out.cell 4; (simp only [rqC, List.getElem?_cons_succ, List.getElem?_cons_zero] at r0 r1 r2 r3 r4))
          | (at_builtin; refine wpList_moreR R rfl _ _ rfl rfl (HO.out.quiet (frm_box _ _)) (fun k hk => by have := HF.out.size; simp; omega) (by rw [HRR.out]; exact Blk.new w8 (rqC ⟨(n0 : Int) + 1, T + 1, 3, Y, (i : Int)⟩) TRq) (by have := HLL.out; have := HI40.out; omega) (by first | rfl | exact HLA.out.symm) rfl ?_; intro v' w9 ho' hf' hat'; have HO9 := hid ho'; have HM9 := hid ((HM.out.frm (frm_box w8 _) (fun h => h)).frm hf' (fun e => HNM.out _ e rfl)); have HT9 := hid ((HT.out.frm (frm_box w8 _) (fun h => h)).frm hf' (fun e => HNT.out _ e rfl)); have HF9 := hid (below_frm (HF.out.alloc HF.out.size _) hf' (fun k hk e => HO.out.off k e hk)); clear ho' hf' hat'))
        go_roundw
        case rel => exact ⟨i + 1, _, _, v', l ++ [R], by have := HLT.out; omega, rfl, by go_num, by rw [List.length_append, HLL.out]; rfl, HM9.out, HT9.out, HO9.out, (by have h := HG.out.snoc HCL.out R X (by rw [HRR.out]; dsimp only; omega) (by rw [HRR.out]; exact HYB.out.1) (by rw [HRR.out]; exact HVB.out) (by rw [HRR.out]; exact HRE.out) (by rw [HRR.out]; dsimp only; rw [HTT.out]; omega); rw [HRR.out] at h ⊢; exact h), (fun c => getT_up HCL.out HTL.out HTI.out c), HF9.out⟩
        case measure => simp [intOf]; have := HLT.out; omega
    · have hil : (z0.length : Int) ≤ (i : Int) := by omega
      clear hlt
      go_wp2_with (first
        | (go_at_call 14; (with_reducible refine (PCopy_calls HM.out).mono ?_); rintro e w10 ⟨rfl, h', f'⟩; have HC := hid h'; have n0_ := hid (HM.out.frm (frm0_of f') (fun h => h)); have n1_ := hid (HT.out.frm (frm0_of f') (fun h => h)); have n2_ := hid (HO.out.quiet (frm0_of f')); have n3_ := hid (below_next HF.out f'); clear HM HT HO HF; have HM := n0_; clear n0_; have HT := n1_; clear n1_; have HO := n2_; clear n2_; have HF := n3_; clear n3_; clear f' h'))
      obtain ⟨la2, lc2, hv2⟩ := HO.out.slice
      subst hv2
      clear HLA HNM HNT la lc
      generalize hcb : wr.heap.size = cb at *
      clear hcb
      go_loopw [15] (fun iv wr => ∃ j : Nat, j ≤ z1.length ∧ iv = .int .i64 j ∧ IsMap wr mb vs cs ∧ IsMap wr cb vs cs ∧ Blk wr tb (tsV cs) TTs ∧ OwnR wr (fun k => k < w.heap.size) (.slice la2 l.length lc2) l ∧ Below w.heap.size w wr) (fun i _ => z1.length - (intOf i).toNat)
      case atStart => exact ⟨0, by omega, rfl, HM.out, HC.out, HT.out, HO.out, HF.out⟩
      case round =>
        clear HM HC HT HO HF
        obtain ⟨j, hj, rfl, hm, hc, ht, ho, hf⟩ := hrel
        have HM := hid hm; have HC := hid hc; have HT := hid ht; have HO := hid ho; have HF := hid hf
        clear hm hc ht ho hf
        by_cases hlt2 : j < z1.length
        · by_cases hl0 : 0 < l.length
          · obtain ⟨ga, oa, rfl, hga, hca⟩ := H1.out.at_ (by omega)
            have hxa := hca j hlt2
            have wfa : (Lit.int .u8 (z1.getD j 0)).wf = true := H1.out.wf _ (by rw [List.getD_eq_getElem?_getD, List.getElem?_eq_getElem hlt2]; exact List.getElem_mem hlt2)
            generalize z1.getD j 0 = x at hxa wfa
            have hx := bounds_u8 wfa
            have q0 := (HF.out.cell (p := ⟨ga, oa + j, none⟩) hga).trans hxa
            obtain ⟨n, hn⟩ : ∃ n, l.length = n := ⟨_, rfl⟩
            obtain ⟨q, hq⟩ := Int.eq_ofNat_of_zero_le (Int.emod_nonneg x (show (n : Int) ≠ 0 by omega))
            have hqn : q < n := by have := Int.emod_lt_of_pos x (show (0 : Int) < (n : Int) by omega); omega
            obtain ⟨g, c9, hv9, hc9, hc9m, hcell⟩ := HO.out.at_ (by omega)
            injection hv9 with hv91 hv92 hv93
            subst hv91 hv93
            obtain ⟨r, hr⟩ : ∃ r, l[q]? = some r := ⟨l[q]'(by omega), List.getElem?_eq_getElem (by omega)⟩
            have hgr := HG.out r (List.mem_of_getElem? hr)
            have r0 := hcell q r hr 0 (by decide); have r1 := hcell q r hr 1 (by decide); have r2 := hcell q r hr 2 (by decide); have r3 := hcell q r hr 3 (by decide); have r4 := hcell q r hr 4 (by decide)
            obtain ⟨c, t, k, y, v⟩ := r
            simp only [rqC, List.getElem?_cons_succ, List.getElem?_cons_zero, Nat.add_zero] at r0 r1 r2 r3 r4
            dsimp only at hgr
            obtain ⟨⟨hc1, hc4⟩, hy0, hvb, hre, htle⟩ := hgr
            obtain ⟨nc, hnc⟩ : ∃ nc : Nat, c = (nc : Int) + 1 := ⟨(c - 1).toNat, by omega⟩
            subst hnc
            obtain ⟨TC, hTC⟩ : ∃ T, getT cs ((nc : Int) + 1) = T := ⟨_, rfl⟩
            have HNC := hid (show nc < 4 by omega)
            have HCC := hid (show 0 ≤ (nc : Int) + 1 by omega)
            have HYB := hid hy0; have HVB := hid hvb; have HRE := hid hre; have HTC := hid hTC; have HLT2 := hid hlt2
            have hnci : (nc : Int) < 4 := by omega
            rw [hn]
            have hx0 := hx.1
            have hj60 : (j : Int) ≤ 60 := by omega
            have hjl : (j : Int) < (z1.length : Int) := by omega
            have hn0i : (0 : Int) < (n : Int) := by omega
            have hqi : (q : Int) < (n : Int) := by omega
            have HNN := hid hn
            have hw6 : wrap64 x = x := by unfold wrap64; omega
            have hq2 : (wrap64 x).tmod (n : Int) = (q : Int) := by rw [hw6, Int.tmod_eq_emod_of_nonneg hx0, hq]
            clear hw6
            rw [hTC] at htle
            clear hca hxa wfa hga hx hcell hr hy0 hvb hre hTC hn hlt2 hv92 hc1 hc4
            by_cases hte : t = TC
            · have HTE := hid (show getT cs ((nc : Int) + 1) = t by rw [HTC.out, hte])
              subst hte
              obtain ⟨X, hX⟩ : ∃ X, getR cs ((nc : Int) + 1) = X := ⟨_, rfl⟩
              have HX := hid hX; clear hX htle
              go_wp2_with (first
                | (go_at_call 11; (with_reducible refine (Apply_same (HM.out.frm (frm_box _ _) (fun h => h)) ((nc : Int) + 1) t k y v HCC.out HYB.out HVB.out HRE.out HTE.out X HX.out).mono ?_); rintro e w11 ⟨rfl, f'⟩; have n0_ := hid (HM.out.frm ((frm_box _ _).trans f') (fun h => h)); have n1_ := hid (HC.out.frm ((frm_box _ _).trans f') (fun h => h)); have n2_ := hid (HT.out.frm ((frm_box _ _).trans f') (fun h => h)); have n3_ := hid (HO.out.quiet ((frm_box _ _).trans f')); have n4_ := hid (below_frm0 HF.out ((frm_box _ _).trans f')); clear HM HC HT HO HF; have HM := n0_; clear n0_; have HC := n1_; clear n1_; have HT := n2_; clear n2_; have HO := n3_; clear n3_; have HF := n4_; clear n4_; have HR := hid ((Rq_new wr ((nc : Int) + 1) t k y v).frm f' (fun h => h)); clear f' q0 r0 r1 r2 r3 r4))
              have HM2 := hid (HM.out.frm (Frm.refl (fun _ => False) w11).drew (fun h => h)); have HC2 := hid (HC.out.frm (Frm.refl (fun _ => False) w11).drew (fun h => h)); have HT2 := hid (HT.out.frm (Frm.refl (fun _ => False) w11).drew (fun h => h)); have HO2 := hid (HO.out.quiet (Frm.refl (fun _ => False) w11).drew); have HR2 := hid (HR.out.frm (Frm.refl (fun _ => False) w11).drew (fun h => h)); have HF2 := hid (below_frm0 HF.out (Frm.refl (fun _ => False) w11).drew)
              have s0 := HR.out.cell 0; have s1 := HR.out.cell 1; have s2 := HT.out.cell (nc + 1)
              simp only [List.getElem?_cons_succ, List.getElem?_cons_zero] at s0 s1
              rw [tsV_at _ nc HNC.out, HTC.out] at s2
              clear HM HC HT HO HR HF
              have HM := HM2; have HC := HC2; have HT := HT2; have HO := HO2; have HR := HR2; have HF := HF2; clear HM2 HC2 HT2 HO2 HR2 HF2
              generalize hrb : wr.heap.size = rb at *
              have hb1 : (0 : Int) ≤ (nc : Int) + 1 := by omega
              have hb2 : (nc : Int) + 1 < 5 := by omega
              have hb3 : ((nc : Int) + 1).toNat = nc + 1 := by omega
              go_region_held3 (fun wx => wx.cell? ⟨rb, 0, none⟩ = some (.int .u8 ((nc : Int) + 1)) ∧ wx.cell? ⟨rb, 1, none⟩ = some (.int .u32 t) ∧ wx.cell? ⟨tb, nc + 1, none⟩ = some (.int .u32 t)) (first | go_keep | exact ⟨s0, s1, s2⟩) ((go_at_call 15; (with_reducible refine (PSame_calls HM.out HC.out true (by simp)).mono ?_); rintro e w12 ⟨rfl, f'⟩; have n0_ := hid (HM.out.frm f' (fun h => h)); have n1_ := hid (HC.out.frm f' (fun h => h)); have n2_ := hid (HT.out.frm f' (fun h => h)); have n3_ := hid (HO.out.quiet f'); have n4_ := hid (HR.out.frm f' (fun h => h)); have n5_ := hid (below_frm0 HF.out f'); clear HM HC HT HO HR HF; have HM := n0_; clear n0_; have HC := n1_; clear n1_; have HT := n2_; clear n2_; have HO := n3_; clear n3_; have HR := n4_; clear n4_; have HF := n5_; clear n5_; clear f' s0 s1 s2; have s0 := HR.out.cell 0; have s1 := HR.out.cell 1; (simp only [List.getElem?_cons_succ, List.getElem?_cons_zero] at s0 s1); have s2 := HT.out.cell (nc + 1); (rw [tsV_at _ nc HNC.out, HTC.out] at s2)))
              go_wp2
              go_roundw
              case rel => exact ⟨j + 1, by have := HLT2.out; omega, by go_num, HM.out, HC.out, HT.out, (by rw [← HNN.out]; exact HO.out), HF.out⟩
              case measure => simp [intOf]; have := HLT2.out; omega
            · have HN1 := hid (show isNew cs ((nc : Int) + 1) t k y v = false from isNew_not (by rw [HTC.out]; exact htle))
              have HNS := hid (show ¬ (isReal ((nc : Int) + 1) t k y v = true ∧ getT cs ((nc : Int) + 1) = t) from fun h => hte (by rw [← h.2, HTC.out]))
              have ze : (t == TC) = false := beq_eq_false_iff_ne.2 hte
              clear hte htle
              go_wp2_with (first
                | (go_at_call 11; (with_reducible refine (Apply_none (HM.out.frm (frm_box _ _) (fun h => h)) ((nc : Int) + 1) t k y v HCC.out HN1.out HNS.out).mono ?_); rintro e w11 ⟨rfl, f'⟩; have n0_ := hid (HM.out.frm ((frm_box _ _).trans f') (fun h => h)); have n1_ := hid (HC.out.frm ((frm_box _ _).trans f') (fun h => h)); have n2_ := hid (HT.out.frm ((frm_box _ _).trans f') (fun h => h)); have n3_ := hid (HO.out.quiet ((frm_box _ _).trans f')); have n4_ := hid (below_frm0 HF.out ((frm_box _ _).trans f')); clear HM HC HT HO HF; have HM := n0_; clear n0_; have HC := n1_; clear n1_; have HT := n2_; clear n2_; have HO := n3_; clear n3_; have HF := n4_; clear n4_; have HR := hid ((Rq_new wr ((nc : Int) + 1) t k y v).frm f' (fun h => h)); clear f' q0 r0 r1 r2 r3 r4))
              have HM2 := hid (HM.out.frm (Frm.refl (fun _ => False) w11).drew (fun h => h)); have HC2 := hid (HC.out.frm (Frm.refl (fun _ => False) w11).drew (fun h => h)); have HT2 := hid (HT.out.frm (Frm.refl (fun _ => False) w11).drew (fun h => h)); have HO2 := hid (HO.out.quiet (Frm.refl (fun _ => False) w11).drew); have HR2 := hid (HR.out.frm (Frm.refl (fun _ => False) w11).drew (fun h => h)); have HF2 := hid (below_frm0 HF.out (Frm.refl (fun _ => False) w11).drew)
              have s0 := HR.out.cell 0; have s1 := HR.out.cell 1; have s2 := HT.out.cell (nc + 1)
              simp only [List.getElem?_cons_succ, List.getElem?_cons_zero] at s0 s1
              rw [tsV_at _ nc HNC.out, HTC.out] at s2
              clear HM HC HT HO HR HF
              have HM := HM2; have HC := HC2; have HT := HT2; have HO := HO2; have HR := HR2; have HF := HF2; clear HM2 HC2 HT2 HO2 HR2 HF2
              generalize hrb : wr.heap.size = rb at *
              have hb1 : (0 : Int) ≤ (nc : Int) + 1 := by omega
              have hb2 : (nc : Int) + 1 < 5 := by omega
              have hb3 : ((nc : Int) + 1).toNat = nc + 1 := by omega
              go_region_held3 (fun wx => wx.cell? ⟨rb, 0, none⟩ = some (.int .u8 ((nc : Int) + 1)) ∧ wx.cell? ⟨rb, 1, none⟩ = some (.int .u32 t) ∧ wx.cell? ⟨tb, nc + 1, none⟩ = some (.int .u32 TC)) (first | go_keep | exact ⟨s0, s1, s2⟩) ((go_at_call 15; (with_reducible refine (PSame_calls HM.out HC.out true (by simp)).mono ?_); rintro e w12 ⟨rfl, f'⟩; have n0_ := hid (HM.out.frm f' (fun h => h)); have n1_ := hid (HC.out.frm f' (fun h => h)); have n2_ := hid (HT.out.frm f' (fun h => h)); have n3_ := hid (HO.out.quiet f'); have n4_ := hid (HR.out.frm f' (fun h => h)); have n5_ := hid (below_frm0 HF.out f'); clear HM HC HT HO HR HF; have HM := n0_; clear n0_; have HC := n1_; clear n1_; have HT := n2_; clear n2_; have HO := n3_; clear n3_; have HR := n4_; clear n4_; have HF := n5_; clear n5_; clear f' s0 s1 s2; have s0 := HR.out.cell 0; have s1 := HR.out.cell 1; (simp only [List.getElem?_cons_succ, List.getElem?_cons_zero] at s0 s1); have s2 := HT.out.cell (nc + 1); (rw [tsV_at _ nc HNC.out, HTC.out] at s2)))
              go_wp2
              go_roundw
              case rel => exact ⟨j + 1, by have := HLT2.out; omega, by go_num, HM.out, HC.out, HT.out, (by rw [← HNN.out]; exact HO.out), HF.out⟩
              case measure => simp [intOf]; have := HLT2.out; omega
          · have hl1 : l.length = 0 := by omega
            have hjl : (j : Int) < (z1.length : Int) := by omega
            rw [hl1]
            clear hl0 hl1
            go_wp2
            go_ret
            exact ⟨rfl, HF.out⟩
        · have hjl : (z1.length : Int) ≤ (j : Int) := by omega
          clear hlt2
          go_wp2
          go_ret
          exact ⟨rfl, HF.out⟩
end Go.Proofs.Ytaeonidjfmlbiaa
