/- check.Once: each request that is done stands there once (it always tells so). -/
import Derived.Test.YtljfbaakgjmmfaaChkRights
import Derived.Test.YtljfbaakgjmmfaaMapF
import Derived.DeepKeys4
namespace Go.Proofs.Ytljfbaakgjmmfaa
open Go.RowKit Go.ChangeShapes
set_option linter.unusedVariables false
set_option linter.unusedSimpArgs false
set_option maxRecDepth 100000
abbrev TMr : Nat := 74
abbrev TE : Nat := 77
abbrev TU8k : Nat := 5
def rqV (r : Rq) : Value := .agg #[.int .u8 r.c, .int .u32 r.t, .int .u8 r.k, .int .u8 r.y, .int .u16 r.v]
theorem wf8k {x : Int} (h : 0 ≤ x ∧ x ≤ 255) : (Lit.int .u8 x).wf = true := by simp [Lit.wf, IntKind.min, IntKind.max, IntKind.bits, IntKind.signed]; omega
theorem wf16k {x : Int} (h : 0 ≤ x ∧ x ≤ 65535) : (Lit.int .u16 x).wf = true := by simp [Lit.wf, IntKind.min, IntKind.max, IntKind.bits, IntKind.signed]; omega
theorem wf32k {x : Int} (h : 0 ≤ x ∧ x ≤ 4294967295) : (Lit.int .u32 x).wf = true := by simp [Lit.wf, IntKind.min, IntKind.max, IntKind.bits, IntKind.signed]; omega
theorem laid_rq : laidOutB Try.prog = true := by kernel_rfl
theorem row_rq : TRq < Try.prog.types.size := of_decide_eq_true (by kernel_rfl)
theorem wide_rq : (match Try.prog.underlying TRq with | some (.array _ _) | some (.struct _) => true | _ => false) = true := by rw [Try.underlying30]
theorem keyedRq : Go.Maps.Keyed Try.prog TRq := Go.Maps.Keyed.of_law (deep_law_laid laid_rq (m := 3) (by omega) row_rq (by kernel_rfl) wide_rq)
theorem kt_rq : Try.prog.keyType TRq = true := by kernel_rfl
theorem cells_rq : Try.prog.cellsOf TRq = 5 := by kernel_rfl
theorem cells_op : Try.prog.cellsOf 28 = 3 := by kernel_rfl
theorem cells_8 : Try.prog.cellsOf 5 = 1 := by kernel_rfl
theorem cells_16 : Try.prog.cellsOf 26 = 1 := by kernel_rfl
theorem cells_32 : Try.prog.cellsOf 25 = 1 := by kernel_rfl
theorem lits_op (m : Nat) {k y v : Int} (w2 : (Lit.int .u8 k).wf = true) (w3 : (Lit.int .u8 y).wf = true) (w4 : (Lit.int .u16 v).wf = true) :
    Try.prog.keyLits (m + 2) 28 [.int .u8 k, .int .u8 y, .int .u16 v] = some [.int .u8 k, .int .u8 y, .int .u16 v] := by
  unfold Program.keyLits
  simp only [Try.underlying28]
  rw [if_pos ⟨by rw [cells_op]; rfl, by kernel_rfl⟩]
  simp [Program.keyLits, Try.underlying5, Try.underlying26, cells_8, cells_16, w2, w3, w4, List.mapM_cons, List.mapM_nil]
theorem keyRq (r : Rq) (h : RqOk r) : ∃ kl, keyOf Try.prog TRq (rqV r) = some kl := by
  obtain ⟨m, hm⟩ : ∃ m, Try.prog.types.size + 1 = m + 3 := ⟨Try.prog.types.size - 2, by have h2 : 2 ≤ Try.prog.types.size := of_decide_eq_true (by kernel_rfl); omega⟩
  unfold keyOf
  simp only [Try.underlying30]
  rw [if_pos (by simp [kt_rq, rqV, Value.formed, Try.underlying30, cells_rq]), hm]
  have w0 := wf8k h.c
  have w1 := wf32k h.t
  have w2 := wf8k h.k
  have w3 := wf8k h.y
  have w4 := wf16k h.v
  obtain ⟨c, t, k, y, v⟩ := r
  dsimp only at w0 w1 w2 w3 w4
  have hop := lits_op m w2 w3 w4
  unfold Program.keyLits
  simp only [Try.underlying30, rqV, Value.cells]
  rw [if_pos ⟨by rw [cells_rq]; rfl, by kernel_rfl⟩]
  have h8 : Try.prog.keyLits (m + 2) 5 [.int .u8 c] = some [.int .u8 c] := by unfold Program.keyLits; simp [Try.underlying5, w0]
  have h32 : Try.prog.keyLits (m + 2) 25 [.int .u32 t] = some [.int .u32 t] := by unfold Program.keyLits; simp [Try.underlying25, w1]
  simp [hop, h8, h32, cells_op, cells_8, cells_32, List.mapM_cons, List.mapM_nil]
theorem u_mapr : Try.prog.underlying TMr = some (.map TRq TE) := Try.underlying74
theorem z_e (w : World) : (zeroValue TE).run Try.prog w = .ok (.agg #[]) w := by kernel_rfl
/-- Of what is met, each is no younger than its client's last one. -/
def Met (f : Value → Option Value) (cs : List Int) : Prop := ∀ r : Rq, 1 ≤ r.c → r.c ≤ 4 → f (rqV r) ≠ none → r.t ≤ getT cs r.c
theorem upd_ex (f : Value → Option Value) (key : Value) (r : Option Value) : ∃ f', IsUpd f f' key r := by
  classical exact ⟨fun x => if x = key then r else f x, if_pos rfl, fun x hx => if_neg hx⟩
theorem real_bd {c t k y v : Int} (h : isReal c t k y v = true) : 1 ≤ c ∧ c ≤ 4 := by
  have := of_decide_eq_true h
  exact ⟨this.1, this.2.1⟩
theorem new_real {cs : List Int} {c t k y v : Int} (h : isNew cs c t k y v = true) : isReal c t k y v = true ∧ getT cs c < t := by
  rw [isNew, Bool.and_eq_true] at h
  exact ⟨h.1, of_decide_eq_true h.2⟩
theorem Met.none {f : Value → Option Value} {cs : List Int} (h : Met f cs) (r : Rq) (hn : isNew cs r.c r.t r.k r.y r.v = true) : f (rqV r) = none := by
  obtain ⟨hr, ht⟩ := new_real hn
  cases hf : f (rqV r) with
  | none => rfl
  | some x =>
    have := h r (real_bd hr).1 (real_bd hr).2 (by rw [hf]; exact fun h => by cases h)
    omega
theorem rqV_inj {r q : Rq} (h : rqV r = rqV q) : r = q := by
  obtain ⟨a, b, c, d, e⟩ := r
  obtain ⟨a', b', c', d', e'⟩ := q
  simp [rqV] at h
  simp [h]
theorem Met.step {f f' : Value → Option Value} {vs cs : List Int} (h : Met f cs) (hl : cs.length = 10) (r : Rq) (hn : isNew cs r.c r.t r.k r.y r.v = true) {e : Value} (hu : IsUpd f f' (rqV r) (some e)) : Met f' (applyM vs cs r.c r.t r.k r.y r.v).2.2.2 := fun q h1 h4 hq => by
  obtain ⟨hr, ht⟩ := new_real hn
  obtain ⟨c1, c4⟩ := real_bd hr
  rw [applyM, if_pos hr, if_pos ht]
  dsimp only
  by_cases he : q.c = r.c
  · rw [he, getT_set_eq hl c1 c4]
    by_cases hqr : rqV q = rqV r
    · rw [rqV_inj hqr]; exact Int.le_refl _
    · rw [hu.ne _ hqr] at hq
      have := h q h1 h4 hq
      rw [he] at this
      omega
  · rw [getT_set_ne (by omega) (by omega) (fun e => he e.symm)]
    exact h q h1 h4 (by rw [← hu.ne _ (fun e => he (by rw [rqV_inj e]))]; exact hq)
set_option maxHeartbeats 8000000 in
theorem Once_calls {w : World} {a : Option Addr} {ca : Nat} {l : List Rq} (h : IsRqs w a ca l) (hlen : l.length ≤ 2000) :
    Calls Try.prog 14 #[.slice a l.length ca] w fun e w' => e = .returned (.bool true) ∧ Below w.heap.size w w' := by
  have hle := h.le
  have hsm := h.small
  have H0 := hid h; have HLN := hid hlen
  clear h hlen
  have hmm := @run_makeMap Try.prog
  go_enter Try.func14, Try.ntmps14
  go_wp2_with (go_at_call 23; (with_reducible refine (PNew_calls _).mono ?_); rintro e w2 ⟨rfl, h', f'⟩)
  clear hmm
  have HP0 := hid ((IsMp.made TRq w).frm (frm0_of f') (fun h => h))
  have HF0 := hid (below_frm0 ((Below.refl w.heap.size w).alloc (Nat.le_refl _) (.map #[] 0)) (frm0_of f'))
  have HM0 := hid h'
  clear h' f'
  go_loopw [13] (fun iv wr => ∃ (j n : Nat) (vs cs : List Int) (f : Value → Option Value), j ≤ l.length ∧ n ≤ j ∧ iv = .int .i64 j ∧ Met f cs ∧ IsMap wr (w.heap.size + 1) vs cs ∧ IsMp TRq wr w.heap.size n f ∧ Below w.heap.size w wr) (fun i _ => l.length - (intOf i).toNat)
  case atStart => exact ⟨0, 0, _, _, _, by omega, Nat.le_refl _, rfl, fun r _ _ h => absurd rfl h, (by have h := HM0.out; rw [World.size_alloc] at h; exact h), HP0.out, HF0.out⟩
  case round =>
    clear HM0 HP0 HF0
    obtain ⟨j, n, vs, cs, f, hj, hnj, rfl, hmet, hm, hp, hf⟩ := hrel
    have HF := hid hf; have HM := hid hm; have HP := hid hp; have HME := hid hmet; have HNJ := hid hnj
    clear hf hm hp hmet hnj
    by_cases hlt : j < l.length
    · obtain ⟨ga, oa, rfl, hga, hca⟩ := H0.out.at_ (by omega)
      obtain ⟨r, hr⟩ : ∃ r, l[j]? = some r := ⟨l[j]'hlt, List.getElem?_eq_getElem hlt⟩
      have hok := H0.out.ok r (List.mem_of_getElem? hr)
      have q0 := (HF.out.cell (p := ⟨ga, oa + j * 5 + 0, none⟩) hga).trans (hca j r hr 0 (by decide)); have q1 := (HF.out.cell (p := ⟨ga, oa + j * 5 + 1, none⟩) hga).trans (hca j r hr 1 (by decide)); have q2 := (HF.out.cell (p := ⟨ga, oa + j * 5 + 2, none⟩) hga).trans (hca j r hr 2 (by decide)); have q3 := (HF.out.cell (p := ⟨ga, oa + j * 5 + 3, none⟩) hga).trans (hca j r hr 3 (by decide)); have q4 := (HF.out.cell (p := ⟨ga, oa + j * 5 + 4, none⟩) hga).trans (hca j r hr 4 (by decide))
      clear hr hca
      obtain ⟨kl, hkl⟩ := keyRq r hok
      obtain ⟨f2, hf2⟩ := upd_ex f (rqV r) (some (.agg #[]))
      have hstep := fun hn => HME.out.step (vs := vs) HM.out.lc r hn hf2
      have hnone := fun hn => HME.out.none r hn
      obtain ⟨c, t, k, y, v⟩ := r
      obtain ⟨hc0, ht0, hk0, hy0, hv0⟩ := hok
      dsimp only at hc0 ht0 hk0 hy0 hv0 hstep hnone
      simp only [rqC, List.getElem?_cons_succ, List.getElem?_cons_zero, Nat.add_zero] at q0 q1 q2 q3 q4
      obtain ⟨nw, hnw⟩ : ∃ nw, isNew cs c t k y v = nw := ⟨_, rfl⟩
      have HCC := hid hc0; have HTT := hid ht0; have HYY := hid hy0; have HVV := hid hv0; have HNW := hid hnw; have HKL := hid hkl; have HU := hid hf2
      have hjl : (j : Int) < (l.length : Int) := by omega
      have HLT := hid hlt
      have HNE := hid (HP.out.not_blk HM.out.blk)
      cases nw
      · clear hlt hc0 ht0 hk0 hy0 hv0 hnw hkl hf2 hstep hnone hga
        go_wp2_with (first
          | (go_at_call 24; (with_reducible refine (SNew_calls (HM.out.frm (frm_box _ _) (fun h => h)) c t k y v HCC.out.1 _ HNW.out).mono ?_); rintro e w3 ⟨rfl, f'⟩; have n0_ := hid (HM.out.frm ((frm_box _ _).trans f') (fun h => h)); have n1_ := hid (HP.out.frm ((frm_box _ _).trans f') (fun h => h)); have n2_ := hid (below_frm0 HF.out ((frm_box _ _).trans f')); clear HM HP HF; have HM := n0_; clear n0_; have HP := n1_; clear n1_; have HF := n2_; clear n2_; have HR := hid ((Rq_new wr c t k y v).frm f' (fun h => h)); clear f' q0 q1 q2 q3 q4; have r0 := HR.out.cell 0; have r1 := HR.out.cell 1; have r2 := HR.out.cell 2; have r3 := HR.out.cell 3; have r4 := HR.out.cell 4; (simp only [List.getElem?_cons_succ, List.getElem?_cons_zero] at r0 r1 r2 r3 r4)))
        go_roundw
        case rel => exact ⟨j + 1, n, _, _, _, by have := HLT.out; omega, by have := HNJ.out; omega, by go_num, HME.out, HM.out, HP.out, HF.out⟩
        case measure => simp [intOf]; have := HLT.out; omega
      · have HST := hid (hstep hnw)
        have HNO := hid (hnone hnw)
        obtain ⟨X, ok, vs2, cs2, hX⟩ : ∃ X ok vs2 cs2, applyM vs cs c t k y v = (X, ok, vs2, cs2) := ⟨_, _, _, _, rfl⟩
        have HX := hid hX
        have HS2 := hid (show Met f2 cs2 by have h := HST.out; rw [HX.out] at h; exact h)
        clear hlt hc0 ht0 hk0 hy0 hv0 hnw hkl hf2 hstep hnone hga hX HST
        go_wp2_with (first
          | (go_at_call 24; (with_reducible refine (SNew_calls (HM.out.frm (frm_box _ _) (fun h => h)) c t k y v HCC.out.1 _ HNW.out).mono ?_); rintro e w3 ⟨rfl, f'⟩; have n0_ := hid (HM.out.frm ((frm_box _ _).trans f') (fun h => h)); have n1_ := hid (HP.out.frm ((frm_box _ _).trans f') (fun h => h)); have n2_ := hid (below_frm0 HF.out ((frm_box _ _).trans f')); clear HM HP HF; have HM := n0_; clear n0_; have HP := n1_; clear n1_; have HF := n2_; clear n2_; have HR := hid ((Rq_new wr c t k y v).frm f' (fun h => h)); clear f' q0 q1 q2 q3 q4; have r0 := HR.out.cell 0; have r1 := HR.out.cell 1; have r2 := HR.out.cell 2; have r3 := HR.out.cell 3; have r4 := HR.out.cell 4; (simp only [List.getElem?_cons_succ, List.getElem?_cons_zero] at r0 r1 r2 r3 r4); have hrl := HR.out.lt; have q9 := HP.out.look_none keyedRq u_mapr (z_e w3) HKL.out HNO.out true; (simp only [if_true, rqV] at q9))
          | (at_mapUpdate; refine wpList_mp_upd rfl _ _ _ rfl (HP.out.frm (frm_box _ _) (fun h => h)) keyedRq u_mapr (by have := HNJ.out; have := HLT.out; have := HLN.out; omega) _ _ _ HKL.out HU.out rfl rfl rfl ?_; rw [if_pos HNO.out]; intro w4 hp4 hf4 hs4; have HM2 := hid ((HM.out.frm (frm_box _ _) (fun h => h)).frm hf4 (fun e => HNE.out e.symm)); have HR2 := hid ((HR.out.frm (frm_box _ _) (fun h => h)).frm hf4 (fun e => (HP.out.not_blk HR.out) e.symm)); have HF2 := hid (below_frm1 (HF.out.alloc HF.out.size _) hf4 (Nat.le_refl _)); clear HM HR HF HP q9 r0 r1 r2 r3 r4 hrl; have HM := HM2; have HR := HR2; have HF := HF2; have HP := hid hp4; clear HM2 HR2 HF2 hp4 hf4 hs4; have r0 := HR.out.cell 0; have r1 := HR.out.cell 1; have r2 := HR.out.cell 2; have r3 := HR.out.cell 3; have r4 := HR.out.cell 4; (simp only [List.getElem?_cons_succ, List.getElem?_cons_zero] at r0 r1 r2 r3 r4))
          | (go_at_call 25; (with_reducible refine (Apply_any HM.out c t k y v HCC.out.1 HTT.out HYY.out.1 HVV.out X ok vs2 cs2 HX.out).mono ?_); rintro e w5 ⟨rfl, h', f'⟩; have n0_ := hid (HP.out.frm f' HNE.out); have n1_ := hid (below_frm1 HF.out f' (Nat.le_succ _)); clear HP HF; have HP := n0_; clear n0_; have HF := n1_; clear n1_; clear HM; have HM := hid h'; clear h' f'))
        go_roundw
        case rel => exact ⟨j + 1, _, _, _, _, by have := HLT.out; omega, by have := HNJ.out; omega, by go_num, HS2.out, HM.out, HP.out, HF.out⟩
        case measure => simp [intOf]; have := HLT.out; omega
    · have hjl : (l.length : Int) ≤ (j : Int) := by omega
      clear hlt
      go_wp2
      go_ret
      exact ⟨rfl, HF.out⟩
end Go.Proofs.Ytljfbaakgjmmfaa
