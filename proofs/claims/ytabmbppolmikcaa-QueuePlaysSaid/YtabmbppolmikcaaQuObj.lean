/- The queue: New, of, Len, Has. -/
import Derived.Test.YtabmbppolmikcaaQuDef
import Derived.Test.YtabmbppolmikcaaMapO
import Derived.Test.YtabmbppolmikcaaHeld
namespace Go.Proofs.Ytabmbppolmikcaa
open Go.RowKit Go.ChangeShapes
set_option linter.unusedVariables false
set_option linter.unusedSimpArgs false
set_option maxRecDepth 100000
theorem results_cell2 {fn : Func} {p q : Tmp} {ty : TypeId} (h : fn.results = #[.cell p ty, .tmp q]) (tmps : Array Value) (w : World) (g T : Nat) (cs : List Value) (fs : Array Field) (v : Value) (hp : tmps.getD p undef = .pointer (some ⟨g, 0, none⟩)) (hq : tmps.getD q undef = v) (hb : Blk w g cs T)
    (hu : Try.prog.underlying ty = some (.struct fs)) (hi : (Try.prog.info? ty).map (·.size) = some cs.length) : (results fn tmps).run Try.prog w = .ok (.tuple #[.agg cs.toArray, v]) w := by
  have hp' : tmps[p]?.getD undef = .pointer (some ⟨g, 0, none⟩) := by simpa using hp
  have hq' : tmps[q]?.getD undef = v := by simpa using hq
  simp [results, h, hp', hq', asAddr, run_loadVar_row w g T ty cs.toArray (0, 0) (.struct fs) hb hu rfl (by simpa using hi)]
theorem rng_ne {w : World} {k : TypeId} {mb r n cnt : Nat} {f : Value → Option Value} {left : Value → Prop} (h : Rng k w mb r n f left cnt) {b T : Nat} {cs : List Value} (hb : Blk w b cs T) : r ≠ b := by
  rintro rfl
  obtain ⟨es, clock, since, seen, c0, _, _, _, _, hr, _⟩ := h.ex
  unfold Blk at hb
  rw [hr] at hb
  cases hb
theorem QNew_calls (w : World) : Calls Try.prog 7 #[] w fun e w' => e = .returned (.pointer (some ⟨w.heap.size + 1, 0, none⟩)) ∧ IsQ w' (w.heap.size + 1) w.heap.size [] 0 ∧ Frm (fun _ => False) w w' := by
  have hmm := @run_makeMap Try.prog
  have HM := hid (IsMp.made TRq w)
  go_enter Try.func7, Try.ntmps7
  go_wp2
  go_ret
  have hb : Blk ((w.alloc (.map #[] 0)).alloc (.cells #[.map (some w.heap.size), .int .u64 0] TQu)) (w.heap.size + 1) [.map (some w.heap.size), .int .u64 0] TQu := by
    have := Blk.new (w.alloc (.map #[] 0)) [.map (some w.heap.size), .int .u64 0] TQu
    rwa [World.size_alloc] at this
  refine ⟨rfl, ⟨hb, ?_, QI.nil 0⟩, (qbox _ _).trans (qbox _ _)⟩
  rw [fQ_nil]
  exact HM.out.frm (qbox _ _) (fun h => h)
set_option maxHeartbeats 4000000 in
theorem Of_calls {w : World} {qb mb n : Nat} {L : List Qe} (h : IsQ w qb mb L n) (c : Int) :
    Calls Try.prog 18 #[.pointer (some ⟨qb, 0, none⟩), .int .u8 c] w fun e w' => e = .returned (.tuple #[rqV (ofR L c), .bool (ofB L c)]) ∧ Frm (fun _ => False) w w' := by
  have HE := hid h; have HLT := hid h.lt; have HI := hid h.inv
  have HSZ := hid (World.size_alloc w (.cells #[.int .u8 0, .int .u32 0, .int .u8 0, .int .u8 0, .int .u16 0] TRq))
  have HRK := hid (Blk.new w [.int .u8 0, .int .u32 0, .int .u8 0, .int .u8 0, .int .u16 0] TRq)
  have HF0 := hid (qbox w (.cells #[.int .u8 0, .int .u32 0, .int .u8 0, .int .u8 0, .int .u16 0] TRq))
  have q0 := (h.quiet HF0.out).cell
  have HM := hid (h.quiet HF0.out).map
  clear h
  go_enter Try.func18, Try.ntmps18
  go_wp2_with (at_range; refine wpList_mp_range rfl _ rfl HM.out u_mapr rfl ?_; intro w1 hrg hg1 hs1; (rw [HSZ.out] at hrg); (rw [HSZ.out]); have HRG := hid hrg; have HF1 := hid (HF0.out.trans hg1); have HR1 := hid (HRK.out.frm hg1 (fun h => h)); clear hrg hg1 hs1)
  try go_frame
  clear HM HF0 HRK q0
  obtain ⟨ib, hib⟩ : ∃ ib, w.heap.size + 1 = ib := ⟨_, rfl⟩
  obtain ⟨rk, hrk⟩ : ∃ rk, w.heap.size = rk := ⟨_, rfl⟩
  have HNE := hid (show ¬ ib = rk ∧ w.heap.size ≤ rk ∧ w.heap.size ≤ ib by omega)
  rw [hib, hrk]
  rw [hib] at HRG
  rw [hrk] at HR1
  clear hib hrk HSZ
  have HL0 := hid (show ∀ e ∈ L, e.1.c = c → fQ L (rqV e.1) ≠ none from fun e he _ => by rw [HI.out.find he]; simp)
  go_loopw [12] (fun _ wr => ∃ (left : Value → Prop) (cnt : Nat), Rng TRq wr mb ib L.length (fQ L) left cnt ∧ Blk wr rk [.int .u8 0, .int .u32 0, .int .u8 0, .int .u8 0, .int .u16 0] TRq ∧ (∀ e ∈ L, e.1.c = c → left (rqV e.1)) ∧ Frm (fun _ => False) w wr) (fun _ wr => wr.rangeLeft mb ib)
  case atStart => exact ⟨_, _, HRG.out, HR1.out, HL0.out, HF1.out⟩
  case round =>
    clear HRG HF1 HR1 HL0
    obtain ⟨left, cnt, hrg, hr, hp, hf⟩ := hrel
    have HRG := hid hrg; have HP := hid hp; have HF := hid hf; have HR := hid hr
    have HRN2 := hid (rng_ne hrg hr)
    clear hrg hp hf hr
    go_wp2_with (at_next; refine wpList_mp_next rfl _ rfl (fun x : Rq => .agg #[.int .u8 x.c, .int .u32 x.t, .int .u8 x.k, .int .u8 x.y, .int .u16 x.v]) (fun y : Nat => .int .u64 y) HRG.out (fun key v hf => by obtain ⟨e, _, h1, h2⟩ := fQ_inv hf; exact ⟨⟨e.1, h1⟩, e.2, h2⟩) rfl ?_ ?_)
    · intro hl0 hc0
      have hno := of_none (L := L) (c := c) (fun e he hc => hl0 _ (HP.out e he hc))
      have HNO := hid hno
      have r0 := HR.out.cell 0; have r1 := HR.out.cell 1; have r2 := HR.out.cell 2; have r3 := HR.out.cell 3; have r4 := HR.out.cell 4
      simp only [List.getElem?_cons_succ, List.getElem?_cons_zero] at r0 r1 r2 r3 r4
      have z0 := HR.out.free 0; have z1 := HR.out.free 1; have z2 := HR.out.free 2; have z3 := HR.out.free 3; have z4 := HR.out.free 4
      clear hl0 hc0 hno
      go_wp2
      (try simp only [Exit.inBlock, Exit.then])
      refine bodyPost_ret (results_cell2 rfl _ _ rk TRq [.int .u8 0, .int .u32 0, .int .u8 0, .int .u8 0, .int .u16 0] _ (.bool false) rfl rfl ((((((HR.out.setCell 0 (.int .u8 0)).setCell 1 (.int .u32 0)).setCell 2 (.int .u8 0)).setCell 3 (.int .u8 0)).setCell 4 (.int .u16 0))) Try.underlying33 (by kernel_rfl)) rfl ⟨by rw [HNO.out.1, HNO.out.2]; rfl, (((((HF.out.setCell _ _ (.inl HNE.out.2.1)).setCell _ _ (.inl HNE.out.2.1)).setCell _ _ (.inl HNE.out.2.1)).setCell _ _ (.inl HNE.out.2.1)).setCell _ _ (.inl HNE.out.2.1))⟩
    · intro x y w2 cnt2 hlk hfk hrg2 hlt2 hg2 hs2 hen
      obtain ⟨xc, xt, xk, xy, xv⟩ := x
      obtain ⟨e, he, hm0, hm2⟩ := fQ_inv hfk
      have hm1 : (⟨xc, xt, xk, xy, xv⟩ : Rq) = e.1 := rqV_inj hm0
      have hx := HI.out.of_some he
      rw [← hm1] at hx
      have HX := hid hx
      dsimp only at hen
      have HR2 := hid hrg2; have HLT2 := hid hlt2
      have HF2 := hid (HF.out.trans' hg2 (fun i hi e => by have := HNE.out.2.2; omega))
      have HK2 := hid (HR.out.frm hg2 (fun e => HRN2.out e.symm))
      clear hlk hfk hrg2 hlt2 hg2 hs2 hm0 hm1 hm2 HF HR hx he
      by_cases hc : xc = c
      · have HC := hid hc
        have hcb : (xc == c) = true := by rw [hc]; exact beq_self_eq_true _
        have r0 := HK2.out.cell 0; have r1 := HK2.out.cell 1; have r2 := HK2.out.cell 2; have r3 := HK2.out.cell 3; have r4 := HK2.out.cell 4
        simp only [List.getElem?_cons_succ, List.getElem?_cons_zero] at r0 r1 r2 r3 r4
        have z0 := HK2.out.free 0; have z1 := HK2.out.free 1; have z2 := HK2.out.free 2; have z3 := HK2.out.free 3; have z4 := HK2.out.free 4
        have hl := HK2.out.lt
        clear hc
        go_wp2
        (try simp only [Exit.inBlock, Exit.then])
        refine bodyPost_ret (results_cell2 rfl _ _ rk TRq [.int .u8 xc, .int .u32 xt, .int .u8 xk, .int .u8 xy, .int .u16 xv] _ (.bool true) rfl rfl (((((((HK2.out.setCell 0 (.int .u8 xc)).setCell 1 (.int .u32 xt)).setCell 2 (.int .u8 xk)).setCell 3 (.int .u8 xy)).setCell 4 (.int .u16 xv))).frm (qbox _ _) (fun h => h)) Try.underlying33 (by kernel_rfl)) rfl ⟨by rw [← HC.out, HX.out.1, HX.out.2]; rfl, ((((((HF2.out.setCell _ _ (.inl HNE.out.2.1)).setCell _ _ (.inl HNE.out.2.1)).setCell _ _ (.inl HNE.out.2.1)).setCell _ _ (.inl HNE.out.2.1)).setCell _ _ (.inl HNE.out.2.1))).trans (qbox _ _)⟩
      · have hcb : (xc == c) = false := beq_eq_false_iff_ne.2 hc
        have HPP := hid (show ∀ e ∈ L, e.1.c = c → strike left (rqV ⟨xc, xt, xk, xy, xv⟩) (rqV e.1) from fun e he h2 => ⟨HP.out e he h2, fun h3 => hc (by have h4 := rqV_inj h3; rw [← h2, h4])⟩)
        clear hc
        go_wp2
        go_roundw
        case rel => exact ⟨_, cnt2, HR2.out.frm (qbox _ _) (fun h => h) (fun h => h), HK2.out.frm (qbox _ _) (fun h => h), HPP.out, HF2.out.trans (qbox _ _)⟩
        case measure => rw [HRG.out.left_eq, (HR2.out.frm (qbox _ _) (fun h => h) (fun h => h)).left_eq]; exact HLT2.out
theorem QLen_calls {w : World} {qb mb n : Nat} {L : List Qe} (h : IsQ w qb mb L n) : Calls Try.prog 11 #[.pointer (some ⟨qb, 0, none⟩)] w fun e w' => e = .returned (.int .i64 L.length) ∧ w = w' := by
  have q0 := h.cell
  have q1 := h.map.len u_mapr 3
  clear h
  go_enter Try.func11, Try.ntmps11
  go_wp2
  go_ret
  exact ⟨rfl, rfl⟩
/-- Does it wait? -/
def hasB (L : List Qe) (r : Rq) : Bool := (fQ L (rqV r)).isSome
theorem hasB_iff {L : List Qe} {n : Nat} (h : QI L n) (r : Rq) : hasB L r = (L.map (·.1)).any (·.eqb r) := by
  unfold hasB
  rw [Bool.eq_iff_iff, List.any_eq_true]
  constructor
  · intro hs
    obtain ⟨v, hv⟩ := Option.isSome_iff_exists.1 hs
    obtain ⟨e, he, h1, _⟩ := fQ_inv hv
    exact ⟨e.1, List.mem_map.2 ⟨e, he, rfl⟩, by rw [Rq.eqb_iff]; exact (rqV_inj h1).symm⟩
  · rintro ⟨q, hq, he⟩
    obtain ⟨e, hm, rfl⟩ := List.mem_map.1 hq
    rw [Rq.eqb_iff] at he
    rw [← he, h.find hm]; rfl
theorem QHas_calls {w : World} {qb mb n : Nat} {L : List Qe} (h : IsQ w qb mb L n) (r : Rq) (hr : RqOk r) (z : Bool) (hz : hasB L r = z) : Calls Try.prog 12 #[.pointer (some ⟨qb, 0, none⟩), .agg #[.int .u8 r.c, .int .u32 r.t, .int .u8 r.k, .int .u8 r.y, .int .u16 r.v]] w fun e w' => e = .returned (.bool z) ∧ Frm (fun _ => False) w w' := by
  obtain ⟨kl, hk⟩ := keyRq r hr
  have hf1 : Frm (fun _ => False) w ((w.alloc (.cells #[.int .u8 r.c, .int .u32 r.t, .int .u8 r.k, .int .u8 r.y, .int .u16 r.v] TRq)).drew) := (qbox _ _).trans (frm_drew _)
  have HB := hid ((Blk.new w [.int .u8 r.c, .int .u32 r.t, .int .u8 r.k, .int .u8 r.y, .int .u16 r.v] TRq).frm (frm_drew _) (fun h => h))
  have HF := hid hf1
  have HE := hid (h.quiet hf1)
  have hlook : ∃ v : Int, (Instr.lookup TMr (.map (some mb)) (rqV r) true).run Try.prog ((w.alloc (.cells #[.int .u8 r.c, .int .u32 r.t, .int .u8 r.k, .int .u8 r.y, .int .u16 r.v] TRq)).drew) = .ok (.tuple #[.int .u64 v, .bool z]) ((w.alloc (.cells #[.int .u8 r.c, .int .u32 r.t, .int .u8 r.k, .int .u8 r.y, .int .u16 r.v] TRq)).drew) := by
    cases hf : fQ L (rqV r) with
    | none =>
      have := HE.out.map.look_none keyedRq u_mapr (z_u64 _) hk hf true
      refine ⟨0, this.trans ?_⟩
      rw [← hz]; unfold hasB; rw [hf]; rfl
    | some x =>
      obtain ⟨e, _, _, rfl⟩ := fQ_inv hf
      have := HE.out.map.look_some keyedRq u_mapr (z_u64 _) hk hf true
      refine ⟨e.2, this.trans ?_⟩
      rw [← hz]; unfold hasB; rw [hf]; rfl
  obtain ⟨v, hv⟩ := hlook
  obtain ⟨rc, rt, rk, ry, rv⟩ := r
  have HV := hid hv
  obtain ⟨w1, hw1⟩ : ∃ w1, w.alloc (.cells #[.int .u8 rc, .int .u32 rt, .int .u8 rk, .int .u8 ry, .int .u16 rv] TRq) = w1 := ⟨_, rfl⟩
  have HW1 := hid hw1
  obtain ⟨kb, hkb⟩ : ∃ kb, w.heap.size = kb := ⟨_, rfl⟩
  dsimp only at HB HF HE HV
  rw [hw1] at HB HF HE HV
  rw [hkb] at HB
  clear h hr hk hf1 hv hw1 hz
  go_enter Try.func12, Try.ntmps12
  go_wp2_with fail
  rw [HW1.out]
  clear HW1 hkb
  have q1 := HE.out.cell
  have k0 := HB.out.cell 0; have k1 := HB.out.cell 1; have k2 := HB.out.cell 2; have k3 := HB.out.cell 3; have k4 := HB.out.cell 4
  simp only [List.getElem?_cons_succ, List.getElem?_cons_zero] at k0 k1 k2 k3 k4
  have q2 := HV.out
  simp only [rqV] at q2
  go_region
  go_wp2
  go_ret
  exact ⟨rfl, HF.out⟩
end Go.Proofs.Ytabmbppolmikcaa
