/- Whether a vote may be, whatever it saw. -/
import Derived.Test.YtipalebaaejfjaaDoorDcVot
import Derived.Test.YtipalebaaejfjaaDoorDcEntL
namespace Go.Proofs.YtipalebaaejfjaaDoor
open Go.RowKit Go.ChangeShapes
set_option linter.unusedVariables false
set_option linter.unusedSimpArgs false
set_option maxRecDepth 100000
theorem EntL2 {w : World} {a : Option Addr} {cap n : Nat} {l : List En} (ht : Tab w) (h : IsRow 7 enC w a cap l) (hn : l.length = n) (hb : ∀ x ∈ l, EnB x) (z : Bool) (hz : entsB lessB l = z) :
    Calls Tryd.prog 41 #[.slice a n cap, .func (.func 43) #[] #[]] w fun e w' => e = .returned (.bool z) ∧ Frm (fun _ => False) w w' := hn ▸ EntL_calls ht h hb z hz
def voteB2 (x : Vm) : Bool := mksB x.ms && (decide (x.f < 4) && (decide (1 ≤ x.e ∧ x.e ≤ 200) && (decide (1 ≤ x.v) && (decide (x.v ≤ 1048576) && (decide (x.l ≤ 1073741824) && (decide (x.ms.length ≤ 40) && (entsB seqB x.p && entsB lessB x.q)))))))
set_option maxHeartbeats 32000000 in
theorem Vote2_calls {w : World} (htab : Tab w) {x : Vm} (h : VmOk w x) (hbp : ∀ e ∈ x.p, 0 ≤ e.s ∧ 0 ≤ e.v) (hbq : ∀ e ∈ x.q, EnB e) (hbm : ∀ m ∈ x.ms, 0 ≤ m.1) (z : Bool) (hz : voteB2 x = z) :
    Calls Tryd.prog 32 #[.agg (vmC x).toArray] w fun e w' => e = .returned (.bool z) ∧ Frm (fun _ => False) w w' := by
  obtain ⟨f, ep, v, lo, ma, mc, ms, pa, pcc, p, qa, qc, q⟩ := x
  have HVB := hid (hz : voteB2 ⟨f, ep, v, lo, ma, mc, ms, pa, pcc, p, qa, qc, q⟩ = z)
  have HM := hid h.ms; have HP := hid h.p; have HQ := hid h.q; have HBP := hid hbp; have HBQ := hid hbq; have HBM := hid hbm; have HTB := hid htab
  dsimp only at HM HP HQ HBP HBQ HBM
  obtain ⟨L, hL⟩ : ∃ L, ms.length = L := ⟨_, rfl⟩
  obtain ⟨LP, hLP⟩ : ∃ LP, p.length = LP := ⟨_, rfl⟩
  obtain ⟨LQ, hLQ⟩ : ∃ LQ, q.length = LQ := ⟨_, rfl⟩
  have HL := hid hL; have HLP := hid hLP; have HLQ := hid hLQ
  have hlc : L ≤ mc := hL ▸ h.ms.le
  have hcs : mc ≤ 9223372036854775807 := h.ms.small
  show Calls Tryd.prog 32 #[.agg #[.int .u8 f, .int .u8 ep, .int .u32 v, .int .u32 lo, .slice ma ms.length mc, .slice pa p.length pcc, .slice qa q.length qc]] w _
  rw [hL, hLP, hLQ]
  clear h hz hbp hbq hbm htab hL hLP hLQ
  have HVX0 := hid (Blk.new w [.int .u8 f, .int .u8 ep, .int .u32 v, .int .u32 lo, .slice ma L mc, .slice pa LP pcc, .slice qa LQ qc] TVo)
  have HF0 := hid (dbox w (.cells [Value.int .u8 f, .int .u8 ep, .int .u32 v, .int .u32 lo, .slice ma L mc, .slice pa LP pcc, .slice qa LQ qc].toArray TVo))
  go_enter Tryd.func32, Tryd.ntmps32
  go_wp2
  obtain ⟨vb, hvb⟩ : ∃ vb, w.heap.size = vb := ⟨_, rfl⟩
  rw [hvb] at HVX0 ⊢
  clear hvb
  go_loopw [8] (fun jv wr => ∃ j : Nat, j ≤ L ∧ jv = .int .i64 j ∧ MkI mseqB ms j ∧ Blk wr vb [.int .u8 f, .int .u8 ep, .int .u32 v, .int .u32 lo, .slice ma L mc, .slice pa LP pcc, .slice qa LQ qc] TVo ∧ Frm (fun _ => False) w wr) (fun jv _ => L - (intOf jv).toNat)
  case atStart => exact ⟨0, by omega, rfl, MkI.start _ _, HVX0.out, HF0.out⟩
  case round =>
    clear HVX0 HF0
    obtain ⟨j, hj, rfl, hi, hv, hf⟩ := hrel
    have HI := hid hi; have HFw := hid hf; have HVw := hid hv
    clear hi hf hv
    by_cases hlt : j < L
    · obtain ⟨g, o, rfl, hg, hc⟩ := (HM.out.quiet HFw.out).at_ (by rw [HL.out]; omega)
      obtain ⟨⟨xs, xr⟩, hx⟩ : ∃ x, ms[j]? = some x := ⟨_, List.getElem?_eq_getElem (by rw [HL.out]; exact hlt)⟩
      have c0 := hc j _ hx 0 (by decide); have c1 := hc j _ hx 1 (by decide)
      simp only [mkC, List.getElem?_cons_succ, List.getElem?_cons_zero, Nat.add_zero] at c0 c1
      have HX := hid hx; have HLT := hid hlt
      have hs0 : 0 ≤ xs := HBM.out _ (List.mem_of_getElem? hx)
      have hjl : (j : Int) < (L : Int) := by omega
      have hj0 : (0 : Int) ≤ (j : Int) := by omega
      clear hx hlt hj hc
      go_wp2_with fail
      have hfa : Frm (fun _ => False) wr (wr.alloc (.cells #[.int .u32 xs, .int .u64 xr] TMk)).drew := (dbox _ _).trans (frm_drew _)
      have HF := hid (HFw.out.trans hfa); have HRW := hid ((HM.out.quiet HFw.out).quiet hfa); have HV := hid (HVw.out.frm hfa (fun h => h))
      have HEB := hid (show Blk (wr.alloc (.cells #[.int .u32 xs, .int .u64 xr] TMk)).drew wr.heap.size (mkC (xs, xr)) TMk from (Blk.new wr (mkC (xs, xr)) TMk).frm (frm_drew _) (fun h => h))
      obtain ⟨w3, hw3⟩ : ∃ w3, wr.alloc (.cells #[.int .u32 xs, .int .u64 xr] TMk) = w3 := ⟨_, rfl⟩
      obtain ⟨eb, heb⟩ : ∃ eb, wr.heap.size = eb := ⟨_, rfl⟩
      rw [hw3, heb]
      rw [hw3] at HF HRW HEB HV
      rw [heb] at HEB
      clear hw3 heb hfa c0 c1
      by_cases p2 : 1073741824 < xs
      · have HBAD := hid (mks_bad HX.out (show mkB (xs, xr) = false from decide_eq_false (by show ¬ xs ≤ 1073741824; omega)))
        refine wp_region_held_drew (S := fun wx => wx.cell? ⟨eb, 0, none⟩ = some (.int .u32 xs)) (by kernel_rfl) ?_ (fun hHeld => ?_)
        · exact HEB.out.cell 0
        refine wpAnyH_take (i := 0) (oi := ⟨some 13, _, _, _, _, _⟩) (v := ?v1) rfl (by kernel_rfl) (by kernel_rfl) (by kernel_rfl) (fun _ _ _ h => h) (Or.inl ⟨by rfl, ?y1⟩) (by assumption) ?r1
        case y1 => (intro wx hSx; (try dsimp only at hSx); go_simp; (try with_reducible rfl))
        try simp only [Act.put, List.setIfInBounds_toArray, List.set_cons_zero, List.set_cons_succ]
        refine wpAnyH_take (i := 1) (oi := ⟨some 14, _, _, _, _, _⟩) (v := ?v2) rfl (by kernel_rfl) (by kernel_rfl) (by kernel_rfl) (fun _ _ _ h => h) (Or.inl ⟨by rfl, ?y2⟩) (by assumption) ?r2
        case y2 => (intro wx hSx; (try dsimp only at hSx); go_simp; (try with_reducible rfl))
        try simp only [Act.put, List.setIfInBounds_toArray, List.set_cons_zero, List.set_cons_succ]
        refine wpAnyH_take (i := 2) (oi := ⟨some 15, _, _, _, _, _⟩) (v := ?v3) rfl (by kernel_rfl) (by kernel_rfl) (by kernel_rfl) (fun _ _ _ h => h) (Or.inl ⟨by rfl, ?y3⟩) (by assumption) ?r3
        case y3 => (intro wx hSx; (try dsimp only at hSx); go_simp; (try with_reducible rfl))
        try simp only [Act.put, List.setIfInBounds_toArray, List.set_cons_zero, List.set_cons_succ]
        refine wpAnyH_take (i := 3) (oi := ⟨some 16, _, _, _, _, _⟩) (v := ?v4) rfl (by kernel_rfl) (by kernel_rfl) (by kernel_rfl) (fun _ _ _ h => h) (Or.inl ⟨by rfl, ?y4⟩) (by assumption) ?r4
        case y4 => (intro wx hSx; (try dsimp only at hSx); go_simp; (try with_reducible rfl))
        try simp only [Act.put, List.setIfInBounds_toArray, List.set_cons_zero, List.set_cons_succ]
        refine wpAnyH_take (i := 4) (oi := ⟨some 17, _, _, _, _, _⟩) (v := undef) rfl (by kernel_rfl) (by kernel_rfl) (by kernel_rfl) (fun _ _ _ h => h) (Or.inr ⟨by rfl, rfl⟩) (by assumption) ?_
        try simp only [Act.put, List.setIfInBounds_toArray, List.set_cons_zero, List.set_cons_succ]
        refine wpAnyH_take (i := 5) (oi := ⟨some 18, _, _, _, _, _⟩) (v := undef) rfl (by kernel_rfl) (by kernel_rfl) (by kernel_rfl) (fun _ _ _ h => h) (Or.inr ⟨by rfl, rfl⟩) (by assumption) ?_
        try simp only [Act.put, List.setIfInBounds_toArray, List.set_cons_zero, List.set_cons_succ]
        refine wpAnyH_take (i := 6) (oi := ⟨some 19, _, _, _, _, _⟩) (v := undef) rfl (by kernel_rfl) (by kernel_rfl) (by kernel_rfl) (fun _ _ _ h => h) (Or.inr ⟨by rfl, rfl⟩) (by assumption) ?_
        try simp only [Act.put, List.setIfInBounds_toArray, List.set_cons_zero, List.set_cons_succ]
        refine wpAnyH_take (i := 7) (oi := ⟨some 20, _, _, _, _, _⟩) (v := undef) rfl (by kernel_rfl) (by kernel_rfl) (by kernel_rfl) (fun _ _ _ h => h) (Or.inr ⟨by rfl, rfl⟩) (by assumption) ?_
        try simp only [Act.put, List.setIfInBounds_toArray, List.set_cons_zero, List.set_cons_succ]
        refine wpAnyH_take (i := 8) (oi := ⟨some 21, _, _, _, _, _⟩) (v := undef) rfl (by kernel_rfl) (by kernel_rfl) (by kernel_rfl) (fun _ _ _ h => h) (Or.inr ⟨by rfl, rfl⟩) (by assumption) ?_
        try simp only [Act.put, List.setIfInBounds_toArray, List.set_cons_zero, List.set_cons_succ]
        refine wpAnyH_take (i := 9) (oi := ⟨some 22, _, _, _, _, _⟩) (v := undef) rfl (by kernel_rfl) (by kernel_rfl) (by kernel_rfl) (fun _ _ _ h => h) (Or.inr ⟨by rfl, rfl⟩) (by assumption) ?_
        try simp only [Act.put, List.setIfInBounds_toArray, List.set_cons_zero, List.set_cons_succ]
        refine wpAnyH_take (i := 10) (oi := ⟨some 23, _, _, _, _, _⟩) (v := undef) rfl (by kernel_rfl) (by kernel_rfl) (by kernel_rfl) (fun _ _ _ h => h) (Or.inr ⟨by rfl, rfl⟩) (by assumption) ?_
        try simp only [Act.put, List.setIfInBounds_toArray, List.set_cons_zero, List.set_cons_succ]
        refine wpAnyH_take (i := 11) (oi := ⟨some 24, _, _, _, _, _⟩) (v := undef) rfl (by kernel_rfl) (by kernel_rfl) (by kernel_rfl) (fun _ _ _ h => h) (Or.inr ⟨by rfl, rfl⟩) (by assumption) ?_
        try simp only [Act.put, List.setIfInBounds_toArray, List.set_cons_zero, List.set_cons_succ]
        refine wpAnyH_take (i := 12) (oi := ⟨some 25, _, _, _, _, _⟩) (v := undef) rfl (by kernel_rfl) (by kernel_rfl) (by kernel_rfl) (fun _ _ _ h => h) (Or.inr ⟨by rfl, rfl⟩) (by assumption) ?_
        try simp only [Act.put, List.setIfInBounds_toArray, List.set_cons_zero, List.set_cons_succ]
        refine wpAnyH_take (i := 13) (oi := ⟨some 26, _, _, _, _, _⟩) (v := undef) rfl (by kernel_rfl) (by kernel_rfl) (by kernel_rfl) (fun _ _ _ h => h) (Or.inr ⟨by rfl, rfl⟩) (by assumption) ?_
        try simp only [Act.put, List.setIfInBounds_toArray, List.set_cons_zero, List.set_cons_succ]
        refine wpAnyH_take (i := 14) (oi := ⟨some 27, _, _, _, _, _⟩) (v := undef) rfl (by kernel_rfl) (by kernel_rfl) (by kernel_rfl) (fun _ _ _ h => h) (Or.inr ⟨by rfl, rfl⟩) (by assumption) ?_
        try simp only [Act.put, List.setIfInBounds_toArray, List.set_cons_zero, List.set_cons_succ]
        refine wpAnyH_take (i := 15) (oi := ⟨some 28, _, _, _, _, _⟩) (v := undef) rfl (by kernel_rfl) (by kernel_rfl) (by kernel_rfl) (fun _ _ _ h => h) (Or.inr ⟨by rfl, rfl⟩) (by assumption) ?_
        try simp only [Act.put, List.setIfInBounds_toArray, List.set_cons_zero, List.set_cons_succ]
        refine wpAnyH_take (i := 16) (oi := ⟨some 29, _, _, _, _, _⟩) (v := undef) rfl (by kernel_rfl) (by kernel_rfl) (by kernel_rfl) (fun _ _ _ h => h) (Or.inr ⟨by rfl, rfl⟩) (by assumption) ?_
        try simp only [Act.put, List.setIfInBounds_toArray, List.set_cons_zero, List.set_cons_succ]
        refine wpAnyH_take (i := 17) (oi := ⟨some 30, _, _, _, _, _⟩) (v := undef) rfl (by kernel_rfl) (by kernel_rfl) (by kernel_rfl) (fun _ _ _ h => h) (Or.inr ⟨by rfl, rfl⟩) (by assumption) ?_
        try simp only [Act.put, List.setIfInBounds_toArray, List.set_cons_zero, List.set_cons_succ]
        refine wpAnyH_take (i := 18) (oi := ⟨some 31, _, _, _, _, _⟩) (v := ?v5) rfl (by kernel_rfl) (by kernel_rfl) (by kernel_rfl) (fun _ _ _ h => h) (Or.inl ⟨by rfl, ?y5⟩) (by assumption) ?r5
        case y5 => (intro wx hSx; (try dsimp only at hSx); go_simp; (try with_reducible rfl))
        try simp only [Act.put, List.setIfInBounds_toArray, List.set_cons_zero, List.set_cons_succ]
        refine wpAnyH_done (by kernel_rfl) ?_ _
        go_wp2
        go_ret
        exact ⟨ret_bool (show false = z by rw [← HVB.out]; unfold voteB2; rw [HBAD.out]; rfl), HF.out⟩
      · have HOK := hid (show mkB (xs, xr) = true from decide_eq_true (by show xs ≤ 1073741824; omega))
        by_cases p4 : j = 0
        · subst p4
          have HI2 := hid (MkI.first (ah := mseqB) HX.out HOK.out)
          refine wp_region_held_drew (S := fun wx => wx.cell? ⟨eb, 0, none⟩ = some (.int .u32 xs)) (by kernel_rfl) ?_ (fun hHeld => ?_)
          · exact HEB.out.cell 0
          refine wpAnyH_take (i := 0) (oi := ⟨some 13, _, _, _, _, _⟩) (v := ?v6) rfl (by kernel_rfl) (by kernel_rfl) (by kernel_rfl) (fun _ _ _ h => h) (Or.inl ⟨by rfl, ?y6⟩) (by assumption) ?r6
          case y6 => (intro wx hSx; (try dsimp only at hSx); go_simp; (try with_reducible rfl))
          try simp only [Act.put, List.setIfInBounds_toArray, List.set_cons_zero, List.set_cons_succ]
          refine wpAnyH_take (i := 1) (oi := ⟨some 14, _, _, _, _, _⟩) (v := ?v7) rfl (by kernel_rfl) (by kernel_rfl) (by kernel_rfl) (fun _ _ _ h => h) (Or.inl ⟨by rfl, ?y7⟩) (by assumption) ?r7
          case y7 => (intro wx hSx; (try dsimp only at hSx); go_simp; (try with_reducible rfl))
          try simp only [Act.put, List.setIfInBounds_toArray, List.set_cons_zero, List.set_cons_succ]
          refine wpAnyH_take (i := 2) (oi := ⟨some 15, _, _, _, _, _⟩) (v := ?v8) rfl (by kernel_rfl) (by kernel_rfl) (by kernel_rfl) (fun _ _ _ h => h) (Or.inl ⟨by rfl, ?y8⟩) (by assumption) ?r8
          case y8 => (intro wx hSx; (try dsimp only at hSx); go_simp; (try with_reducible rfl))
          try simp only [Act.put, List.setIfInBounds_toArray, List.set_cons_zero, List.set_cons_succ]
          refine wpAnyH_take (i := 3) (oi := ⟨some 16, _, _, _, _, _⟩) (v := ?v9) rfl (by kernel_rfl) (by kernel_rfl) (by kernel_rfl) (fun _ _ _ h => h) (Or.inl ⟨by rfl, ?y9⟩) (by assumption) ?r9
          case y9 => (intro wx hSx; (try dsimp only at hSx); go_simp; (try with_reducible rfl))
          try simp only [Act.put, List.setIfInBounds_toArray, List.set_cons_zero, List.set_cons_succ]
          refine wpAnyH_take (i := 4) (oi := ⟨some 17, _, _, _, _, _⟩) (v := ?v10) rfl (by kernel_rfl) (by kernel_rfl) (by kernel_rfl) (fun _ _ _ h => h) (Or.inl ⟨by rfl, ?y10⟩) (by assumption) ?r10
          case y10 => (intro wx hSx; (try dsimp only at hSx); go_simp; (try with_reducible rfl))
          try simp only [Act.put, List.setIfInBounds_toArray, List.set_cons_zero, List.set_cons_succ]
          refine wpAnyH_take (i := 5) (oi := ⟨some 18, _, _, _, _, _⟩) (v := ?v11) rfl (by kernel_rfl) (by kernel_rfl) (by kernel_rfl) (fun _ _ _ h => h) (Or.inl ⟨by rfl, ?y11⟩) (by assumption) ?r11
          case y11 => (intro wx hSx; (try dsimp only at hSx); go_simp; (try with_reducible rfl))
          try simp only [Act.put, List.setIfInBounds_toArray, List.set_cons_zero, List.set_cons_succ]
          refine wpAnyH_take (i := 6) (oi := ⟨some 19, _, _, _, _, _⟩) (v := ?v12) rfl (by kernel_rfl) (by kernel_rfl) (by kernel_rfl) (fun _ _ _ h => h) (Or.inl ⟨by rfl, ?y12⟩) (by assumption) ?r12
          case y12 => (intro wx hSx; (try dsimp only at hSx); go_simp; (try with_reducible rfl))
          try simp only [Act.put, List.setIfInBounds_toArray, List.set_cons_zero, List.set_cons_succ]
          refine wpAnyH_take (i := 7) (oi := ⟨some 20, _, _, _, _, _⟩) (v := undef) rfl (by kernel_rfl) (by kernel_rfl) (by kernel_rfl) (fun _ _ _ h => h) (Or.inr ⟨by rfl, rfl⟩) (by assumption) ?_
          try simp only [Act.put, List.setIfInBounds_toArray, List.set_cons_zero, List.set_cons_succ]
          refine wpAnyH_take (i := 8) (oi := ⟨some 21, _, _, _, _, _⟩) (v := undef) rfl (by kernel_rfl) (by kernel_rfl) (by kernel_rfl) (fun _ _ _ h => h) (Or.inr ⟨by rfl, rfl⟩) (by assumption) ?_
          try simp only [Act.put, List.setIfInBounds_toArray, List.set_cons_zero, List.set_cons_succ]
          refine wpAnyH_take (i := 9) (oi := ⟨some 22, _, _, _, _, _⟩) (v := undef) rfl (by kernel_rfl) (by kernel_rfl) (by kernel_rfl) (fun _ _ _ h => h) (Or.inr ⟨by rfl, rfl⟩) (by assumption) ?_
          try simp only [Act.put, List.setIfInBounds_toArray, List.set_cons_zero, List.set_cons_succ]
          refine wpAnyH_take (i := 10) (oi := ⟨some 23, _, _, _, _, _⟩) (v := undef) rfl (by kernel_rfl) (by kernel_rfl) (by kernel_rfl) (fun _ _ _ h => h) (Or.inr ⟨by rfl, rfl⟩) (by assumption) ?_
          try simp only [Act.put, List.setIfInBounds_toArray, List.set_cons_zero, List.set_cons_succ]
          refine wpAnyH_take (i := 11) (oi := ⟨some 24, _, _, _, _, _⟩) (v := undef) rfl (by kernel_rfl) (by kernel_rfl) (by kernel_rfl) (fun _ _ _ h => h) (Or.inr ⟨by rfl, rfl⟩) (by assumption) ?_
          try simp only [Act.put, List.setIfInBounds_toArray, List.set_cons_zero, List.set_cons_succ]
          refine wpAnyH_take (i := 12) (oi := ⟨some 25, _, _, _, _, _⟩) (v := undef) rfl (by kernel_rfl) (by kernel_rfl) (by kernel_rfl) (fun _ _ _ h => h) (Or.inr ⟨by rfl, rfl⟩) (by assumption) ?_
          try simp only [Act.put, List.setIfInBounds_toArray, List.set_cons_zero, List.set_cons_succ]
          refine wpAnyH_take (i := 13) (oi := ⟨some 26, _, _, _, _, _⟩) (v := undef) rfl (by kernel_rfl) (by kernel_rfl) (by kernel_rfl) (fun _ _ _ h => h) (Or.inr ⟨by rfl, rfl⟩) (by assumption) ?_
          try simp only [Act.put, List.setIfInBounds_toArray, List.set_cons_zero, List.set_cons_succ]
          refine wpAnyH_take (i := 14) (oi := ⟨some 27, _, _, _, _, _⟩) (v := undef) rfl (by kernel_rfl) (by kernel_rfl) (by kernel_rfl) (fun _ _ _ h => h) (Or.inr ⟨by rfl, rfl⟩) (by assumption) ?_
          try simp only [Act.put, List.setIfInBounds_toArray, List.set_cons_zero, List.set_cons_succ]
          refine wpAnyH_take (i := 15) (oi := ⟨some 28, _, _, _, _, _⟩) (v := undef) rfl (by kernel_rfl) (by kernel_rfl) (by kernel_rfl) (fun _ _ _ h => h) (Or.inr ⟨by rfl, rfl⟩) (by assumption) ?_
          try simp only [Act.put, List.setIfInBounds_toArray, List.set_cons_zero, List.set_cons_succ]
          refine wpAnyH_take (i := 16) (oi := ⟨some 29, _, _, _, _, _⟩) (v := undef) rfl (by kernel_rfl) (by kernel_rfl) (by kernel_rfl) (fun _ _ _ h => h) (Or.inr ⟨by rfl, rfl⟩) (by assumption) ?_
          try simp only [Act.put, List.setIfInBounds_toArray, List.set_cons_zero, List.set_cons_succ]
          refine wpAnyH_take (i := 17) (oi := ⟨some 30, _, _, _, _, _⟩) (v := ?v13) rfl (by kernel_rfl) (by kernel_rfl) (by kernel_rfl) (fun _ _ _ h => h) (Or.inl ⟨by rfl, ?y13⟩) (by assumption) ?r13
          case y13 => (intro wx hSx; (try dsimp only at hSx); go_simp; (try with_reducible rfl))
          try simp only [Act.put, List.setIfInBounds_toArray, List.set_cons_zero, List.set_cons_succ]
          refine wpAnyH_take (i := 18) (oi := ⟨some 31, _, _, _, _, _⟩) (v := ?v14) rfl (by kernel_rfl) (by kernel_rfl) (by kernel_rfl) (fun _ _ _ h => h) (Or.inl ⟨by rfl, ?y14⟩) (by assumption) ?r14
          case y14 => (intro wx hSx; (try dsimp only at hSx); go_simp; (try with_reducible rfl))
          try simp only [Act.put, List.setIfInBounds_toArray, List.set_cons_zero, List.set_cons_succ]
          refine wpAnyH_done (by kernel_rfl) ?_ _
          go_wp2
          go_roundw
          case rel => exact ⟨1, by have := HLT.out; omega, by first | rfl | go_num, HI2.out, HV.out, HF.out⟩
          case measure => have := HLT.out; simp [intOf]; omega
        · obtain ⟨k, hk⟩ : ∃ k, k + 1 = j := ⟨j - 1, by omega⟩
          obtain ⟨⟨ys, yr⟩, hy⟩ : ∃ y, ms[k]? = some y := ⟨_, List.getElem?_eq_getElem (by rw [HL.out]; have := HLT.out; omega)⟩
          have HY := hid hy
          have HCY := hid (show w3.drew.cell? ⟨g, o + k * 2, none⟩ = some (.int .u32 ys) by
            obtain ⟨b', o', e, _, hc⟩ := HRW.out.at_ (by rw [HL.out]; have := HLT.out; omega)
            injection e with e
            injection e with e3 e4
            subst e3 e4
            exact hc k _ HY.out 0 (by decide))
          have hjN : 0 < j := by omega
          have hq1 : (j : Int) - 1 = (k : Int) := by omega
          have hq0 : (0 : Int) ≤ (k : Int) := by omega
          have hql : (k : Int) < (L : Int) := by omega
          have hqw : IntKind.i64.wrap (k : Int) = (k : Int) := by simp [IntKind.wrap, IntKind.bits, IntKind.signed]; have := HLT.out; omega
          have HQ1 := hid hk
          clear hy p4 hk
          by_cases hah : ys < xs
          · have HI2 := hid (show MkI mseqB ms (j + 1) by
              rw [← HQ1.out]
              exact MkI.step (HQ1.out.symm ▸ HI.out) HY.out (by rw [HQ1.out]; exact HX.out) HOK.out (decide_eq_true hah))
            refine wp_region_held_drew (S := fun wx => wx.cell? ⟨eb, 0, none⟩ = some (.int .u32 xs) ∧ wx.cell? ⟨vb, 4, none⟩ = some (.slice (some ⟨g, o, none⟩) L mc) ∧ wx.cell? ⟨g, o + k * 2, none⟩ = some (.int .u32 ys)) (by kernel_rfl) ?_ (fun hHeld => ?_)
            · exact ⟨HEB.out.cell 0, HV.out.cell 4, HCY.out⟩
            refine wpAnyH_take (i := 0) (oi := ⟨some 13, _, _, _, _, _⟩) (v := ?v15) rfl (by kernel_rfl) (by kernel_rfl) (by kernel_rfl) (fun _ _ _ h => h) (Or.inl ⟨by rfl, ?y15⟩) (by assumption) ?r15
            case y15 => (intro wx hSx; (try dsimp only at hSx); go_simp; (try with_reducible rfl))
            try simp only [Act.put, List.setIfInBounds_toArray, List.set_cons_zero, List.set_cons_succ]
            refine wpAnyH_take (i := 1) (oi := ⟨some 14, _, _, _, _, _⟩) (v := ?v16) rfl (by kernel_rfl) (by kernel_rfl) (by kernel_rfl) (fun _ _ _ h => h) (Or.inl ⟨by rfl, ?y16⟩) (by assumption) ?r16
            case y16 => (intro wx hSx; (try dsimp only at hSx); go_simp; (try with_reducible rfl))
            try simp only [Act.put, List.setIfInBounds_toArray, List.set_cons_zero, List.set_cons_succ]
            refine wpAnyH_take (i := 2) (oi := ⟨some 15, _, _, _, _, _⟩) (v := ?v17) rfl (by kernel_rfl) (by kernel_rfl) (by kernel_rfl) (fun _ _ _ h => h) (Or.inl ⟨by rfl, ?y17⟩) (by assumption) ?r17
            case y17 => (intro wx hSx; (try dsimp only at hSx); go_simp; (try with_reducible rfl))
            try simp only [Act.put, List.setIfInBounds_toArray, List.set_cons_zero, List.set_cons_succ]
            refine wpAnyH_take (i := 3) (oi := ⟨some 16, _, _, _, _, _⟩) (v := ?v18) rfl (by kernel_rfl) (by kernel_rfl) (by kernel_rfl) (fun _ _ _ h => h) (Or.inl ⟨by rfl, ?y18⟩) (by assumption) ?r18
            case y18 => (intro wx hSx; (try dsimp only at hSx); go_simp; (try with_reducible rfl))
            try simp only [Act.put, List.setIfInBounds_toArray, List.set_cons_zero, List.set_cons_succ]
            refine wpAnyH_take (i := 4) (oi := ⟨some 17, _, _, _, _, _⟩) (v := ?v19) rfl (by kernel_rfl) (by kernel_rfl) (by kernel_rfl) (fun _ _ _ h => h) (Or.inl ⟨by rfl, ?y19⟩) (by assumption) ?r19
            case y19 => (intro wx hSx; (try dsimp only at hSx); go_simp; (try with_reducible rfl))
            try simp only [Act.put, List.setIfInBounds_toArray, List.set_cons_zero, List.set_cons_succ]
            refine wpAnyH_take (i := 5) (oi := ⟨some 18, _, _, _, _, _⟩) (v := ?v20) rfl (by kernel_rfl) (by kernel_rfl) (by kernel_rfl) (fun _ _ _ h => h) (Or.inl ⟨by rfl, ?y20⟩) (by assumption) ?r20
            case y20 => (intro wx hSx; (try dsimp only at hSx); go_simp; (try with_reducible rfl))
            try simp only [Act.put, List.setIfInBounds_toArray, List.set_cons_zero, List.set_cons_succ]
            refine wpAnyH_take (i := 6) (oi := ⟨some 19, _, _, _, _, _⟩) (v := ?v21) rfl (by kernel_rfl) (by kernel_rfl) (by kernel_rfl) (fun _ _ _ h => h) (Or.inl ⟨by rfl, ?y21⟩) (by assumption) ?r21
            case y21 => (intro wx hSx; (try dsimp only at hSx); go_simp; (try with_reducible rfl))
            try simp only [Act.put, List.setIfInBounds_toArray, List.set_cons_zero, List.set_cons_succ]
            refine wpAnyH_take (i := 7) (oi := ⟨some 20, _, _, _, _, _⟩) (v := ?v22) rfl (by kernel_rfl) (by kernel_rfl) (by kernel_rfl) (fun _ _ _ h => h) (Or.inl ⟨by rfl, ?y22⟩) (by assumption) ?r22
            case y22 => (intro wx hSx; (try dsimp only at hSx); go_simp; (try with_reducible rfl))
            try simp only [Act.put, List.setIfInBounds_toArray, List.set_cons_zero, List.set_cons_succ]
            refine wpAnyH_take (i := 8) (oi := ⟨some 21, _, _, _, _, _⟩) (v := ?v23) rfl (by kernel_rfl) (by kernel_rfl) (by kernel_rfl) (fun _ _ _ h => h) (Or.inl ⟨by rfl, ?y23⟩) (by assumption) ?r23
            case y23 => (intro wx hSx; (try dsimp only at hSx); go_simp; (try with_reducible rfl))
            try simp only [Act.put, List.setIfInBounds_toArray, List.set_cons_zero, List.set_cons_succ]
            refine wpAnyH_take (i := 9) (oi := ⟨some 22, _, _, _, _, _⟩) (v := ?v24) rfl (by kernel_rfl) (by kernel_rfl) (by kernel_rfl) (fun _ _ _ h => h) (Or.inl ⟨by rfl, ?y24⟩) (by assumption) ?r24
            case y24 => (intro wx hSx; (try dsimp only at hSx); go_simp; (try with_reducible rfl))
            try simp only [Act.put, List.setIfInBounds_toArray, List.set_cons_zero, List.set_cons_succ]
            refine wpAnyH_take (i := 10) (oi := ⟨some 23, _, _, _, _, _⟩) (v := ?v25) rfl (by kernel_rfl) (by kernel_rfl) (by kernel_rfl) (fun _ _ _ h => h) (Or.inl ⟨by rfl, ?y25⟩) (by assumption) ?r25
            case y25 => (intro wx hSx; (try dsimp only at hSx); go_simp; (try with_reducible rfl))
            try simp only [Act.put, List.setIfInBounds_toArray, List.set_cons_zero, List.set_cons_succ]
            refine wpAnyH_take (i := 11) (oi := ⟨some 24, _, _, _, _, _⟩) (v := ?v26) rfl (by kernel_rfl) (by kernel_rfl) (by kernel_rfl) (fun _ _ _ h => h) (Or.inl ⟨by rfl, ?y26⟩) (by assumption) ?r26
            case y26 => (intro wx hSx; (try dsimp only at hSx); go_simp; (try with_reducible rfl))
            try simp only [Act.put, List.setIfInBounds_toArray, List.set_cons_zero, List.set_cons_succ]
            refine wpAnyH_take (i := 12) (oi := ⟨some 25, _, _, _, _, _⟩) (v := ?v27) rfl (by kernel_rfl) (by kernel_rfl) (by kernel_rfl) (fun _ _ _ h => h) (Or.inl ⟨by rfl, ?y27⟩) (by assumption) ?r27
            case y27 => (intro wx hSx; (try dsimp only at hSx); go_simp; (try with_reducible rfl))
            try simp only [Act.put, List.setIfInBounds_toArray, List.set_cons_zero, List.set_cons_succ]
            refine wpAnyH_take (i := 13) (oi := ⟨some 26, _, _, _, _, _⟩) (v := ?v28) rfl (by kernel_rfl) (by kernel_rfl) (by kernel_rfl) (fun _ _ _ h => h) (Or.inl ⟨by rfl, ?y28⟩) (by assumption) ?r28
            case y28 => (intro wx hSx; (try dsimp only at hSx); go_simp; (try with_reducible rfl))
            try simp only [Act.put, List.setIfInBounds_toArray, List.set_cons_zero, List.set_cons_succ]
            refine wpAnyH_take (i := 14) (oi := ⟨some 27, _, _, _, _, _⟩) (v := ?v29) rfl (by kernel_rfl) (by kernel_rfl) (by kernel_rfl) (fun _ _ _ h => h) (Or.inl ⟨by rfl, ?y29⟩) (by assumption) ?r29
            case y29 => (intro wx hSx; (try dsimp only at hSx); go_simp; (try with_reducible rfl))
            try simp only [Act.put, List.setIfInBounds_toArray, List.set_cons_zero, List.set_cons_succ]
            refine wpAnyH_take (i := 15) (oi := ⟨some 28, _, _, _, _, _⟩) (v := ?v30) rfl (by kernel_rfl) (by kernel_rfl) (by kernel_rfl) (fun _ _ _ h => h) (Or.inl ⟨by rfl, ?y30⟩) (by assumption) ?r30
            case y30 => (intro wx hSx; (try dsimp only at hSx); go_simp; (try with_reducible rfl))
            try simp only [Act.put, List.setIfInBounds_toArray, List.set_cons_zero, List.set_cons_succ]
            refine wpAnyH_take (i := 16) (oi := ⟨some 29, _, _, _, _, _⟩) (v := ?v31) rfl (by kernel_rfl) (by kernel_rfl) (by kernel_rfl) (fun _ _ _ h => h) (Or.inl ⟨by rfl, ?y31⟩) (by assumption) ?r31
            case y31 => (intro wx hSx; (try dsimp only at hSx); go_simp; (try with_reducible rfl))
            try simp only [Act.put, List.setIfInBounds_toArray, List.set_cons_zero, List.set_cons_succ]
            refine wpAnyH_take (i := 17) (oi := ⟨some 30, _, _, _, _, _⟩) (v := ?v32) rfl (by kernel_rfl) (by kernel_rfl) (by kernel_rfl) (fun _ _ _ h => h) (Or.inl ⟨by rfl, ?y32⟩) (by assumption) ?r32
            case y32 => (intro wx hSx; (try dsimp only at hSx); go_simp; (try with_reducible rfl))
            try simp only [Act.put, List.setIfInBounds_toArray, List.set_cons_zero, List.set_cons_succ]
            refine wpAnyH_take (i := 18) (oi := ⟨some 31, _, _, _, _, _⟩) (v := ?v33) rfl (by kernel_rfl) (by kernel_rfl) (by kernel_rfl) (fun _ _ _ h => h) (Or.inl ⟨by rfl, ?y33⟩) (by assumption) ?r33
            case y33 => (intro wx hSx; (try dsimp only at hSx); go_simp; (try with_reducible rfl))
            try simp only [Act.put, List.setIfInBounds_toArray, List.set_cons_zero, List.set_cons_succ]
            refine wpAnyH_done (by kernel_rfl) ?_ _
            go_wp2
            go_roundw
            case rel => exact ⟨j + 1, by have := HLT.out; omega, by first | rfl | go_num, HI2.out, HV.out, HF.out⟩
            case measure => have := HLT.out; simp [intOf]; omega
          · have HBAD := hid (mks_ord HY.out (by rw [HQ1.out]; exact HX.out) (decide_eq_false hah))
            refine wp_region_held_drew (S := fun wx => wx.cell? ⟨eb, 0, none⟩ = some (.int .u32 xs) ∧ wx.cell? ⟨vb, 4, none⟩ = some (.slice (some ⟨g, o, none⟩) L mc) ∧ wx.cell? ⟨g, o + k * 2, none⟩ = some (.int .u32 ys)) (by kernel_rfl) ?_ (fun hHeld => ?_)
            · exact ⟨HEB.out.cell 0, HV.out.cell 4, HCY.out⟩
            refine wpAnyH_take (i := 0) (oi := ⟨some 13, _, _, _, _, _⟩) (v := ?v34) rfl (by kernel_rfl) (by kernel_rfl) (by kernel_rfl) (fun _ _ _ h => h) (Or.inl ⟨by rfl, ?y34⟩) (by assumption) ?r34
            case y34 => (intro wx hSx; (try dsimp only at hSx); go_simp; (try with_reducible rfl))
            try simp only [Act.put, List.setIfInBounds_toArray, List.set_cons_zero, List.set_cons_succ]
            refine wpAnyH_take (i := 1) (oi := ⟨some 14, _, _, _, _, _⟩) (v := ?v35) rfl (by kernel_rfl) (by kernel_rfl) (by kernel_rfl) (fun _ _ _ h => h) (Or.inl ⟨by rfl, ?y35⟩) (by assumption) ?r35
            case y35 => (intro wx hSx; (try dsimp only at hSx); go_simp; (try with_reducible rfl))
            try simp only [Act.put, List.setIfInBounds_toArray, List.set_cons_zero, List.set_cons_succ]
            refine wpAnyH_take (i := 2) (oi := ⟨some 15, _, _, _, _, _⟩) (v := ?v36) rfl (by kernel_rfl) (by kernel_rfl) (by kernel_rfl) (fun _ _ _ h => h) (Or.inl ⟨by rfl, ?y36⟩) (by assumption) ?r36
            case y36 => (intro wx hSx; (try dsimp only at hSx); go_simp; (try with_reducible rfl))
            try simp only [Act.put, List.setIfInBounds_toArray, List.set_cons_zero, List.set_cons_succ]
            refine wpAnyH_take (i := 3) (oi := ⟨some 16, _, _, _, _, _⟩) (v := ?v37) rfl (by kernel_rfl) (by kernel_rfl) (by kernel_rfl) (fun _ _ _ h => h) (Or.inl ⟨by rfl, ?y37⟩) (by assumption) ?r37
            case y37 => (intro wx hSx; (try dsimp only at hSx); go_simp; (try with_reducible rfl))
            try simp only [Act.put, List.setIfInBounds_toArray, List.set_cons_zero, List.set_cons_succ]
            refine wpAnyH_take (i := 4) (oi := ⟨some 17, _, _, _, _, _⟩) (v := ?v38) rfl (by kernel_rfl) (by kernel_rfl) (by kernel_rfl) (fun _ _ _ h => h) (Or.inl ⟨by rfl, ?y38⟩) (by assumption) ?r38
            case y38 => (intro wx hSx; (try dsimp only at hSx); go_simp; (try with_reducible rfl))
            try simp only [Act.put, List.setIfInBounds_toArray, List.set_cons_zero, List.set_cons_succ]
            refine wpAnyH_take (i := 5) (oi := ⟨some 18, _, _, _, _, _⟩) (v := ?v39) rfl (by kernel_rfl) (by kernel_rfl) (by kernel_rfl) (fun _ _ _ h => h) (Or.inl ⟨by rfl, ?y39⟩) (by assumption) ?r39
            case y39 => (intro wx hSx; (try dsimp only at hSx); go_simp; (try with_reducible rfl))
            try simp only [Act.put, List.setIfInBounds_toArray, List.set_cons_zero, List.set_cons_succ]
            refine wpAnyH_take (i := 6) (oi := ⟨some 19, _, _, _, _, _⟩) (v := ?v40) rfl (by kernel_rfl) (by kernel_rfl) (by kernel_rfl) (fun _ _ _ h => h) (Or.inl ⟨by rfl, ?y40⟩) (by assumption) ?r40
            case y40 => (intro wx hSx; (try dsimp only at hSx); go_simp; (try with_reducible rfl))
            try simp only [Act.put, List.setIfInBounds_toArray, List.set_cons_zero, List.set_cons_succ]
            refine wpAnyH_take (i := 7) (oi := ⟨some 20, _, _, _, _, _⟩) (v := ?v41) rfl (by kernel_rfl) (by kernel_rfl) (by kernel_rfl) (fun _ _ _ h => h) (Or.inl ⟨by rfl, ?y41⟩) (by assumption) ?r41
            case y41 => (intro wx hSx; (try dsimp only at hSx); go_simp; (try with_reducible rfl))
            try simp only [Act.put, List.setIfInBounds_toArray, List.set_cons_zero, List.set_cons_succ]
            refine wpAnyH_take (i := 8) (oi := ⟨some 21, _, _, _, _, _⟩) (v := ?v42) rfl (by kernel_rfl) (by kernel_rfl) (by kernel_rfl) (fun _ _ _ h => h) (Or.inl ⟨by rfl, ?y42⟩) (by assumption) ?r42
            case y42 => (intro wx hSx; (try dsimp only at hSx); go_simp; (try with_reducible rfl))
            try simp only [Act.put, List.setIfInBounds_toArray, List.set_cons_zero, List.set_cons_succ]
            refine wpAnyH_take (i := 9) (oi := ⟨some 22, _, _, _, _, _⟩) (v := ?v43) rfl (by kernel_rfl) (by kernel_rfl) (by kernel_rfl) (fun _ _ _ h => h) (Or.inl ⟨by rfl, ?y43⟩) (by assumption) ?r43
            case y43 => (intro wx hSx; (try dsimp only at hSx); go_simp; (try with_reducible rfl))
            try simp only [Act.put, List.setIfInBounds_toArray, List.set_cons_zero, List.set_cons_succ]
            refine wpAnyH_take (i := 10) (oi := ⟨some 23, _, _, _, _, _⟩) (v := ?v44) rfl (by kernel_rfl) (by kernel_rfl) (by kernel_rfl) (fun _ _ _ h => h) (Or.inl ⟨by rfl, ?y44⟩) (by assumption) ?r44
            case y44 => (intro wx hSx; (try dsimp only at hSx); go_simp; (try with_reducible rfl))
            try simp only [Act.put, List.setIfInBounds_toArray, List.set_cons_zero, List.set_cons_succ]
            refine wpAnyH_take (i := 11) (oi := ⟨some 24, _, _, _, _, _⟩) (v := ?v45) rfl (by kernel_rfl) (by kernel_rfl) (by kernel_rfl) (fun _ _ _ h => h) (Or.inl ⟨by rfl, ?y45⟩) (by assumption) ?r45
            case y45 => (intro wx hSx; (try dsimp only at hSx); go_simp; (try with_reducible rfl))
            try simp only [Act.put, List.setIfInBounds_toArray, List.set_cons_zero, List.set_cons_succ]
            refine wpAnyH_take (i := 12) (oi := ⟨some 25, _, _, _, _, _⟩) (v := ?v46) rfl (by kernel_rfl) (by kernel_rfl) (by kernel_rfl) (fun _ _ _ h => h) (Or.inl ⟨by rfl, ?y46⟩) (by assumption) ?r46
            case y46 => (intro wx hSx; (try dsimp only at hSx); go_simp; (try with_reducible rfl))
            try simp only [Act.put, List.setIfInBounds_toArray, List.set_cons_zero, List.set_cons_succ]
            refine wpAnyH_take (i := 13) (oi := ⟨some 26, _, _, _, _, _⟩) (v := ?v47) rfl (by kernel_rfl) (by kernel_rfl) (by kernel_rfl) (fun _ _ _ h => h) (Or.inl ⟨by rfl, ?y47⟩) (by assumption) ?r47
            case y47 => (intro wx hSx; (try dsimp only at hSx); go_simp; (try with_reducible rfl))
            try simp only [Act.put, List.setIfInBounds_toArray, List.set_cons_zero, List.set_cons_succ]
            refine wpAnyH_take (i := 14) (oi := ⟨some 27, _, _, _, _, _⟩) (v := ?v48) rfl (by kernel_rfl) (by kernel_rfl) (by kernel_rfl) (fun _ _ _ h => h) (Or.inl ⟨by rfl, ?y48⟩) (by assumption) ?r48
            case y48 => (intro wx hSx; (try dsimp only at hSx); go_simp; (try with_reducible rfl))
            try simp only [Act.put, List.setIfInBounds_toArray, List.set_cons_zero, List.set_cons_succ]
            refine wpAnyH_take (i := 15) (oi := ⟨some 28, _, _, _, _, _⟩) (v := ?v49) rfl (by kernel_rfl) (by kernel_rfl) (by kernel_rfl) (fun _ _ _ h => h) (Or.inl ⟨by rfl, ?y49⟩) (by assumption) ?r49
            case y49 => (intro wx hSx; (try dsimp only at hSx); go_simp; (try with_reducible rfl))
            try simp only [Act.put, List.setIfInBounds_toArray, List.set_cons_zero, List.set_cons_succ]
            refine wpAnyH_take (i := 16) (oi := ⟨some 29, _, _, _, _, _⟩) (v := ?v50) rfl (by kernel_rfl) (by kernel_rfl) (by kernel_rfl) (fun _ _ _ h => h) (Or.inl ⟨by rfl, ?y50⟩) (by assumption) ?r50
            case y50 => (intro wx hSx; (try dsimp only at hSx); go_simp; (try with_reducible rfl))
            try simp only [Act.put, List.setIfInBounds_toArray, List.set_cons_zero, List.set_cons_succ]
            refine wpAnyH_take (i := 17) (oi := ⟨some 30, _, _, _, _, _⟩) (v := ?v51) rfl (by kernel_rfl) (by kernel_rfl) (by kernel_rfl) (fun _ _ _ h => h) (Or.inl ⟨by rfl, ?y51⟩) (by assumption) ?r51
            case y51 => (intro wx hSx; (try dsimp only at hSx); go_simp; (try with_reducible rfl))
            try simp only [Act.put, List.setIfInBounds_toArray, List.set_cons_zero, List.set_cons_succ]
            refine wpAnyH_take (i := 18) (oi := ⟨some 31, _, _, _, _, _⟩) (v := ?v52) rfl (by kernel_rfl) (by kernel_rfl) (by kernel_rfl) (fun _ _ _ h => h) (Or.inl ⟨by rfl, ?y52⟩) (by assumption) ?r52
            case y52 => (intro wx hSx; (try dsimp only at hSx); go_simp; (try with_reducible rfl))
            try simp only [Act.put, List.setIfInBounds_toArray, List.set_cons_zero, List.set_cons_succ]
            refine wpAnyH_done (by kernel_rfl) ?_ _
            go_wp2
            go_ret
            exact ⟨ret_bool (show false = z by rw [← HVB.out]; unfold voteB2; rw [HBAD.out]; rfl), HF.out⟩
    · have hje : j = L := by omega
      subst hje
      have HMK := hid (show mksB ms = true from MkI.done (HL.out.symm ▸ HI.out))
      have v0 := HVw.out.cell 0; have v1 := HVw.out.cell 1; have v2 := HVw.out.cell 2; have v3 := HVw.out.cell 3; have v4 := HVw.out.cell 4; have v5 := HVw.out.cell 5; have v6 := HVw.out.cell 6
      simp only [List.getElem?_cons_succ, List.getElem?_cons_zero] at v0 v1 v2 v3 v4 v5 v6
      clear hlt hj
      by_cases d1 : f < 4
      · have HR := hid (decide_eq_true d1)
        by_cases d2 : 1 ≤ ep ∧ ep ≤ 200
        · have HE := hid (decide_eq_true d2)
          by_cases d3 : 1 ≤ v
          · by_cases d4 : v ≤ 1048576
            · by_cases d5 : lo ≤ 1073741824
              · by_cases d6 : j ≤ 40
                · have h40i : (j : Int) ≤ 40 := by omega
                  cases hpb : entsB seqB p
                  · have HPB := hid hpb
                    clear hpb
                    go_wp2_with (first
                      | (go_at_call 39; (with_reducible refine (Rep_calls _ f true HR.out).mono ?_); rintro e w5 ⟨rfl, rfl⟩; skip)
                      | (go_at_call 40; (with_reducible refine (Epo_calls _ ep true HE.out).mono ?_); rintro e w5 ⟨rfl, rfl⟩; skip)
                      | (go_at_call 41; (with_reducible refine (EntP2 (HP.out.quiet HFw.out) HLP.out HBP.out false HPB.out).mono ?_); rintro e w5 ⟨rfl, f'⟩; clear v0 v1 v2 v3 v4 v5 v6; have n1 := hid (HVw.out.frm f' (fun h => h)); have n2 := hid (HFw.out.trans f'); clear HVw HFw f'; have HVw := n1; have HFw := n2; clear n1 n2; have v0 := HVw.out.cell 0; have v1 := HVw.out.cell 1; have v2 := HVw.out.cell 2; have v3 := HVw.out.cell 3; have v4 := HVw.out.cell 4; have v5 := HVw.out.cell 5; have v6 := HVw.out.cell 6; (simp only [List.getElem?_cons_succ, List.getElem?_cons_zero] at v0 v1 v2 v3 v4 v5 v6)))
                    go_ret
                    exact ⟨ret_bool (show false = z by rw [← HVB.out]; unfold voteB2; simp only [HMK.out, decide_eq_true (show f < 4 by omega), decide_eq_true (show 1 ≤ ep ∧ ep ≤ 200 by omega), decide_eq_true (show 1 ≤ v by omega), decide_eq_true (show v ≤ 1048576 by omega), decide_eq_true (show lo ≤ 1073741824 by omega), decide_eq_true (show ms.length ≤ 40 by rw [HL.out]; omega), HPB.out]; rfl), HFw.out⟩
                  · have HPB := hid hpb
                    clear hpb
                    cases hqb : entsB lessB q
                    · have HQB := hid hqb
                      clear hqb
                      go_wp2_with (first
                        | (go_at_call 39; (with_reducible refine (Rep_calls _ f true HR.out).mono ?_); rintro e w5 ⟨rfl, rfl⟩; skip)
                        | (go_at_call 40; (with_reducible refine (Epo_calls _ ep true HE.out).mono ?_); rintro e w5 ⟨rfl, rfl⟩; skip)
                        | (go_at_call 41; (with_reducible refine (EntP2 (HP.out.quiet HFw.out) HLP.out HBP.out true HPB.out).mono ?_); rintro e w5 ⟨rfl, f'⟩; clear v0 v1 v2 v3 v4 v5 v6; have n1 := hid (HVw.out.frm f' (fun h => h)); have n2 := hid (HFw.out.trans f'); clear HVw HFw f'; have HVw := n1; have HFw := n2; clear n1 n2; have v0 := HVw.out.cell 0; have v1 := HVw.out.cell 1; have v2 := HVw.out.cell 2; have v3 := HVw.out.cell 3; have v4 := HVw.out.cell 4; have v5 := HVw.out.cell 5; have v6 := HVw.out.cell 6; (simp only [List.getElem?_cons_succ, List.getElem?_cons_zero] at v0 v1 v2 v3 v4 v5 v6))
                        | (go_at_call 41; (with_reducible refine (EntL2 (HTB.out.frm HFw.out) (HQ.out.quiet HFw.out) HLQ.out HBQ.out false HQB.out).mono ?_); rintro e w5 ⟨rfl, f'⟩; clear v0 v1 v2 v3 v4 v5 v6; have n1 := hid (HVw.out.frm f' (fun h => h)); have n2 := hid (HFw.out.trans f'); clear HVw HFw f'; have HVw := n1; have HFw := n2; clear n1 n2; have v0 := HVw.out.cell 0; have v1 := HVw.out.cell 1; have v2 := HVw.out.cell 2; have v3 := HVw.out.cell 3; have v4 := HVw.out.cell 4; have v5 := HVw.out.cell 5; have v6 := HVw.out.cell 6; (simp only [List.getElem?_cons_succ, List.getElem?_cons_zero] at v0 v1 v2 v3 v4 v5 v6)))
                      go_ret
                      exact ⟨ret_bool (show false = z by rw [← HVB.out]; unfold voteB2; simp only [HMK.out, decide_eq_true (show f < 4 by omega), decide_eq_true (show 1 ≤ ep ∧ ep ≤ 200 by omega), decide_eq_true (show 1 ≤ v by omega), decide_eq_true (show v ≤ 1048576 by omega), decide_eq_true (show lo ≤ 1073741824 by omega), decide_eq_true (show ms.length ≤ 40 by rw [HL.out]; omega), HPB.out, HQB.out]; rfl), HFw.out⟩
                    · have HQB := hid hqb
                      clear hqb
                      go_wp2_with (first
                        | (go_at_call 39; (with_reducible refine (Rep_calls _ f true HR.out).mono ?_); rintro e w5 ⟨rfl, rfl⟩; skip)
                        | (go_at_call 40; (with_reducible refine (Epo_calls _ ep true HE.out).mono ?_); rintro e w5 ⟨rfl, rfl⟩; skip)
                        | (go_at_call 41; (with_reducible refine (EntP2 (HP.out.quiet HFw.out) HLP.out HBP.out true HPB.out).mono ?_); rintro e w5 ⟨rfl, f'⟩; clear v0 v1 v2 v3 v4 v5 v6; have n1 := hid (HVw.out.frm f' (fun h => h)); have n2 := hid (HFw.out.trans f'); clear HVw HFw f'; have HVw := n1; have HFw := n2; clear n1 n2; have v0 := HVw.out.cell 0; have v1 := HVw.out.cell 1; have v2 := HVw.out.cell 2; have v3 := HVw.out.cell 3; have v4 := HVw.out.cell 4; have v5 := HVw.out.cell 5; have v6 := HVw.out.cell 6; (simp only [List.getElem?_cons_succ, List.getElem?_cons_zero] at v0 v1 v2 v3 v4 v5 v6))
                        | (go_at_call 41; (with_reducible refine (EntL2 (HTB.out.frm HFw.out) (HQ.out.quiet HFw.out) HLQ.out HBQ.out true HQB.out).mono ?_); rintro e w5 ⟨rfl, f'⟩; clear v0 v1 v2 v3 v4 v5 v6; have n1 := hid (HVw.out.frm f' (fun h => h)); have n2 := hid (HFw.out.trans f'); clear HVw HFw f'; have HVw := n1; have HFw := n2; clear n1 n2; have v0 := HVw.out.cell 0; have v1 := HVw.out.cell 1; have v2 := HVw.out.cell 2; have v3 := HVw.out.cell 3; have v4 := HVw.out.cell 4; have v5 := HVw.out.cell 5; have v6 := HVw.out.cell 6; (simp only [List.getElem?_cons_succ, List.getElem?_cons_zero] at v0 v1 v2 v3 v4 v5 v6)))
                      go_ret
                      exact ⟨ret_bool (show true = z by rw [← HVB.out]; unfold voteB2; simp only [HMK.out, decide_eq_true (show f < 4 by omega), decide_eq_true (show 1 ≤ ep ∧ ep ≤ 200 by omega), decide_eq_true (show 1 ≤ v by omega), decide_eq_true (show v ≤ 1048576 by omega), decide_eq_true (show lo ≤ 1073741824 by omega), decide_eq_true (show ms.length ≤ 40 by rw [HL.out]; omega), HPB.out, HQB.out]; rfl), HFw.out⟩
                · have h40i : ¬ (j : Int) ≤ 40 := by omega
                  go_wp2_with (first
                    | (go_at_call 39; (with_reducible refine (Rep_calls _ f true HR.out).mono ?_); rintro e w5 ⟨rfl, rfl⟩; skip)
                    | (go_at_call 40; (with_reducible refine (Epo_calls _ ep true HE.out).mono ?_); rintro e w5 ⟨rfl, rfl⟩; skip))
                  go_ret
                  exact ⟨ret_bool (show false = z by rw [← HVB.out]; unfold voteB2; simp only [HMK.out, decide_eq_true (show f < 4 by omega), decide_eq_true (show 1 ≤ ep ∧ ep ≤ 200 by omega), decide_eq_true (show 1 ≤ v by omega), decide_eq_true (show v ≤ 1048576 by omega), decide_eq_true (show lo ≤ 1073741824 by omega), decide_eq_false (show ¬ (ms.length ≤ 40) by rw [HL.out]; omega)]; rfl), HFw.out⟩
              · go_wp2_with (first
                  | (go_at_call 39; (with_reducible refine (Rep_calls _ f true HR.out).mono ?_); rintro e w5 ⟨rfl, rfl⟩; skip)
                  | (go_at_call 40; (with_reducible refine (Epo_calls _ ep true HE.out).mono ?_); rintro e w5 ⟨rfl, rfl⟩; skip))
                go_ret
                exact ⟨ret_bool (show false = z by rw [← HVB.out]; unfold voteB2; simp only [HMK.out, decide_eq_true (show f < 4 by omega), decide_eq_true (show 1 ≤ ep ∧ ep ≤ 200 by omega), decide_eq_true (show 1 ≤ v by omega), decide_eq_true (show v ≤ 1048576 by omega), decide_eq_false (show ¬ (lo ≤ 1073741824) by omega)]; rfl), HFw.out⟩
            · go_wp2_with (first
                | (go_at_call 39; (with_reducible refine (Rep_calls _ f true HR.out).mono ?_); rintro e w5 ⟨rfl, rfl⟩; skip)
                | (go_at_call 40; (with_reducible refine (Epo_calls _ ep true HE.out).mono ?_); rintro e w5 ⟨rfl, rfl⟩; skip))
              go_ret
              exact ⟨ret_bool (show false = z by rw [← HVB.out]; unfold voteB2; simp only [HMK.out, decide_eq_true (show f < 4 by omega), decide_eq_true (show 1 ≤ ep ∧ ep ≤ 200 by omega), decide_eq_true (show 1 ≤ v by omega), decide_eq_false (show ¬ (v ≤ 1048576) by omega)]; rfl), HFw.out⟩
          · go_wp2_with (first
              | (go_at_call 39; (with_reducible refine (Rep_calls _ f true HR.out).mono ?_); rintro e w5 ⟨rfl, rfl⟩; skip)
              | (go_at_call 40; (with_reducible refine (Epo_calls _ ep true HE.out).mono ?_); rintro e w5 ⟨rfl, rfl⟩; skip))
            go_ret
            exact ⟨ret_bool (show false = z by rw [← HVB.out]; unfold voteB2; simp only [HMK.out, decide_eq_true (show f < 4 by omega), decide_eq_true (show 1 ≤ ep ∧ ep ≤ 200 by omega), decide_eq_false (show ¬ (1 ≤ v) by omega)]; rfl), HFw.out⟩
        · have HE := hid (decide_eq_false d2)
          go_wp2_with (first
            | (go_at_call 39; (with_reducible refine (Rep_calls _ f true HR.out).mono ?_); rintro e w5 ⟨rfl, rfl⟩; skip)
            | (go_at_call 40; (with_reducible refine (Epo_calls _ ep false HE.out).mono ?_); rintro e w5 ⟨rfl, rfl⟩; skip))
          go_ret
          exact ⟨ret_bool (show false = z by rw [← HVB.out]; unfold voteB2; simp only [HMK.out, decide_eq_true (show f < 4 by omega), decide_eq_false (show ¬ (1 ≤ ep ∧ ep ≤ 200) by omega)]; rfl), HFw.out⟩
      · have HR := hid (decide_eq_false d1)
        go_wp2_with (first
          | (go_at_call 39; (with_reducible refine (Rep_calls _ f false HR.out).mono ?_); rintro e w5 ⟨rfl, rfl⟩; skip))
        go_ret
        exact ⟨ret_bool (show false = z by rw [← HVB.out]; unfold voteB2; simp only [HMK.out, decide_eq_false (show ¬ (f < 4) by omega)]; rfl), HFw.out⟩
end Go.Proofs.YtipalebaaejfjaaDoor
