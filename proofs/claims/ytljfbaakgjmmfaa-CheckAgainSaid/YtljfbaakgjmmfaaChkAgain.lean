/- CheckAgain, walked. -/
import Derived.Test.YtljfbaakgjmmfaaChkKnown
import Derived.Test.YtljfbaakgjmmfaaChkAgainP
import Derived.Test.YtljfbaakgjmmfaaOwnRs
namespace Go.Proofs.Ytljfbaakgjmmfaa
open Go.RowKit Go.ChangeShapes
set_option linter.unusedVariables false
set_option linter.unusedSimpArgs false
set_option maxRecDepth 100000
theorem ag_eq (n m : Nat) (v u : Int) : ((List.replicate n ⟨0, 0, 0, 0, 0⟩ ++ [qA v]) ++ List.replicate m ⟨0, 0, 0, 0, 0⟩) ++ [qB u, qA v, qB u] = agL n m v u := by simp [agL]
theorem agL_len (n m : Nat) (v u : Int) : (agL n m v u).length = n + m + 4 := by simp [agL]; omega
theorem ag_ok (n m : Nat) {v u : Int} (hv : 0 ≤ v ∧ v ≤ 65535) (hu : 0 ≤ u ∧ u ≤ 65535) : ∀ r ∈ agL n m v u, RqOk r := by
  have h0 : RqOk ⟨0, 0, 0, 0, 0⟩ := ⟨by decide, by decide, by decide, by decide, by decide⟩
  have hA : RqOk (qA v) := ⟨by simp [qA], by simp [qA], by simp [qA], by simp [qA], hv⟩
  have hB : RqOk (qB u) := ⟨by simp [qB], by simp [qB], by simp [qB], by simp [qB], hu⟩
  intro r hr
  simp [agL] at hr
  rcases hr with ⟨_, rfl⟩ | rfl | ⟨_, rfl⟩ | rfl | rfl | rfl <;> assumption
abbrev OAB2 (v u : Int) : Obj := .cells #[.int .u8 1, .int .u32 1, .int .u8 1, .int .u8 5, .int .u16 v, .int .u32 0, .int .u8 2, .int .u32 1, .int .u8 1, .int .u8 5, .int .u16 u, .int .u32 v] TAn
theorem At_N {w : World} {a : Option Addr} {ca N : Nat} {l : List Rq} (h : IsRqs w a ca l) (hN : l.length = N) (hlen : (N : Int) ≤ 10) (vs' cs' : List Int) (hz : playM V0 C0 l = (vs', cs')) :
    Calls Try.prog 12 #[.slice a N ca, .int .u32 N] w fun e w' => ∃ mb, e = .returned (.pointer (some ⟨mb, 0, none⟩)) ∧ w.heap.size ≤ mb ∧ IsMap w' mb vs' cs' ∧ Below w.heap.size w w' := by
  subst hN
  exact At_calls h (by omega) l.length (by omega) vs' cs' (by rw [List.take_length]; exact hz)
theorem Right_N (W : World) {la : Option Addr} {lc N n m : Nat} {v u : Int} (hq : IsRqs W la lc (agL n m v u)) (hN : (agL n m v u).length = N) : Calls Try.prog 11 #[.slice la N lc, .slice (some ⟨W.heap.size, 0, none⟩) 2 2] (W.alloc (OAB2 v u)) fun e w' => e = .returned (.bool true) ∧ Below (W.alloc (OAB2 v u)).heap.size (W.alloc (OAB2 v u)) w' := by
  subst hN
  exact Rights_calls (hq.al (OAB2 v u)) (ans_of (l := [(qA v, 0), (qB u, v)]) (blkn W _ rfl _ TAn) (show 2 ≤ 1000 by decide)) true (ag_right n m v u)
theorem Once_N (W : World) {la : Option Addr} {lc N : Nat} {l : List Rq} (hq : IsRqs W la lc l) (hN : l.length = N) (hlen : (N : Int) ≤ 10) : Calls Try.prog 14 #[.slice la N lc] W fun e w' => e = .returned (.bool true) ∧ Below W.heap.size W w' := by
  subst hN
  exact Once_calls hq (by omega)
theorem rep_snoc (n : Nat) (r : Rq) : List.replicate n r ++ [r] = List.replicate (n + 1) r := List.replicate_succ'.symm
set_option maxHeartbeats 16000000 in
theorem CheckAgain_walk (x y v : Int) (w : World) (w0 : (Lit.int .u8 x).wf = true) (w1_ : (Lit.int .u8 y).wf = true) (w2_ : (Lit.int .u16 v).wf = true) :
    Calls Try.prog 5 #[.int .u8 x, .int .u8 y, .int .u16 v] w fun e w' => e = .returned (.bool true) ∧ Below w.heap.size w w' := by
  have hx := bounds_u8 w0
  have hy := bounds_u8 w1_
  have hv : 0 ≤ v ∧ v ≤ 65535 := by simp [Lit.wf, IntKind.min, IntKind.max, IntKind.bits, IntKind.signed] at w2_; omega
  obtain ⟨n, hn⟩ := Int.eq_ofNat_of_zero_le (Int.emod_nonneg x (show (4 : Int) ≠ 0 by decide))
  obtain ⟨m, hm⟩ := Int.eq_ofNat_of_zero_le (Int.emod_nonneg y (show (4 : Int) ≠ 0 by decide))
  have hn4 : n < 4 := by omega
  have hm4 : m < 4 := by omega
  have tn : x.tmod 4 = (n : Int) := by rw [Int.tmod_eq_emod_of_nonneg hx.1, hn]
  have tm : y.tmod 4 = (m : Int) := by rw [Int.tmod_eq_emod_of_nonneg hy.1, hm]
  obtain ⟨u, hu⟩ : ∃ u, IntKind.u16.wrap (v + 1) = u := ⟨_, rfl⟩
  have hub : 0 ≤ u ∧ u ≤ 65535 := by rw [← hu]; simp [IntKind.wrap, IntKind.bits, IntKind.signed]; omega
  have HV := hid hv; have HUB := hid hub
  clear w0 w1_ w2_
  go_enter Try.func5, Try.ntmps5
  go_wp2_with (first
    | (go_at_call 7; (with_reducible refine (known_calls w).mono ?_); rintro e w1 ⟨rfl, f'⟩; have HF := hid f'; clear f')
    | (go_at_call 8; (with_reducible refine (HPut_calls w1 1 1 5 v).mono ?_); rintro e w2 ⟨rfl, f'⟩; have HF2 := hid (below_frm0 HF.out f'); clear HF f'; have HF := HF2; clear HF2)
    | (go_at_call 8; (with_reducible refine (HPut_calls _ 2 1 5 u).mono ?_); rintro e w3 ⟨rfl, f'⟩; have HA := hid ((blkn w2 _ rfl (rqC (qA v)) TRq).frm f' (fun h => h)); have HAL := hid (HF.out.size); have HF2 := hid (below_frm0 (HF.out.alloc HF.out.size _) f'); clear HF f'; have HF := HF2; clear HF2))
  have HB0 := hid (blkn w3 _ rfl (rqC (qB u)) TRq)
  have HA0 := hid (HA.out.alloc (.cells (rqC (qB u)).toArray TRq))
  have HAB := hid (show w2.heap.size < w3.heap.size from HA.out.lt)
  have HBL := hid (show w.heap.size ≤ w3.heap.size from HF.out.size)
  have HF0 := hid (HF.out.alloc HF.out.size (.cells (rqC (qB u)).toArray TRq))
  clear HA HF
  generalize w2.heap.size = ba at *
  generalize hbb : w3.heap.size = bb at *
  go_loopw [9, 10] (fun lv iv wr => ∃ (i : Nat), i ≤ n ∧ iv = .int .i64 i ∧ OwnR wr (fun k => k ≤ bb) lv (List.replicate i ⟨0, 0, 0, 0, 0⟩) ∧ Blk wr ba (rqC (qA v)) TRq ∧ Blk wr bb (rqC (qB u)) TRq ∧ Below w.heap.size w wr) (fun _ i _ => n - (intOf i).toNat)
  case atStart => exact ⟨0, Nat.zero_le _, rfl, OwnR.nil _ _, HA0.out, HB0.out, HF0.out⟩
  case round =>
    clear HA0 HB0 HF0
    obtain ⟨i, hi, rfl, ho, ha, hb, hf⟩ := hrel
    have HF := hid hf; have HA := hid ha; have HB := hid hb; have HO := hid ho
    clear hf ha hb ho
    by_cases hlt : i < n
    · have hil : (i : Int) < (n : Int) := by omega
      have HLT := hid hlt
      have HI4 := hid (show i < 4 by omega)
      clear hlt
      go_wp2_with (first
        | (at_builtin; refine wpList_moreR ⟨0, 0, 0, 0, 0⟩ rfl _ _ rfl rfl (HO.out.quiet (frm_box _ _)) (fun k hk => by have := HB.out.lt; simp; omega) (Blk.new wr (rqC ⟨0, 0, 0, 0, 0⟩) TRq) (by rw [List.length_replicate]; have := HI4.out; omega) rfl rfl ?_; intro v' w5 ho' hf' hat'; have HA2 := hid ((HA.out.alloc _).frm hf' (fun e => HO.out.off _ e (Nat.le_of_lt HAB.out))); have HB2 := hid ((HB.out.alloc _).frm hf' (fun e => HO.out.off _ e (Nat.le_refl _))); have HF2 := hid ((HF.out.alloc HF.out.size _).trans (hf'.below (by have := HF.out.size; simp; omega) (fun k hk hn => HO.out.off k hn (Nat.le_of_lt (Nat.lt_of_lt_of_le hk HBL.out))))); clear HF HO HA HB hf' hat'; have HF := HF2; have HA := HA2; have HB := HB2; have HO := hid ho'; clear ho' HF2 HA2 HB2))
      go_roundw
      case rel => exact ⟨i + 1, by have := HLT.out; omega, by go_num, by rw [← rep_snoc]; exact HO.out, HA.out, HB.out, HF.out⟩
      case measure => simp [intOf]; have := HLT.out; omega
    · have hil : (n : Int) ≤ (i : Int) := by omega
      have hin : n = i := by omega
      subst hin
      have a0 := HA.out.cell 0; have a1 := HA.out.cell 1; have a2 := HA.out.cell 2; have a3 := HA.out.cell 3; have a4 := HA.out.cell 4
      (simp only [rqC, qA, List.getElem?_cons_succ, List.getElem?_cons_zero] at a0 a1 a2 a3 a4)
      have HN4 := hid hn4
      clear hlt
      go_wp2_with (first
        | (at_builtin; refine wpList_moreR ⟨1, 1, 1, 5, v⟩ rfl _ _ rfl rfl (HO.out.quiet (frm_box _ _)) (fun k hk => by have := HB.out.lt; simp; omega) (Blk.new wr (rqC ⟨1, 1, 1, 5, v⟩) TRq) (by rw [List.length_replicate]; have := HN4.out; omega) rfl rfl ?_; intro v' w5 ho' hf' hat'; have HA2 := hid ((HA.out.alloc _).frm hf' (fun e => HO.out.off _ e (Nat.le_of_lt HAB.out))); have HB2 := hid ((HB.out.alloc _).frm hf' (fun e => HO.out.off _ e (Nat.le_refl _))); have HF2 := hid ((HF.out.alloc HF.out.size _).trans (hf'.below (by have := HF.out.size; simp; omega) (fun k hk hn => HO.out.off k hn (Nat.le_of_lt (Nat.lt_of_lt_of_le hk HBL.out))))); clear HF HO HA HB hf' hat'; have HF := HF2; have HA := HA2; have HB := HB2; have HO := hid ho'; clear ho' HF2 HA2 HB2))
      clear a0 a1 a2 a3 a4
      go_loopw [9, 11] (fun lv iv wr => ∃ (j : Nat), j ≤ m ∧ iv = .int .i64 j ∧ OwnR wr (fun k => k ≤ bb) lv ((List.replicate n ⟨0, 0, 0, 0, 0⟩ ++ [qA v]) ++ List.replicate j ⟨0, 0, 0, 0, 0⟩) ∧ Blk wr ba (rqC (qA v)) TRq ∧ Blk wr bb (rqC (qB u)) TRq ∧ Below w.heap.size w wr) (fun _ i _ => m - (intOf i).toNat)
      case atStart => exact ⟨0, Nat.zero_le _, rfl, by rw [List.replicate_zero, List.append_nil]; exact HO.out, HA.out, HB.out, HF.out⟩
      case round =>
        clear HF HA HB HO
        obtain ⟨j, hj, rfl, ho, ha, hb, hf⟩ := hrel
        have HF := hid hf; have HA := hid ha; have HB := hid hb; have HO := hid ho
        clear hf ha hb ho
        by_cases hlt : j < m
        · have hil : (j : Int) < (m : Int) := by omega
          have HLT := hid hlt
          have HJ4 := hid (show j < 4 by omega)
          clear hlt
          go_wp2_with (first
            | (at_builtin; refine wpList_moreR ⟨0, 0, 0, 0, 0⟩ rfl _ _ rfl rfl (HO.out.quiet (frm_box _ _)) (fun k hk => by have := HB.out.lt; simp; omega) (Blk.new wr (rqC ⟨0, 0, 0, 0, 0⟩) TRq) (by have := HN4.out; have := HJ4.out; simp; omega) rfl rfl ?_; intro v' w5 ho' hf' hat'; have HA2 := hid ((HA.out.alloc _).frm hf' (fun e => HO.out.off _ e (Nat.le_of_lt HAB.out))); have HB2 := hid ((HB.out.alloc _).frm hf' (fun e => HO.out.off _ e (Nat.le_refl _))); have HF2 := hid ((HF.out.alloc HF.out.size _).trans (hf'.below (by have := HF.out.size; simp; omega) (fun k hk hn => HO.out.off k hn (Nat.le_of_lt (Nat.lt_of_lt_of_le hk HBL.out))))); clear HF HO HA HB hf' hat'; have HF := HF2; have HA := HA2; have HB := HB2; have HO := hid ho'; clear ho' HF2 HA2 HB2))
          go_roundw
          case rel => exact ⟨j + 1, by have := HLT.out; omega, by go_num, by rw [← rep_snoc, ← List.append_assoc]; exact HO.out, HA.out, HB.out, HF.out⟩
          case measure => simp [intOf]; have := HLT.out; omega
        · have hil : (m : Int) ≤ (j : Int) := by omega
          have hjm : m = j := by omega
          subst hjm
          have a0 := HA.out.cell 0; have a1 := HA.out.cell 1; have a2 := HA.out.cell 2; have a3 := HA.out.cell 3; have a4 := HA.out.cell 4
          have b0 := HB.out.cell 0; have b1 := HB.out.cell 1; have b2 := HB.out.cell 2; have b3 := HB.out.cell 3; have b4 := HB.out.cell 4
          (simp only [rqC, qA, qB, List.getElem?_cons_succ, List.getElem?_cons_zero] at a0 a1 a2 a3 a4 b0 b1 b2 b3 b4)
          have HM4 := hid hm4
          clear hlt
          obtain ⟨N, hN⟩ : ∃ N, (agL n m v u).length = N := ⟨_, rfl⟩
          have hN10 : (N : Int) ≤ 10 ∧ 4 ≤ (N : Int) := by rw [← hN, agL_len]; omega
          have hN10a := hN10.1
          have hN10b := hN10.2
          have HN := hid hN; clear hN hN10
          go_wp2_with (first
            | (at_builtin; refine wpList_moreRs [qB u, qA v, qB u] 3 rfl rfl _ _ rfl rfl (HO.out.quiet (frm_box _ _)) (fun k hk => by have := HB.out.lt; simp; omega) (blkn wr _ rfl (rqsC [qB u, qA v, qB u]) TRq) (by decide) (by have := HN4.out; have := HM4.out; simp; omega) rfl rfl ?_; intro v' w5 ho' hf' hat'; have HA2 := hid ((HA.out.alloc _).frm hf' (fun e => HO.out.off _ e (Nat.le_of_lt HAB.out))); have HB2 := hid ((HB.out.alloc _).frm hf' (fun e => HO.out.off _ e (Nat.le_refl _))); have HF2 := hid ((HF.out.alloc HF.out.size _).trans (hf'.below (by have := HF.out.size; simp; omega) (fun k hk hn => HO.out.off k hn (Nat.le_of_lt (Nat.lt_of_lt_of_le hk HBL.out))))); rw [ag_eq] at ho'; obtain ⟨la, lc, hv', hq⟩ := ho'.rqs (ag_ok n m HV.out HUB.out); rw [HN.out] at hv'; subst hv'; have HQ := hid hq; clear HF HO HA HB hf' hat' ho' hq; clear a0 a1 a2 a3 a4 b0 b1 b2 b3 b4; have HF := HF2; have HA := HA2; have HB := HB2; clear HF2 HA2 HB2; have a0 := HA.out.cell 0; have a1 := HA.out.cell 1; have a2 := HA.out.cell 2; have a3 := HA.out.cell 3; have a4 := HA.out.cell 4; have b0 := HB.out.cell 0; have b1 := HB.out.cell 1; have b2 := HB.out.cell 2; have b3 := HB.out.cell 3; have b4 := HB.out.cell 4; (simp only [rqC, qA, qB, List.getElem?_cons_succ, List.getElem?_cons_zero] at a0 a1 a2 a3 a4 b0 b1 b2 b3 b4))
            | (go_at_call 12; (with_reducible refine (At_N HQ.out HN.out hN10a _ _ (ag_play n m v u)).mono ?_); rintro e w6 ⟨mb, rfl, hb', h', f'⟩; clear a0 a1 a2 a3 a4 b0 b1 b2 b3 b4; have HM := hid h'; have HA2 := hid (HA.out.frm (frm0_of f') (fun h => h)); have HB2 := hid (HB.out.frm (frm0_of f') (fun h => h)); have HQ2 := hid (HQ.out.b0 f'); have HF2 := hid (below_next HF.out f'); clear HA HB HQ HF f' h' hb'; have HA := HA2; have HB := HB2; have HQ := HQ2; have HF := HF2; clear HA2 HB2 HQ2 HF2; have a0 := HA.out.cell 0; have a1 := HA.out.cell 1; have a2 := HA.out.cell 2; have a3 := HA.out.cell 3; have a4 := HA.out.cell 4; have b0 := HB.out.cell 0; have b1 := HB.out.cell 1; have b2 := HB.out.cell 2; have b3 := HB.out.cell 3; have b4 := HB.out.cell 4; (simp only [rqC, qA, qB, List.getElem?_cons_succ, List.getElem?_cons_zero] at a0 a1 a2 a3 a4 b0 b1 b2 b3 b4))
            | (go_at_call 13; (with_reducible refine (PGet_calls HM.out 5 (by decide) u (ag_val v u)).mono ?_); rintro e w7 ⟨rfl, rfl⟩; skip)
            | (go_at_call 11; (with_reducible refine (Right_N w6 HQ.out HN.out).mono ?_); rintro e w8 ⟨rfl, f'⟩; clear a0 a1 a2 a3 a4 b0 b1 b2 b3 b4; have HQ2 := hid ((HQ.out.al (OAB2 v u)).b0 f'); have HF2 := hid (below_next (HF.out.alloc HF.out.size (OAB2 v u)) f'); clear HA HB HQ HF f'; have HQ := HQ2; have HF := HF2; clear HQ2 HF2)
            | (go_at_call 14; (with_reducible refine (Once_N w8 HQ.out HN.out hN10a).mono ?_); rintro e w9 ⟨rfl, f'⟩; have HF2 := hid (below_next HF.out f'); clear HF f'; have HF := HF2; clear HF2))
          go_ret
          exact ⟨rfl, HF.out⟩
end Go.Proofs.Ytljfbaakgjmmfaa
