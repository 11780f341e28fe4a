/- CheckParts, walked. -/
import Derived.Test.YtljfbaakgjmmfaaChkPartsL
import Derived.Test.YtljfbaakgjmmfaaTypes
namespace Go.Proofs.Ytljfbaakgjmmfaa
open Go.RowKit Go.ChangeShapes
set_option linter.unusedVariables false
set_option linter.unusedSimpArgs false
set_option maxRecDepth 100000
abbrev TA3 : Nat := 22
abbrev TCov : Nat := 32
abbrev allL (k : Nat) : List Rq := (List.range k).map allR
theorem allL_len (k : Nat) : (allL k).length = k := by simp [allL]
theorem allL_succ (k : Nat) : allL (k + 1) = allL k ++ [allR k] := by simp [allL, List.range_succ]
theorem allL_at (k i : Nat) (h : i < k) : (allL k)[i]? = some (allR i) := by simp [allL, h]
theorem allL_ok (k : Nat) (h : k ≤ 12) : ∀ r ∈ allL k, RqOk r := fun r hr => by
  obtain ⟨i, hi, rfl⟩ := List.mem_map.1 hr
  exact allR_ok i (by have := List.mem_range.1 hi; omega)
theorem allL_take (k m : Nat) (h : m ≤ k) : (allL k).take m = allL m := by
  apply List.ext_getElem?
  intro i
  rw [List.getElem?_take]
  by_cases hi : i < m
  · rw [if_pos hi, allL_at k i (by omega), allL_at m i hi]
  · rw [if_neg hi, List.getElem?_eq_none (by rw [allL_len]; omega)]
theorem badR_ok : RqOk badR := ⟨by decide, by decide, by decide, by decide, by decide⟩
theorem mod12 {x : Int} (h : 0 ≤ x) : ∃ k : Nat, k < 12 ∧ x.tmod 12 = (k : Int) := ⟨(x % 12).toNat, by omega, by rw [Int.tmod_eq_emod_of_nonneg h]; omega⟩
set_option maxHeartbeats 32000000 in
theorem CheckParts_core (n f0 f1 f2 t0 t1 t2 sp : Int) (w : World) (hn0 : 0 ≤ n ∧ n ≤ 255) (hfs : ∀ x ∈ [f0, f1, f2], 0 ≤ x ∧ x ≤ 255) (hts : ∀ x ∈ [t0, t1, t2], 0 ≤ x ∧ x ≤ 255) (hsp : 0 ≤ sp ∧ sp ≤ 255) :
    Calls Try.prog 3 #[.int .u8 n, .agg #[.int .u8 f0, .int .u8 f1, .int .u8 f2], .agg #[.int .u8 t0, .int .u8 t1, .int .u8 t2], .int .u8 sp] w fun e w' => e = .returned (.bool true) ∧ Below w.heap.size w w' := by
  obtain ⟨k, hk12, hk⟩ := mod12 hn0.1
  have hki : (k : Int) < 12 := by omega
  have HK12 := hid hk12; have HFS := hid hfs; have HTS := hid hts; have HSP := hid hsp
  clear hn0 hfs hts hsp hk12
  go_enter Try.func3, Try.ntmps3
  go_wp2_with (go_at_call 7; (with_reducible refine (known_calls _).mono ?_); rintro e w1 ⟨rfl, f'⟩; have HF1 := hid f'; clear f')
  have HFB1 := hid (show Blk w1 w.heap.size ([f0, f1, f2].map (Value.int .u8)) TA3 from ((Blk.new w ([f0, f1, f2].map (Value.int .u8)) TA3).alloc (.cells #[.int .u8 t0, .int .u8 t1, .int .u8 t2] TA3)).below HF1.out (by simp; omega))
  have HTB1 := hid (show Blk w1 (w.heap.size + 1) ([t0, t1, t2].map (Value.int .u8)) TA3 from (blkn (w.alloc (.cells #[.int .u8 f0, .int .u8 f1, .int .u8 f2] TA3)) (w.heap.size + 1) (by simp) ([t0, t1, t2].map (Value.int .u8)) TA3).below HF1.out (by simp))
  have HF := hid (show Below w.heap.size w w1 from ((((Below.refl w.heap.size w).alloc (Nat.le_refl _) (.cells #[.int .u8 f0, .int .u8 f1, .int .u8 f2] TA3)).alloc (by simp) (.cells #[.int .u8 t0, .int .u8 t1, .int .u8 t2] TA3)).trans (HF1.out.mono (by simp; omega))))
  clear HF1
  generalize hfb : w.heap.size + 1 = tb at *
  clear hfb
  obtain ⟨fb, hfb⟩ : ∃ fb, w.heap.size = fb := ⟨_, rfl⟩
  rw [hfb]
  rw [hfb] at HFB1
  go_loopw [10, 11] (fun lv iv wr => ∃ (i : Nat), i ≤ k ∧ iv = .int .i64 i ∧ OwnR wr (fun j => j < w1.heap.size) lv (allL i) ∧ Frm (fun _ => False) w1 wr) (fun _ i _ => k - (intOf i).toNat)
  case atStart => exact ⟨0, Nat.zero_le _, rfl, OwnR.nil _ _, Frm.refl _ _⟩
  case round =>
    obtain ⟨i, hi, rfl, ho, hf⟩ := hrel
    have HO := hid ho; have HG := hid hf
    clear ho hf
    by_cases hlt : i < k
    · have hil : (i : Int) < (k : Int) := by omega
      have HLT := hid hlt
      have HI12 := hid (show i ≤ 12 by omega)
      obtain ⟨n0, hn0⟩ : ∃ n0, i % 4 = n0 := ⟨_, rfl⟩
      have HN0 := hid hn0
      have ht4 : (i : Int).tmod 4 = (n0 : Int) := by rw [Int.tmod_eq_emod_of_nonneg (by omega)]; omega
      have hn4 : (n0 : Int) < 4 := by omega
      have hi12 : (i : Int) < 12 := by omega
      have e1 : IntKind.u8.wrap ((n0 : Int) + 1) = (n0 : Int) + 1 := by simp [IntKind.wrap, IntKind.bits, IntKind.signed]; omega
      have e2 : IntKind.u32.wrap ((i : Int) + 1) = (i : Int) + 1 := by simp [IntKind.wrap, IntKind.bits, IntKind.signed]; omega
      have HS := hid (show allL (i + 1) = allL i ++ [⟨(n0 : Int) + 1, (i : Int) + 1, 1, 2, 3⟩] by rw [allL_succ, ← hn0]; rfl)
      clear hlt hn0 hi
      go_wp2_with (first
        | (go_at_call 8; (with_reducible refine (HPut_calls wr ((n0 : Int) + 1) ((i : Int) + 1) 2 3).mono ?_); rintro e w2 ⟨rfl, f'⟩; have nO := hid (HO.out.quiet f'); have nG := hid (HG.out.trans f'); clear HO HG f'; have HO := nO; have HG := nG; clear nO nG)
        | (at_builtin; refine wpList_moreR ⟨(n0 : Int) + 1, (i : Int) + 1, 1, 2, 3⟩ rfl _ _ rfl rfl (HO.out.quiet (frm_box _ _)) (fun k hk => by have := HG.out.size; simp; omega) (Blk.new w2 (rqC ⟨(n0 : Int) + 1, (i : Int) + 1, 1, 2, 3⟩) TRq) (by rw [allL_len]; have := HI12.out; omega) rfl rfl ?_; intro u5 w5 ho' hf' hat'; have nG := hid ((HG.out.alloc _).trans' hf' (fun k hk e => HO.out.off k e hk)); clear HO HG hf' hat'; have HO := hid ho'; have HG := nG; clear ho' nG))
      go_roundw
      case rel => exact ⟨i + 1, by have := HLT.out; omega, by go_num, by rw [HS.out]; exact HO.out, HG.out⟩
      case measure => simp [intOf]; have := HLT.out; omega
    · have hil : (k : Int) ≤ (i : Int) := by omega
      have hik : k = i := by omega
      subst hik
      clear hlt hi
      obtain ⟨la, lc, rfl, hq⟩ := HO.out.rqs (allL_ok k (by have := HK12.out; omega))
      have HQ0 := hid hq
      rw [allL_len]
      clear hq HO
      go_wp2
      generalize wr = wb at *
      have HC0 := hid (show Blk (wb.alloc (.cells #[.bool false, .bool false, .bool false, .bool false, .bool false, .bool false, .bool false, .bool false, .bool false, .bool false, .bool false, .bool false] TCov)) wb.heap.size (covC []) TCov from blkn wb _ rfl (covC []) TCov)
      have HG0 := hid (show Frm (· = wb.heap.size) wb (wb.alloc (.cells #[.bool false, .bool false, .bool false, .bool false, .bool false, .bool false, .bool false, .bool false, .bool false, .bool false, .bool false, .bool false] TCov)) from (Frm.refl _ _).alloc _)
      have HFB := hid (HFB1.out.frm HG.out (fun h => h))
      have HTB := hid (HTB1.out.frm HG.out (fun h => h))
      have HWR := hid (below_frm0 HF.out HG.out)
      obtain ⟨cb, hcb⟩ : ∃ cb, wb.heap.size = cb := ⟨_, rfl⟩
      rw [hcb]
      rw [hcb] at HC0 HG0
      have HCB := hid hcb
      clear HFB1 HTB1 HG HF hcb
      go_loopw [13, 14, 15] (fun mv lv pv wx => ∃ (p : Nat) (ps : List (List Nat)) (ss : List Sl3), p ≤ 3 ∧ pv = .int .i64 p ∧ ps.length = p ∧ mv = .int .i64 (mostF ps.flatten : Nat) ∧ GoodP k ps ∧ (∀ q ∈ ps, q.length ≤ 60) ∧ OwnS wx (fun j => j ≤ cb) lv ss ∧ Lnk wx (cb + 1) lv ss (dnsP ps) ∧ Blk wx cb (covC ps.flatten) TCov ∧ Frm (· = cb) wb wx) (fun _ _ pv _ => 3 - (intOf pv).toNat)
      case atStart => exact ⟨0, [], [], by omega, rfl, rfl, rfl, (fun q hq => by cases hq), (fun q hq => by cases hq), OwnS.nil _ _, Lnk.nil _ _, HC0.out, HG0.out⟩
      case round =>
        clear HC0 HG0
        generalize wr = wx at *
        obtain ⟨p, ps, ss, hp, rfl, hpl, rfl, hgd, hq60, hs, hl, hc, hg⟩ := hrel
        have HPL := hid hpl; have HGD := hid hgd; have HQ60 := hid hq60; have HS := hid hs; have HL := hid hl; have HC := hid hc; have HG := hid hg
        clear hpl hgd hq60 hs hl hc hg
        obtain ⟨lva, lvc, hlv⟩ := HS.out.slice
        subst hlv
        have HCL := hid HC.out.lt
        have HFL := hid (show ¬ fb = cb from fun e => by have := HFB.out.lt; rw [HCB.out] at this; omega)
        have HTL := hid (show ¬ tb = cb from fun e => by have := HTB.out.lt; rw [HCB.out] at this; omega)
        by_cases hp3 : p < 3
        · have hpi : (p : Int) < 3 := by omega
          have HP3 := hid hp3
          obtain ⟨f, hf⟩ : ∃ f, [f0, f1, f2][p]? = some f := ⟨_, List.getElem?_eq_getElem (show p < [f0, f1, f2].length from hp3)⟩
          obtain ⟨t, ht⟩ : ∃ t, [t0, t1, t2][p]? = some t := ⟨_, List.getElem?_eq_getElem (show p < [t0, t1, t2].length from hp3)⟩
          have hfb := HFS.out f (List.mem_of_getElem? hf)
          have htb := HTS.out t (List.mem_of_getElem? ht)
          have qf : wx.cell? ⟨fb, p, none⟩ = some (.int .u8 f) := by rw [(HFB.out.frm HG.out HFL.out).cell p, List.getElem?_map, hf]; rfl
          have HQT := hid (show wb.cell? ⟨tb, p, none⟩ = some (.int .u8 t) by rw [HTB.out.cell p, List.getElem?_map, ht]; rfl)
          obtain ⟨F, hF12, hF⟩ := mod12 hfb.1
          obtain ⟨T, hT12, hT⟩ := mod12 htb.1
          have hFi : (F : Int) < 12 := by omega
          have hTi : (T : Int) < 12 := by omega
          have HF12 := hid hF12
          clear hfb htb hf ht hp3 hF12 hT12 hp
          go_wp2
          clear qf
          go_loopw [13, 16, 17] (fun mv dv iv wy => ∃ (i : Nat) (q : List Nat), i ≤ 12 ∧ iv = .int .i64 i ∧ (∀ j ∈ q, j < i) ∧ q.length ≤ i ∧ mv = .int .i64 (mostF (ps ++ [q]).flatten : Nat) ∧ GoodP k (ps ++ [q]) ∧ OwnD wy (fun j => j < wx.heap.size) dv (q.map dnP) ∧ Blk wy cb (covC (ps ++ [q]).flatten) TCov ∧ Frm (· = cb) wx wy) (fun _ _ iv _ => k - (intOf iv).toNat)
          case atStart => exact ⟨F, [], by have := HF12.out; omega, rfl, (fun j hj => by cases hj), Nat.zero_le _, by rw [flat_begin], HGD.out.begin, OwnD.nil _ _, by rw [flat_begin]; exact HC.out, Frm.refl _ _⟩
          case round =>
            clear HC
            generalize wr = wy at *
            obtain ⟨i, q, hi12, rfl, hqi, hql, rfl, hgd, hd, hc, hy⟩ := hrel
            have HI12 := hid hi12; have HQI := hid hqi; have HQL := hid hql; have HGQ := hid hgd; have HD := hid hd; have HC := hid hc; have HY := hid hy
            clear hi12 hqi hql hgd hd hc hy
            have qt : wy.cell? ⟨tb, p, none⟩ = some (.int .u8 t) := ((HG.out.trans HY.out).cell (p := ⟨tb, p, none⟩) HTB.out.lt HTL.out).trans HQT.out
            by_cases hik : i < k
            · have hiki : (i : Int) < (k : Int) := by omega
              by_cases hit : i ≤ T
              · have hiti : (i : Int) ≤ (T : Int) := by omega
                obtain ⟨n0, hn0⟩ : ∃ n0, i % 4 = n0 := ⟨_, rfl⟩
                have HAR := hid (show allR i = ⟨(n0 : Int) + 1, (i : Int) + 1, 1, 2, 3⟩ by rw [← hn0]; rfl)
                obtain ⟨ga, oa, rfl, hga, hca⟩ := HQ0.out.at_ (by rw [allL_len]; omega)
                have hra : (allL k)[i]? = some ⟨(n0 : Int) + 1, (i : Int) + 1, 1, 2, 3⟩ := by rw [allL_at k i hik, HAR.out]
                have hgc : ¬ ga = cb := fun e => by rw [HCB.out] at hga; omega
                have r0 := ((HG.out.trans HY.out).cell (p := ⟨ga, oa + i * 5 + 0, none⟩) hga hgc).trans (hca i _ hra 0 (by decide)); have r1 := ((HG.out.trans HY.out).cell (p := ⟨ga, oa + i * 5 + 1, none⟩) hga hgc).trans (hca i _ hra 1 (by decide)); have r2 := ((HG.out.trans HY.out).cell (p := ⟨ga, oa + i * 5 + 2, none⟩) hga hgc).trans (hca i _ hra 2 (by decide)); have r3 := ((HG.out.trans HY.out).cell (p := ⟨ga, oa + i * 5 + 3, none⟩) hga hgc).trans (hca i _ hra 3 (by decide)); have r4 := ((HG.out.trans HY.out).cell (p := ⟨ga, oa + i * 5 + 4, none⟩) hga hgc).trans (hca i _ hra 4 (by decide))
                simp only [rqC, List.getElem?_cons_succ, List.getElem?_cons_zero, Nat.add_zero] at r0 r1 r2 r3 r4
                have hii : (i : Int) < 12 := by have := HK12.out; omega
                have HII := hid (show i < 12 by have := HK12.out; omega)
                have HIK := hid hik
                have e2 : IntKind.u32.wrap ((i : Int) + 1) = (i : Int) + 1 := by simp [IntKind.wrap, IntKind.bits, IntKind.signed]; omega
                obtain ⟨M, hM⟩ : ∃ M, mostF (ps ++ [q]).flatten = M := ⟨_, rfl⟩
                rw [hM]
                have HM := hid hM
                obtain ⟨cv, hcv⟩ : ∃ cv, (ps ++ [q]).flatten.contains i = cv := ⟨_, rfl⟩
                have HCV := hid hcv
                clear hra hca hga hgc hn0 hM hcv hik hit
                by_cases hmx : (M : Int) < (i : Int) + 1
                · have HMX := hid (show M < i + 1 by omega)
                  go_wp2_with (first
                    | (at_builtin; refine wpList_moreD ⟨(i : Int) + 1, ⟨(n0 : Int) + 1, (i : Int) + 1, 1, 2, 3⟩, 0⟩ rfl _ _ rfl rfl (HD.out.quiet (frm_box _ _)) (fun j hj => by have := HY.out.size; simp; omega) (Blk.new wy (dnC ⟨(i : Int) + 1, ⟨(n0 : Int) + 1, (i : Int) + 1, 1, 2, 3⟩, 0⟩) TDn) (by rw [List.length_map]; have := HQL.out; have := HI12.out; omega) rfl rfl ?_; intro u7 w7 ho' hf' hat'; clear qt r0 r1 r2 r3 r4; have nC := hid ((HC.out.alloc _).frm hf' (fun e => HD.out.off _ e HCL.out)); have nY := hid ((HY.out.alloc _).trans' hf' (fun j hj e => absurd hj (HD.out.off j e))); clear HC HY HD hf' hat'; have HC := nC; have HY := nY; have HD := hid ho'; clear nC nY ho'; have cc := (HC.out.cell i).trans (covC_at _ i HII.out); (rw [HCV.out] at cc); have zc := HC.out.free i))
                  go_roundw
                  case rel => exact ⟨i + 1, q ++ [i], by have := HII.out; omega, by go_num, (fun j hj => by rcases List.mem_append.1 hj with hj | hj; exact Nat.lt_succ_of_lt (HQI.out j hj); rw [List.mem_singleton.1 hj]; exact Nat.lt_succ_self i), by rw [List.length_append]; exact Nat.succ_le_succ HQL.out, by rw [flat_snoc, mostF_snoc, HM.out]; have := HMX.out; rw [Nat.max_eq_right (by omega)]; go_num, HGQ.out.snoc HIK.out HQI.out, by rw [List.map_append, List.map_singleton, dnP, HAR.out]; exact HD.out.frm ((Frm.refl (· = cb) _).setCell ⟨cb, i, none⟩ _ (.inr rfl)) (fun j hj e => HD.out.off j hj (by rw [e]; exact HCL.out)), by rw [flat_snoc, ← covC_set _ i HII.out]; exact HC.out.setCell i _, HY.out.setCell ⟨cb, i, none⟩ _ (.inr rfl)⟩
                  case measure => simp [intOf]; have := HIK.out; omega
                · have hmx2 : (i : Int) + 1 ≤ (M : Int) := by omega
                  have HMX := hid (show i + 1 ≤ M by omega)
                  go_wp2_with (first
                    | (at_builtin; refine wpList_moreD ⟨(i : Int) + 1, ⟨(n0 : Int) + 1, (i : Int) + 1, 1, 2, 3⟩, 0⟩ rfl _ _ rfl rfl (HD.out.quiet (frm_box _ _)) (fun j hj => by have := HY.out.size; simp; omega) (Blk.new wy (dnC ⟨(i : Int) + 1, ⟨(n0 : Int) + 1, (i : Int) + 1, 1, 2, 3⟩, 0⟩) TDn) (by rw [List.length_map]; have := HQL.out; have := HI12.out; omega) rfl rfl ?_; intro u7 w7 ho' hf' hat'; clear qt r0 r1 r2 r3 r4; have nC := hid ((HC.out.alloc _).frm hf' (fun e => HD.out.off _ e HCL.out)); have nY := hid ((HY.out.alloc _).trans' hf' (fun j hj e => absurd hj (HD.out.off j e))); clear HC HY HD hf' hat'; have HC := nC; have HY := nY; have HD := hid ho'; clear nC nY ho'; have cc := (HC.out.cell i).trans (covC_at _ i HII.out); (rw [HCV.out] at cc); have zc := HC.out.free i))
                  go_roundw
                  case rel => exact ⟨i + 1, q ++ [i], by have := HII.out; omega, by go_num, (fun j hj => by rcases List.mem_append.1 hj with hj | hj; exact Nat.lt_succ_of_lt (HQI.out j hj); rw [List.mem_singleton.1 hj]; exact Nat.lt_succ_self i), by rw [List.length_append]; exact Nat.succ_le_succ HQL.out, by rw [flat_snoc, mostF_snoc, HM.out]; have := HMX.out; rw [Nat.max_eq_left (by omega)], HGQ.out.snoc HIK.out HQI.out, by rw [List.map_append, List.map_singleton, dnP, HAR.out]; exact HD.out.frm ((Frm.refl (· = cb) _).setCell ⟨cb, i, none⟩ _ (.inr rfl)) (fun j hj e => HD.out.off j hj (by rw [e]; exact HCL.out)), by rw [flat_snoc, ← covC_set _ i HII.out]; exact HC.out.setCell i _, HY.out.setCell ⟨cb, i, none⟩ _ (.inr rfl)⟩
                  case measure => simp [intOf]; have := HIK.out; omega
              · have hiti : (T : Int) < (i : Int) := by omega
                clear hik hit
                obtain ⟨M, hM⟩ : ∃ M, mostF (ps ++ [q]).flatten = M := ⟨_, rfl⟩
                rw [hM]
                have HM := hid hM
                clear hM
                obtain ⟨da, dc, hdv, hd, hdo⟩ := HD.out.dns
                have HS2 := hid (HS.out.frm HY.out (fun j hj e => HS.out.off j hj (Nat.le_of_eq e)))
                have HL2 := hid (HL.out.frm HY.out (fun b h1 h2 h3 e => by omega))
                have HCL2 := hid HC.out.lt
                have HDN := hid hd
                have HDO := hid (show ∀ b o, da = some ⟨b, o, none⟩ → cb + 1 ≤ b ∧ b < wy.heap.size ∧ ¬ (Value.slice lva ss.length lvc).ownBlock = some b from fun b o e => by
                  have h1 := hdo b o e
                  have h2 := HD.out.off b h1
                  have h3 := HD.out.lt h1
                  have h4 := HCL.out
                  exact ⟨by omega, h3, fun e2 => h2 (HS.out.lt e2)⟩)
                subst hdv
                rw [List.length_map]
                clear hd hdo
                go_wp2_with (first
                  | (at_builtin; refine wpList_moreS ⟨da, q.length, dc⟩ rfl _ _ rfl rfl (HS2.out.quiet (frm_box _ _)) (fun j hj => by have := HCL2.out; simp; omega) (Blk.new wy (slC ⟨da, q.length, dc⟩) 34) (by rw [HL.out.len, dnsP, List.length_map, HPL.out]; have := HP3.out; omega) rfl rfl ?_; intro u8 w8 ho' hf' hat'; clear qt; have nL := hid ((HL2.out.frm (frm_box _ _) (fun _ _ _ _ h => h)).more hf' (fun j hj => (hat' j hj)) (List.length_map ..) (HDN.out.alloc _) (fun b o e => by obtain ⟨x, y, z⟩ := HDO.out b o e; exact ⟨x, by simp; omega, z⟩)); have nC := hid ((HC.out.alloc _).frm hf' (fun e => HS2.out.off _ e (Nat.le_refl _))); have nG := hid (((HG.out.trans HY.out).alloc _).trans' hf' (fun j hj e => absurd (Nat.le_of_lt (by rw [HCB.out] at hj; exact hj)) (HS2.out.off j e))); clear HC HY HD HL HL2 HS HS2 HG hf' hat'; have HC := nC; have HG := nG; have HL := nL; have HS := hid ho'; clear nC nG nL ho'))
                go_roundw
                case rel => exact ⟨p + 1, ps ++ [q], ss ++ [⟨da, q.length, dc⟩], by have := HP3.out; omega, by go_num, by rw [List.length_append, HPL.out]; rfl, by rw [HM.out], HGQ.out, (fun r hr => by rcases List.mem_append.1 hr with hr | hr; exact HQ60.out r hr; rw [List.mem_singleton.1 hr]; have := HQL.out; have := HI12.out; omega), HS.out, by rw [dnsP, List.map_append]; exact HL.out, HC.out, HG.out⟩
                case measure => simp [intOf]; have := HP3.out; omega
            · have hiki : (k : Int) ≤ (i : Int) := by omega
              clear hik
              obtain ⟨M, hM⟩ : ∃ M, mostF (ps ++ [q]).flatten = M := ⟨_, rfl⟩
              rw [hM]
              have HM := hid hM
              clear hM
              obtain ⟨da, dc, hdv, hd, hdo⟩ := HD.out.dns
              have HS2 := hid (HS.out.frm HY.out (fun j hj e => HS.out.off j hj (Nat.le_of_eq e)))
              have HL2 := hid (HL.out.frm HY.out (fun b h1 h2 h3 e => by omega))
              have HCL2 := hid HC.out.lt
              have HDN := hid hd
              have HDO := hid (show ∀ b o, da = some ⟨b, o, none⟩ → cb + 1 ≤ b ∧ b < wy.heap.size ∧ ¬ (Value.slice lva ss.length lvc).ownBlock = some b from fun b o e => by
                have h1 := hdo b o e
                have h2 := HD.out.off b h1
                have h3 := HD.out.lt h1
                have h4 := HCL.out
                exact ⟨by omega, h3, fun e2 => h2 (HS.out.lt e2)⟩)
              subst hdv
              rw [List.length_map]
              clear hd hdo
              go_wp2_with (first
                | (at_builtin; refine wpList_moreS ⟨da, q.length, dc⟩ rfl _ _ rfl rfl (HS2.out.quiet (frm_box _ _)) (fun j hj => by have := HCL2.out; simp; omega) (Blk.new wy (slC ⟨da, q.length, dc⟩) 34) (by rw [HL.out.len, dnsP, List.length_map, HPL.out]; have := HP3.out; omega) rfl rfl ?_; intro u8 w8 ho' hf' hat'; clear qt; have nL := hid ((HL2.out.frm (frm_box _ _) (fun _ _ _ _ h => h)).more hf' (fun j hj => (hat' j hj)) (List.length_map ..) (HDN.out.alloc _) (fun b o e => by obtain ⟨x, y, z⟩ := HDO.out b o e; exact ⟨x, by simp; omega, z⟩)); have nC := hid ((HC.out.alloc _).frm hf' (fun e => HS2.out.off _ e (Nat.le_refl _))); have nG := hid (((HG.out.trans HY.out).alloc _).trans' hf' (fun j hj e => absurd (Nat.le_of_lt (by rw [HCB.out] at hj; exact hj)) (HS2.out.off j e))); clear HC HY HD HL HL2 HS HS2 HG hf' hat'; have HC := nC; have HG := nG; have HL := nL; have HS := hid ho'; clear nC nG nL ho'))
              go_roundw
              case rel => exact ⟨p + 1, ps ++ [q], ss ++ [⟨da, q.length, dc⟩], by have := HP3.out; omega, by go_num, by rw [List.length_append, HPL.out]; rfl, by rw [HM.out], HGQ.out, (fun r hr => by rcases List.mem_append.1 hr with hr | hr; exact HQ60.out r hr; rw [List.mem_singleton.1 hr]; have := HQL.out; have := HI12.out; omega), HS.out, by rw [dnsP, List.map_append]; exact HL.out, HC.out, HG.out⟩
              case measure => simp [intOf]; have := HP3.out; omega
        · have hpi : (3 : Int) ≤ (p : Int) := by omega
          obtain rfl : p = 3 := by omega
          clear hp hp3 HFL HTL HFB HTB
          obtain ⟨FL, hFL⟩ : ∃ F, ps.flatten = F := ⟨_, rfl⟩
          obtain ⟨M, hM⟩ : ∃ M, mostF FL = M := ⟨_, rfl⟩
          rw [hFL] at HC
          rw [hFL, hM]
          have hMk : M ≤ k := hM ▸ mostF_le FL k (hFL ▸ HGD.out.lt)
          have hMi : (M : Int) ≤ (k : Int) := by omega
          have hM12 : (M : Int) < 12 := by omega
          have HMK := hid hMk
          have hGD12 : GoodP 12 ps := HGD.out.up (Nat.le_of_lt HK12.out)
          have HG12 := hid hGD12
          have HT := hid (show totF (fun _ => none) 0 0 (dnsP ps) = if gapTo FL M = true then none else some (allL M) by rw [tot_good hGD12, hFL, hM])
          have HSP3 := hid (show ∀ s x, s < M → gapTo FL M = false → totF (fun _ => none) 0 0 (dnsP ps ++ [[⟨(s : Int) + 1, badR, x⟩]]) = none from fun s x h1 h2 => tot_spoilt hGD12 s (by rw [hFL, hM]; exact h1) (by rw [hFL, hM]; exact h2) x)
          have hss : ss.length = 3 := by rw [HL.out.len, dnsP, List.length_map, HPL.out]
          have HSS := hid hss
          have HD3 := hid (show (dnsP ps).length = 3 by rw [dnsP, List.length_map, HPL.out])
          have HQ6 := hid (show ∀ l ∈ dnsP ps, l.length ≤ 60 from fun l hl => by obtain ⟨q, hq, rfl⟩ := List.mem_map.1 hl; rw [List.length_map]; exact HQ60.out q hq)
          obtain ⟨da, dc, hde, hds⟩ := HS.out.dss HL.out
          rw [HD3.out, hss] at hde
          injection hde with hde1 hde2 hde3
          subst hde1 hde3
          rw [hss]
          rw [hss] at HS HL
          have HDS := hid hds
          have HWC := hid (show w.heap.size ≤ cb from HCB.out ▸ HWR.out.size)
          have HWX := hid (below_frm1 HWR.out HG.out HWC.out)
          have HQX := hid (HQ0.out.frm HG.out (fun b o e hb => by rw [HCB.out] at hb; omega))
          have hkc : (k : Int) ≤ (lc : Int) := by have := HQ0.out.le; rw [allL_len] at this; omega
          have hMc : (M : Int) ≤ (lc : Int) := by omega
          have hlcs : (lc : Int) ≤ 9223372036854775807 := by have := HQ0.out.small; omega
          clear hFL hM hMk hGD12 hss hds hde2 HGD HQ60 HG HWR
          go_wp2
          go_loopw [18, 19] (fun gv jv wz => ∃ j : Nat, j ≤ M ∧ jv = .int .i64 j ∧ gv = .bool (gapTo FL j) ∧ wx = wz) (fun _ jv _ => M - (intOf jv).toNat)
          case atStart => exact ⟨0, Nat.zero_le _, rfl, rfl, rfl⟩
          case round =>
            obtain ⟨j, hj, rfl, rfl, hwz⟩ := hrel
            subst hwz
            by_cases hjm : j < M
            · have hji : (j : Int) < (M : Int) := by omega
              have hj12 : (j : Int) < 12 := by omega
              have cc := (HC.out.cell j).trans (covC_at FL j (by omega))
              have hgs := gapTo_succ FL j
              generalize FL.contains j = cv at cc hgs
              generalize gapTo FL j = gb at hgs ⊢
              have HGS := hid hgs
              have HJM := hid hjm
              clear hgs hjm hj
              cases gb <;> cases cv
              all_goals
                go_wp2
                go_roundw
                case rel => exact ⟨j + 1, by have := HJM.out; omega, by go_num, by rw [HGS.out]; rfl, by first | rfl | trivial⟩
                case measure => simp [intOf]; have := HJM.out; omega
            · have hji : (M : Int) ≤ (j : Int) := by omega
              obtain rfl : j = M := by omega
              have HT2 := HT.out
              obtain ⟨gb, hgb⟩ : ∃ gb, gapTo FL j = gb := ⟨_, rfl⟩
              have HGB := hid hgb
              rw [hgb] at HT2 ⊢
              clear hjm hj hgb
              cases gb
              · rw [if_neg (by decide)] at HT2
                have HT3 := hid HT2
                clear HT2 HC
                by_cases hj0 : j = 0
                · subst hj0
                  have HCX := hid (show cb < wx.heap.size from HCL.out)
                  go_wp2_with (first
                    | (go_at_call 9; (with_reducible refine (List_some HDS.out HD3.out (dnsP_ok HG12.out) HQ6.out (by decide) (allL 0) 0 (allL_len 0) (allL_ok 0 (by have := HMK.out; have := HK12.out; omega)) HT3.out).mono ?_); rintro e w8 ⟨ra, rc, rfl, hr', f'⟩; have HRQ := hid hr'; have n0_ := hid (HQX.out.b0 f'); have n1_ := hid (HS.out.quiet (frm0_of f')); have n2_ := hid (HL.out.frm (frm0_of f') (fun _ _ _ _ h => h)); have n3_ := hid (Nat.lt_of_lt_of_le HCX.out f'.size); have n4_ := hid (below_next HWX.out f'); clear HQX HS HL HCX HWX; have HQX := n0_; clear n0_; have HS := n1_; clear n1_; have HL := n2_; clear n2_; have HCX := n3_; clear n3_; have HWX := n4_; clear n4_; clear f' hr' HDS)
                    | (go_at_call 10; (with_reducible refine (Reqs_same HRQ.out (show IsRqs w8 la lc (allL 0) from allL_take k 0 HMK.out ▸ HQX.out.take 0) (allL_len 0)).mono ?_); rintro e w9 ⟨rfl, f'⟩; have n0_ := hid (HS.out.quiet f'); have n1_ := hid (HL.out.frm f' (fun _ _ _ _ h => h)); have n2_ := hid (Nat.lt_of_lt_of_le HCX.out f'.size); have n3_ := hid (below_frm0 HWX.out f'); clear HS HL HCX HWX; have HS := n0_; clear n0_; have HL := n1_; clear n1_; have HCX := n2_; clear n2_; have HWX := n3_; clear n3_; clear f' HRQ HQX))
                  go_ret
                  exact ⟨rfl, HWX.out⟩
                · have qj : ((j : Int) == 0) = false := beq_eq_false_iff_ne.2 (by omega)
                  have hj0i : ¬ (j : Int) = 0 := by omega
                  obtain ⟨s, hs⟩ := Int.eq_ofNat_of_zero_le (Int.emod_nonneg sp hj0i)
                  have hsj : s < j := by have := Int.emod_lt_of_pos sp (show (0 : Int) < (j : Int) by omega); omega
                  have hw6 : wrap64 sp = sp := by have := HSP.out; unfold wrap64; omega
                  have hs2 : (wrap64 sp).tmod (j : Int) = (s : Int) := by rw [hw6, Int.tmod_eq_emod_of_nonneg HSP.out.1, hs]
                  have hs12 : (s : Int) < 12 := by omega
                  have e1 : IntKind.u32.wrap ((s : Int) + 1) = (s : Int) + 1 := by simp [IntKind.wrap, IntKind.bits, IntKind.signed]; omega
                  have HT4 := hid (HSP3.out s 0 hsj HGB.out)
                  have HLEN4 := hid (show (dnsP ps ++ [([⟨(s : Int) + 1, badR, 0⟩] : List Dn)]).length = 4 by rw [List.length_append, HD3.out]; rfl)
                  have HOK4 := hid (show ∀ l ∈ dnsP ps ++ [([⟨(s : Int) + 1, badR, 0⟩] : List Dn)], ∀ d ∈ l, DnOk d from fun l hl => by
                    rcases List.mem_append.1 hl with hl | hl
                    · exact dnsP_ok HG12.out l hl
                    · rw [List.mem_singleton.1 hl]
                      intro d hd
                      rw [List.mem_singleton.1 hd]
                      exact ⟨by dsimp only; omega, badR_ok⟩)
                  have HL4 := hid (show ∀ l ∈ dnsP ps ++ [([⟨(s : Int) + 1, badR, 0⟩] : List Dn)], l.length ≤ 60 from fun l hl => by
                    rcases List.mem_append.1 hl with hl | hl
                    · exact HQ6.out l hl
                    · rw [List.mem_singleton.1 hl]; exact (show 1 ≤ 60 by decide))
                  have HCX := hid (show cb < wx.heap.size from HCL.out)
                  clear hj0 hs hsj hw6
                  go_wp2_with (first
                    | (go_at_call 9; (with_reducible refine (List_some HDS.out HD3.out (dnsP_ok HG12.out) HQ6.out (by decide) (allL j) j (allL_len j) (allL_ok j (by have := HMK.out; have := HK12.out; omega)) HT3.out).mono ?_); rintro e w8 ⟨ra, rc, rfl, hr', f'⟩; have HRQ := hid hr'; have n0_ := hid (HQX.out.b0 f'); have n1_ := hid (HS.out.quiet (frm0_of f')); have n2_ := hid (HL.out.frm (frm0_of f') (fun _ _ _ _ h => h)); have n3_ := hid (Nat.lt_of_lt_of_le HCX.out f'.size); have n4_ := hid (below_next HWX.out f'); clear HQX HS HL HCX HWX; have HQX := n0_; clear n0_; have HS := n1_; clear n1_; have HL := n2_; clear n2_; have HCX := n3_; clear n3_; have HWX := n4_; clear n4_; clear f' hr' HDS)
                    | (go_at_call 10; (with_reducible refine (Reqs_same HRQ.out (show IsRqs w8 la lc (allL j) from allL_take k j HMK.out ▸ HQX.out.take j) (allL_len j)).mono ?_); rintro e w9 ⟨rfl, f'⟩; have n0_ := hid (HS.out.quiet f'); have n1_ := hid (HL.out.frm f' (fun _ _ _ _ h => h)); have n2_ := hid (Nat.lt_of_lt_of_le HCX.out f'.size); have n3_ := hid (below_frm0 HWX.out f'); clear HS HL HCX HWX; have HS := n0_; clear n0_; have HL := n1_; clear n1_; have HCX := n2_; clear n2_; have HWX := n3_; clear n3_; clear f' HRQ HQX)
                    | (go_at_call 8; (with_reducible refine (HPut_calls _ 1 99 9 9).mono ?_); rintro e w10 ⟨rfl, f'⟩; have n0_ := hid (HS.out.quiet f'); have n1_ := hid (HL.out.frm f' (fun _ _ _ _ h => h)); have n2_ := hid (Nat.lt_of_lt_of_le HCX.out f'.size); have n3_ := hid (below_frm0 HWX.out f'); clear HS HL HCX HWX; have HS := n0_; clear n0_; have HL := n1_; clear n1_; have HCX := n2_; clear n2_; have HWX := n3_; clear n3_; clear f')
                    | (at_builtin; refine wpList_moreS ⟨some ⟨w10.heap.size, 0, none⟩, 1, 1⟩ rfl _ _ rfl rfl (HS.out.quiet (two_b _ _ _)) (fun j hj => by have := HCX.out; simp; omega) (blkn (w10.alloc _) (w10.heap.size + 1) (by simp) (slC ⟨some ⟨w10.heap.size, 0, none⟩, 1, 1⟩) 34) (by rw [HSS.out]; decide) rfl rfl ?_; intro u11 w11 ho' hf' hat'; have hl' := (HL.out.frm (two_b _ _ _) (fun _ _ _ _ h => h)).more hf' (fun j hj => hat' j hj) (show ([⟨(s : Int) + 1, badR, 0⟩] : List Dn).length = 1 from rfl) ((dns_of (l := [⟨(s : Int) + 1, badR, 0⟩]) (blkn w10 w10.heap.size rfl (dnC ⟨(s : Int) + 1, badR, 0⟩) TDn) (show 1 ≤ 1000 by decide)).alloc _) (fun b o e => by (injection e with e; injection e with e1 e2; subst e1); exact ⟨HCX.out, by simp; omega, fun e => Nat.lt_irrefl _ (HS.out.lt e)⟩); obtain ⟨a4, c4, e4, hd4⟩ := ho'.dss hl'; (rw [HLEN4.out] at e4); subst e4; have HD4 := hid hd4; have nW := hid (((HWX.out.alloc HWX.out.size _).alloc (by have := HWX.out.size; simp; omega) _).trans (hf'.below (by have := HWX.out.size; simp; omega) (fun k hk hn => HS.out.off k hn (Nat.le_of_lt (Nat.lt_of_lt_of_le hk HWC.out))))); clear HWX HS HL HCX ho' hf' hat' hl' hd4; have HWX := nW; clear nW)
                    | (go_at_call 9; (with_reducible refine (List_none HD4.out HLEN4.out HOK4.out HL4.out (by decide) HT4.out).mono ?_); rintro e w12 ⟨rfl, f'⟩; have n0_ := hid (below_next HWX.out f'); clear HWX; have HWX := n0_; clear n0_; clear f' HD4))
                  go_ret
                  exact ⟨rfl, HWX.out⟩
              · rw [if_pos rfl] at HT2
                have HT3 := hid HT2
                clear HT2 HC
                go_wp2_with (first
                  | (go_at_call 9; (with_reducible refine (List_none HDS.out HD3.out (dnsP_ok HG12.out) HQ6.out (by decide) HT3.out).mono ?_); rintro e w8 ⟨rfl, f'⟩; have n0_ := hid (below_next HWX.out f'); clear HWX; have HWX := n0_; clear n0_; clear f' HDS))
                go_ret
                exact ⟨rfl, HWX.out⟩
theorem CheckParts_walk (n : Int) (l1 : List Value) (x1 : List Int) (l2 : List Value) (x2 : List Int) (sp : Int) (w : World) (w0 : (Lit.int .u8 n).wf = true) (h1 : c22.K w x1 l1) (h2 : c22.K w x2 l2) (w3 : (Lit.int .u8 sp).wf = true) :
    Calls Try.prog 3 #[.int .u8 n, .agg l1.toArray, .agg l2.toArray, .int .u8 sp] w fun e w' => e = .returned (.bool true) ∧ Below w.heap.size w w' := by
  obtain ⟨rfl, hl1, hw1⟩ := k22 h1
  obtain ⟨rfl, hl2, hw2⟩ := k22 h2
  clear h1 h2
  match x1, hl1, hw1, x2, hl2, hw2 with
  | [f0, f1, f2], _, hw1, [t0, t1, t2], _, hw2 => exact CheckParts_core n f0 f1 f2 t0 t1 t2 sp w (bounds_u8 w0) (fun x hx => bounds_u8 (hw1 x hx)) (fun x hx => bounds_u8 (hw2 x hx)) (bounds_u8 w3)
end Go.Proofs.Ytljfbaakgjmmfaa
