/- QueueLast, walked: of each client the youngest request waits; they stand in the order in which these came. -/
import Derived.Test.YtabmbppolmikcaaQuLastP
namespace Go.Proofs.Ytabmbppolmikcaa
open Go.RowKit Go.ChangeShapes
set_option linter.unusedVariables false
set_option linter.unusedSimpArgs false
set_option maxRecDepth 100000
abbrev TTop : Nat := 27
theorem cell_keep {w w' : World} (f : Frm (fun _ => False) w w') {p : Addr} {v : Value} (h : w.cell? p = some v) : w'.cell? p = some v := (f.cell (World.block_lt_of_cell? w p h) (fun h => h)).trans h
set_option maxHeartbeats 32000000 in
theorem QueueLast_walk (a0 : Option Addr) (c0 : Nat) (z0 : List Int) (w : World) (h0 : IsInts .u8 w a0 c0 z0) :
    Calls Try.prog 3 #[.slice a0 z0.length c0] w fun e w' => e = .returned (.bool true) ∧ Below w.heap.size w w' := by
  have HZ := hid h0
  obtain ⟨len, hlen⟩ : ∃ len, z0.length = len := ⟨_, rfl⟩
  have HLEN := hid hlen
  rw [hlen]
  have hsm : len ≤ 9223372036854775807 := by have := h0.le; have := h0.small; omega
  clear h0 hlen
  by_cases hl60 : 60 < len
  · have hl : (60 : Int) < (len : Int) := by omega
    go_enter Try.func3, Try.ntmps3
    go_wp2_with (first
      | (go_at_call 6; (with_reducible refine (known_calls w).mono ?_); rintro e w0 ⟨rfl, f'⟩; have HF0 := hid f'; clear f'))
    go_ret
    exact ⟨rfl, HF0.out.below (Nat.le_refl _) (fun _ _ h => h)⟩
  · have hl : ¬ (60 : Int) < (len : Int) := by omega
    have HL60 := hid hl60
    clear hl60 hsm
    go_enter Try.func3, Try.ntmps3
    go_wp2_with (first
      | (go_at_call 6; (with_reducible refine (known_calls w).mono ?_); rintro e w0 ⟨rfl, f'⟩; have HF0 := hid f'; clear f')
      | (go_at_call 7; (with_reducible refine (QNew_calls w0).mono ?_); rintro e w1 ⟨rfl, hq, f'⟩; obtain ⟨qb, hqb⟩ : ∃ qb, w0.heap.size + 1 = qb := ⟨_, rfl⟩; obtain ⟨mb, hmb⟩ : ∃ mb, w0.heap.size = mb := ⟨_, rfl⟩; have hsz := HF0.out.size; have HGE := hid (show w.heap.size ≤ qb ∧ w.heap.size ≤ mb by omega); rw [hqb, hmb] at hq; rw [hqb]; have HQ0 := hid hq; have HF1 := hid (HF0.out.trans f'); clear HF0 hq f' hqb hmb hsz))
    have HQ1 := hid (HQ0.out.quiet (qbox w1 (.cells #[.int .u32 0, .int .u32 0, .int .u32 0, .int .u32 0, .int .u32 0] TTop)))
    have HT1 := hid (show Blk (w1.alloc (.cells #[.int .u32 0, .int .u32 0, .int .u32 0, .int .u32 0, .int .u32 0] TTop)) w1.heap.size (topC []) TTop from Blk.new w1 _ _)
    have HB1 := hid ((HF1.out.trans (qbox w1 (.cells #[.int .u32 0, .int .u32 0, .int .u32 0, .int .u32 0, .int .u32 0] TTop))).below (Nat.le_refl _) (fun _ _ h => h))
    have HNE := hid (show ¬ w1.heap.size = qb ∧ ¬ w1.heap.size = mb ∧ w.heap.size ≤ w1.heap.size by have := HQ0.out.lt; have := HF1.out.size; omega)
    clear HQ0 HF1 hl
    generalize w1.alloc (.cells #[.int .u32 0, .int .u32 0, .int .u32 0, .int .u32 0, .int .u32 0] TTop) = w2 at *
    generalize w1.heap.size = tb at *
    have HO1 := hid (OwnB.nil w2 (fun k => k < w2.heap.size))
    go_loopw [5, 6] (fun ov iv wr => ∃ (i : Nat) (L : List Qe) (n : Nat) (oa : Option Addr) (oc : Nat), i ≤ len ∧ iv = .int .i64 i ∧ ov = .slice oa L.length oc ∧ IsQ wr qb mb L n ∧ n ≤ i ∧ Shp L ∧ Blk wr tb (topC L) TTop ∧ OwnB wr (fun k => k < w2.heap.size) (.slice oa L.length oc) (ordC L) ∧ Below w.heap.size w wr ∧ w2.heap.size ≤ wr.heap.size) (fun _ i _ => len - (intOf i).toNat)
    case atStart => exact ⟨0, [], 0, none, 0, Nat.zero_le _, rfl, rfl, HQ1.out, Nat.le_refl _, fun e he => (by cases he), HT1.out, HO1.out, HB1.out, Nat.le_refl _⟩
    case round =>
      obtain ⟨i, L, n, oa, oc, hi, rfl, rfl, hq, hn, hs, ht, ho, hb, hz⟩ := hrel
      generalize wr = wx at *
      have HSW := hid (show qb < w2.heap.size ∧ mb < w2.heap.size ∧ tb < w2.heap.size from ⟨HQ1.out.lt.1, HQ1.out.lt.2, HT1.out.lt⟩)
      have HQ := hid hq; have HNI := hid hn; have HS := hid hs; have HT := hid ht; have HO := hid ho; have HB := hid hb; have HSZ := hid hz
      clear HQ1 HT1 HB1 HO1 hq hn hs ht ho hb hz
      by_cases hlt : i < len
      · have HLT := hid hlt
        obtain ⟨z, hz⟩ : ∃ z, z0[i]? = some z := ⟨_, List.getElem?_eq_getElem (by rw [HLEN.out]; exact hlt)⟩
        have hzw := bnd8 (HZ.out.wf z (List.mem_of_getElem? hz))
        obtain ⟨ab, ao, ha, habl, hac⟩ := HZ.out.at_ (by rw [HLEN.out]; omega)
        subst ha
        have hzc : wx.cell? ⟨ab, ao + i, none⟩ = some (.int .u8 z) := by
          rw [HB.out.cell (p := ⟨ab, ao + i, none⟩) habl, hac i (by rw [HLEN.out]; exact hlt), List.getD_eq_getElem?_getD, hz]; rfl
        have HABW := hid habl
        obtain ⟨k4, hk4⟩ : ∃ k : Nat, z % 4 = (k : Int) := ⟨(z % 4).toNat, by omega⟩
        have tz4 : z.tmod 4 = (k4 : Int) := by rw [Int.tmod_eq_emod_of_nonneg hzw.1]; exact hk4
        obtain ⟨m, hm⟩ : ∃ m : Nat, (k4 : Int) + 1 = (m : Int) := ⟨k4 + 1, by omega⟩
        have wm : IntKind.u8.wrap (m : Int) = (m : Int) := by simp [IntKind.wrap, IntKind.bits, IntKind.signed]; omega
        obtain ⟨d, hd⟩ : ∃ d : Int, z / 4 = d := ⟨_, rfl⟩
        have dz4 : z.tdiv 4 = d := by rw [Int.tdiv_eq_ediv_of_nonneg hzw.1]; exact hd
        have wd : IntKind.u8.wrap d = d := by simp [IntKind.wrap, IntKind.bits, IntKind.signed]; omega
        obtain ⟨e, he⟩ : ∃ e : Int, d % 20 = e := ⟨_, rfl⟩
        have de : d.tmod 20 = e := by rw [Int.tmod_eq_emod_of_nonneg (by omega)]; exact he
        have we8 : IntKind.u8.wrap e = e := by simp [IntKind.wrap, IntKind.bits, IntKind.signed]; omega
        have we : IntKind.u32.wrap e = e := by simp [IntKind.wrap, IntKind.bits, IntKind.signed]; omega
        obtain ⟨ts, hts⟩ : ∃ ts : Int, e + 1 = ts := ⟨_, rfl⟩
        have wts : IntKind.u32.wrap ts = ts := by simp [IntKind.wrap, IntKind.bits, IntKind.signed]; omega
        have hm4 : 1 ≤ m ∧ m ≤ 4 := by omega
        have ht1 : 1 ≤ ts ∧ ts ≤ 255 := by omega
        have HM4 := hid hm4; have HT1 := hid ht1
        have hmi : (m : Int) < 5 := by omega
        have hm0 : (0 : Int) ≤ (m : Int) := by omega
        have HRO := hid (show RqOk ⟨(m : Int), ts, 1, 1, 2⟩ from ⟨by show 0 ≤ (m : Int) ∧ (m : Int) ≤ 255; omega, by show 0 ≤ ts ∧ ts ≤ 4294967295; omega, (by decide : (0 : Int) ≤ 1 ∧ (1 : Int) ≤ 255), (by decide : (0 : Int) ≤ 1 ∧ (1 : Int) ≤ 255), (by decide : (0 : Int) ≤ 2 ∧ (2 : Int) ≤ 65535)⟩)
        have hpb := putB_top HQ.out.inv (c := (m : Int)) (ts := ts) (by omega) ht1.1
        obtain ⟨T, hT⟩ : ∃ T, topV L (m : Int) = T := ⟨_, rfl⟩
        rw [hT] at hpb
        have htc := (HT.out.cell m).trans (topC_at HQ.out.inv hm4.2)
        rw [hT] at htc
        have HTT := hid hT
        have hii : (i : Int) < (len : Int) := by omega
        have hi0 : (0 : Int) ≤ (i : Int) := by omega
        clear hz hzw hk4 hd he hT hm4 ht1 hac hi
        by_cases htop : T < ts
        · have HN1 := hid (show n ≤ 100000 by have := HNI.out; have := HLT.out; have := HL60.out; omega)
          have HPB := hid (show putB L ⟨(m : Int), ts, 1, 1, 2⟩ = true from hpb.trans (decide_eq_true htop))
          have HTS := hid (topC_put HQ.out.inv HM4.out HT1.out.1 HRO.out)
          have HOC := hid (ordC_put L ⟨(m : Int), ts, 1, 1, 2⟩ n)
          have HSP := hid (shp_put HS.out (m : Int) ts n)
          have HMW := hid (show (Lit.int .u8 (m : Int)).wf = true from wf8k (by have := HM4.out; omega))
          have HLL := hid (show (ordC L).length = L.length from List.length_map ..)
          have HFEW := hid HQ.out.inv.few
          clear hpb
          go_wp2_with fail
          go_region
          go_wp2_with fail
          have HQd := hid (HQ.out.quiet ((frm_drew wx).trans (frm_drew _))); have HTd := hid (HT.out.frm ((frm_drew wx).trans (frm_drew _)) (fun h => h))
          go_region_held3 (fun wy => wy.cell? ⟨tb, m, none⟩ = some (.int .u32 T)) (first | go_keep | exact htc) ((first | (go_at_call 9; (with_reducible refine (HPut_calls _ (m : Int) ts 1 2).mono ?_); rintro e w3 ⟨rfl, f'⟩; clear htc; have HQ2 := hid (HQd.out.quiet f'); have HT2 := hid (HTd.out.frm f' (fun h => h)); have HF3 := hid (((frm_drew wx).trans (frm_drew _)).trans f'); clear HQd HTd f'; have htc := (HT2.out.cell m).trans (topC_at HQ.out.inv HM4.out.2); (rw [HTT.out] at htc)) | (go_at_call 8; (with_reducible refine (Put_yes HQ2.out HN1.out ⟨(m : Int), ts, 1, 1, 2⟩ HRO.out HPB.out).mono ?_); rintro e w4 ⟨rfl, hq', f'⟩; clear htc; have HQ3 := hid hq'; have HT3 := hid (HT2.out.frm f' (fun e => by rcases e with e | e; exact HNE.out.1 e; exact HNE.out.2.1 e)); have HF4 := hid ((Frm.mono HF3.out (S' := Two qb mb) (fun _ _ h => h.elim)).trans f'); clear HQ2 HT2 HF3 f' hq'; have htc := (HT3.out.cell m).trans (topC_at HQ.out.inv HM4.out.2); (rw [HTT.out] at htc))))
          have hz := HT3.out.free m
          go_wp2_with fail
          clear htc hz
          have HT5 := hid (HTS.out ▸ HT3.out.setCell m (.int .u32 ts)); have hf5 : Frm (· = tb) w4 (w4.setCell ⟨tb, m, none⟩ (.int .u32 ts)) := (Frm.refl _ _).setCell _ _ (.inr rfl)
          have HQ5 := hid (HQ3.out.frm hf5 (fun k hk e => by rcases hk with hk | hk <;> subst hk; exact HNE.out.1 e.symm; exact HNE.out.2.1 e.symm))
          have HO5 := hid ((HO.out.frm HF4.out (fun k hk e => by rcases e with e | e <;> subst e; exact HO.out.off _ hk HSW.out.1; exact HO.out.off _ hk HSW.out.2.1)).frm hf5 (fun k hk e => by subst e; exact HO.out.off _ hk HSW.out.2.2))
          have HB5 := hid ((HB.out.trans (HF4.out.below HB.out.size (fun k hk e => by have := HGE.out; rcases e with e | e <;> omega))).trans (hf5.below (Nat.le_trans HB.out.size HF4.out.size) (fun k hk e => by have := HNE.out.2.2; omega)))
          have HZ5 := hid (show w2.heap.size ≤ (w4.setCell ⟨tb, m, none⟩ (.int .u32 ts)).heap.size from Nat.le_trans (Nat.le_trans HSZ.out HF4.out.size) hf5.size)
          clear HT3 HQ3 HO HB HF4 HSZ hf5 HQ HT HTT
          generalize w4.setCell ⟨tb, m, none⟩ (.int .u32 ts) = w5 at *
          have HR0 := hid (OwnB.nil w5 (fun q => q < w5.heap.size))
          go_loopw [9, 10] (fun rv kv wr => ∃ (k : Nat) (ra : Option Addr) (rl rc : Nat), k ≤ L.length ∧ kv = .int .i64 k ∧ rv = .slice ra rl rc ∧ OwnB wr (fun q => q < w5.heap.size) (.slice ra rl rc) (((ordC L).take k).filter (fun y => !(y == (m : Int)))) ∧ Frm (fun _ => False) w5 wr) (fun _ k _ => L.length - (intOf k).toNat)
          case atStart => exact ⟨0, none, 0, 0, Nat.zero_le _, rfl, rfl, HR0.out, Frm.refl _ _⟩
          case round =>
            clear HR0
            obtain ⟨k, ra, rl, rc, hk, rfl, rfl, hr, hf⟩ := hrel
            generalize wr = wy at *
            have HR := hid hr; have HFY := hid hf
            have HLY := hid (show (((ordC L).take k).filter (fun y => !(y == (m : Int)))).length ≤ 4 by have h1 := List.length_filter_le (fun y => !(y == (m : Int))) ((ordC L).take k); rw [List.length_take, HLL.out] at h1; have := HFEW.out; omega)
            clear hr hf
            by_cases hkl : k < L.length
            · have HKL := hid hkl
              obtain ⟨x, hx⟩ : ∃ x, (ordC L)[k]? = some x := ⟨_, List.getElem?_eq_getElem (by rw [HLL.out]; exact hkl)⟩
              have HX := hid hx
              obtain ⟨oa', oc', hv, hin, _⟩ := HO5.out.ints
              rw [HLL.out] at hv
              injection hv with hv1 hv2 hv3
              subst hv1 hv3
              obtain ⟨og, oo, ho1, ho2, ho3⟩ := hin.at_ (by rw [HLL.out]; omega)
              subst ho1
              have hxc : wy.cell? ⟨og, oo + k, none⟩ = some (.int .u8 x) := by
                rw [HFY.out.cell (p := ⟨og, oo + k, none⟩) ho2 (fun h => h), ho3 k (by rw [HLL.out]; exact hkl), List.getD_eq_getElem?_getD, hx]; rfl
              have HXW := hid (hin.wf x (List.mem_of_getElem? hx))
              have hki : (k : Int) < (L.length : Int) := by omega
              have hk0 : (0 : Int) ≤ (k : Int) := by omega
              have hk4 : (k : Int) < 4 := by have := HFEW.out; omega
              clear hx hv2 hin ho3 hk hkl
              by_cases hxm : x = (m : Int)
              · have HD := hid (filt_drop (c := (m : Int)) (hxm ▸ HX.out))
                have hxb : (x == (m : Int)) = true := beq_iff_eq.2 hxm
                have hxb2 : (x != (m : Int)) = false := by rw [bne, hxb]; rfl
                clear hxm
                go_wp2
                go_roundw
                case rel => exact ⟨k + 1, ra, rl, rc, by have := HKL.out; omega, by go_num, rfl, by rw [HD.out]; exact HR.out, HFY.out⟩
                case measure => have := HKL.out; simp [intOf]; omega
              · have HD := hid (filt_keep HX.out hxm)
                have hxb : (x == (m : Int)) = false := beq_eq_false_iff_ne.2 hxm
                have hxb2 : (x != (m : Int)) = true := by rw [bne, hxb]; rfl
                clear hxm
                go_wp2_with (at_builtin; refine wpList_more rfl _ _ rfl rfl (HR.out.frm0 (qbox wy _)) (fun q hq => by have := HFY.out.size; simp; omega) (one_ints wy x _ HXW.out) rfl (by have := HLY.out; simp; omega) rfl rfl ?_; intro a' l' c' w6 ho' hf' hat'; have HR6 := hid ho'; have HF6 := hid ((HFY.out.trans (qbox wy _)).trans' hf' (fun q hq hk => (show ¬ q < w5.heap.size from HR.out.off q hk) hq)); clear ho' hf' hat')
                go_roundw
                case rel => exact ⟨k + 1, a', l', c', by have := HKL.out; omega, by go_num, rfl, by rw [HD.out]; exact HR6.out, HF6.out⟩
                case measure => have := HKL.out; simp [intOf]; omega
            · have hke : k = L.length := by omega
              subst hke
              clear hkl hk
              go_wp2_with (at_builtin; refine wpList_more rfl _ _ rfl rfl (HR.out.frm0 (qbox wy _)) (fun q hq => by have := HFY.out.size; simp; omega) (one_ints wy (m : Int) _ HMW.out) rfl (by have := HLY.out; simp; omega) rfl rfl ?_; intro a' l' c' w6 ho' hf' hat'; have HR6 := hid ho'; have HF6 := hid ((HFY.out.trans (qbox wy _)).trans' hf' (fun q hq hk => (show ¬ q < w5.heap.size from HR.out.off q hk) hq)); clear ho' hf' hat')
              have HTK := hid (show (((ordC L).take L.length).filter (fun y => !(y == (m : Int)))) ++ [(m : Int)] = ordC (dropC L (m : Int) ++ [(⟨(m : Int), ts, 1, 1, 2⟩, n)]) by rw [HOC.out, ← HLL.out, List.take_length])
              rw [HTK.out] at HR6
              obtain ⟨a2, c2, hv, _, _⟩ := HR6.out.ints
              injection hv with hv1 hv2 hv3
              rw [show (ordC (dropC L (m : Int) ++ [(⟨(m : Int), ts, 1, 1, 2⟩, n)])).length = (dropC L (m : Int) ++ [((⟨(m : Int), ts, 1, 1, 2⟩ : Rq), n)]).length from List.length_map ..] at hv2
              rw [hv2] at HR6
              rw [hv2]
              clear hv1 hv3 hv2
              go_roundw
              case rel => exact ⟨i + 1, dropC L (m : Int) ++ [(⟨(m : Int), ts, 1, 1, 2⟩, n)], n + 1, a', c', by have := HLT.out; omega, by go_num, rfl, HQ5.out.quiet HF6.out, by have := HNI.out; omega, HSP.out, HT5.out.frm HF6.out (fun h => h), ⟨HR6.out.own, fun q hq hA => HR6.out.off q hq (Nat.lt_of_lt_of_le hA HZ5.out), HR6.out.wf⟩, HB5.out.trans (HF6.out.below HB5.out.size (fun _ _ h => h)), Nat.le_trans HZ5.out HF6.out.size⟩
              case measure => have := HLT.out; simp [intOf]; omega
        · have HN1 := hid (show n ≤ 100000 by have := HNI.out; have := HLT.out; have := HL60.out; omega)
          have HPB := hid (show putB L ⟨(m : Int), ts, 1, 1, 2⟩ = false from hpb.trans (decide_eq_false htop))
          clear hpb
          go_wp2_with fail
          go_region
          go_wp2_with fail
          have HQd := hid (HQ.out.quiet ((frm_drew wx).trans (frm_drew _))); have HTd := hid (HT.out.frm ((frm_drew wx).trans (frm_drew _)) (fun h => h))
          go_region_held3 (fun wy => wy.cell? ⟨tb, m, none⟩ = some (.int .u32 T)) (first | go_keep | exact htc) ((first | (go_at_call 9; (with_reducible refine (HPut_calls _ (m : Int) ts 1 2).mono ?_); rintro e w3 ⟨rfl, f'⟩; clear htc; have HQ2 := hid (HQd.out.quiet f'); have HT2 := hid (HTd.out.frm f' (fun h => h)); have HF3 := hid (((frm_drew wx).trans (frm_drew _)).trans f'); clear HQd HTd f'; have htc := (HT2.out.cell m).trans (topC_at HQ.out.inv HM4.out.2); (rw [HTT.out] at htc)) | (go_at_call 8; (with_reducible refine (Put_no HQ2.out HN1.out ⟨(m : Int), ts, 1, 1, 2⟩ HRO.out HPB.out).mono ?_); rintro e w4 ⟨rfl, hq', f'⟩; clear htc; have HQ3 := hid hq'; have HT3 := hid (HT2.out.frm f' (fun h => h)); have HF4 := hid (HF3.out.trans f'); clear HQ2 HT2 HF3 f' hq'; have htc := (HT3.out.cell m).trans (topC_at HQ.out.inv HM4.out.2); (rw [HTT.out] at htc))))
          go_wp2
          go_roundw
          case rel => exact ⟨i + 1, L, n, oa, oc, by have := HLT.out; omega, by go_num, rfl, HQ3.out, by have := HNI.out; omega, HS.out, HT3.out, HO.out.frm0 HF4.out, HB.out.trans (HF4.out.below HB.out.size (fun _ _ h => h)), Nat.le_trans HSZ.out HF4.out.size⟩
          case measure => have := HLT.out; simp [intOf]; omega
      · have hie : i = len := by omega
        subst hie
        clear hlt hi
        have HFEW := hid HQ.out.inv.few
        have HLL := hid (show (ordC L).length = L.length from List.length_map ..)
        obtain ⟨N, hN⟩ : ∃ N, L.length = N := ⟨_, rfl⟩
        have HN := hid hN
        rw [hN]
        rw [hN] at HO
        have hn4 : (N : Int) ≤ 4 := by have := HFEW.out; omega
        have hn0 : (0 : Int) ≤ (N : Int) := by omega
        clear hN
        go_wp2_with (first
          | (go_at_call 10; (with_reducible refine (All_calls HQ.out).mono ?_); rintro e w3 ⟨aa, ac, rfl, ha, f'⟩; (rw [HN.out] at ha); (rw [HN.out]); have HA := hid ha; have HQ3 := hid (HQ.out.quiet f'); have HT3 := hid (HT.out.frm f' (fun h => h)); have HO3 := hid (HO.out.frm0 f'); have HB3 := hid (HB.out.trans (f'.below HB.out.size (fun _ _ h => h))); clear ha f' HQ HT HO HB)
          | (go_at_call 11; (with_reducible refine (QLen_calls HQ3.out).mono ?_); rintro e w' ⟨rfl, rfl⟩; (rw [HN.out])))
        have HW3 := hid (Frm.refl (fun _ => False) w3)
        go_loopw [12] (fun kv wr => ∃ (k : Nat), k ≤ N ∧ kv = .int .i64 k ∧ Frm (fun _ => False) w3 wr) (fun k _ => N - (intOf k).toNat)
        case atStart => exact ⟨0, Nat.zero_le _, rfl, HW3.out⟩
        case round =>
          clear HW3
          obtain ⟨k, hk, rfl, hf⟩ := hrel
          generalize wr = wy at *
          have HFY := hid hf
          clear hf
          by_cases hkl : k < N
          · have HKL := hid hkl
            obtain ⟨e, he⟩ : ∃ e, L[k]? = some e := ⟨_, List.getElem?_eq_getElem (by rw [HN.out]; exact hkl)⟩
            have hem := List.mem_of_getElem? he
            have hsp := HS.out e hem
            have htv := topV_mem HQ3.out.inv hem
            have hre := HQ3.out.inv.real e hem
            have hmc := of_decide_eq_true hre.1
            obtain ⟨⟨ec, et, ek, ey, ev⟩, es⟩ := e
            dsimp only at hsp htv hre hmc
            injection hsp with _ _ hs3 hs4 hs5
            subst hs3 hs4 hs5
            obtain ⟨m, hm⟩ : ∃ m : Nat, ec = (m : Int) := ⟨ec.toNat, by omega⟩
            subst hm
            have hm4 : m ≤ 4 := by omega
            have HHS := hid (show hasB L ⟨(m : Int), et, 1, 1, 2⟩ = true by unfold hasB; rw [HQ3.out.inv.find hem]; rfl)
            have HRE := hid hre.2
            have htc := ((HT3.out.frm HFY.out (fun h => h)).cell m).trans (topC_at HQ3.out.inv hm4)
            rw [htv] at htc
            have hox : (ordC L)[k]? = some (m : Int) := by unfold ordC; rw [List.getElem?_map, he]; rfl
            obtain ⟨oa', oc', hv, hin, _⟩ := HO3.out.ints
            rw [HLL.out, HN.out] at hv
            injection hv with hv1 hv2 hv3
            subst hv1 hv3
            obtain ⟨og, oo, ho1, ho2, ho3⟩ := hin.at_ (by rw [HLL.out, HN.out]; omega)
            subst ho1
            have hxc : wy.cell? ⟨og, oo + k, none⟩ = some (.int .u8 (m : Int)) := by
              rw [HFY.out.cell (p := ⟨og, oo + k, none⟩) ho2 (fun h => h), ho3 k (by rw [HLL.out, HN.out]; exact hkl), List.getD_eq_getElem?_getD, hox]; rfl
            obtain ⟨ag, ac', hav, hac1, hac2, hacell⟩ := (HA.out.quiet HFY.out).at_ (by rw [List.length_map, HN.out]; omega)
            rw [List.length_map, HN.out] at hav hac1
            injection hav with av1 av2 av3
            subst av1 av3
            have hrx : (L.map (·.1))[k]? = some ⟨(m : Int), et, 1, 1, 2⟩ := by rw [List.getElem?_map, he]; rfl
            have a0_ := hacell k _ hrx 0 (by decide); have a1_ := hacell k _ hrx 1 (by decide); have a2_ := hacell k _ hrx 2 (by decide); have a3_ := hacell k _ hrx 3 (by decide); have a4_ := hacell k _ hrx 4 (by decide)
            simp only [rqC, List.getElem?_cons_succ, List.getElem?_cons_zero, Nat.add_zero] at a0_ a1_ a2_ a3_ a4_
            have hki : (k : Int) < (N : Int) := by omega
            have hk0 : (0 : Int) ≤ (k : Int) := by omega
            have hmi : (m : Int) < 5 := by omega
            have hm0 : (0 : Int) ≤ (m : Int) := by omega
            have HQY := hid (HQ3.out.quiet (HFY.out.trans (frm_drew wy))); have HFD := hid (HFY.out.drew)
            clear he hem htv hre hmc hox hv2 hin ho3 ho2 av2 hacell hrx hk hkl hm4
            go_wp2_with fail
            go_region_held3 (fun wx => wx.cell? ⟨ag, k * 5, none⟩ = some (.int .u8 (m : Int)) ∧ wx.cell? ⟨ag, k * 5 + 1, none⟩ = some (.int .u32 et) ∧ wx.cell? ⟨ag, k * 5 + 2, none⟩ = some (.int .u8 1) ∧ wx.cell? ⟨ag, k * 5 + 3, none⟩ = some (.int .u8 1) ∧ wx.cell? ⟨ag, k * 5 + 4, none⟩ = some (.int .u16 2) ∧ wx.cell? ⟨og, oo + k, none⟩ = some (.int .u8 (m : Int)) ∧ wx.cell? ⟨tb, m, none⟩ = some (.int .u32 et)) (first | go_keep | exact ⟨a0_, a1_, a2_, a3_, a4_, hxc, htc⟩ | exact ⟨b0_, b1_, b2_, b3_, b4_, b5_, b6_⟩) ((go_at_call 12; (with_reducible refine (QHas_calls HQY.out ⟨(m : Int), et, 1, 1, 2⟩ HRE.out true HHS.out).mono ?_); rintro e w7 ⟨rfl, f'⟩; have HF7 := hid (HFD.out.trans f'); have b0_ := cell_keep f' a0_; have b1_ := cell_keep f' a1_; have b2_ := cell_keep f' a2_; have b3_ := cell_keep f' a3_; have b4_ := cell_keep f' a4_; have b5_ := cell_keep f' hxc; have b6_ := cell_keep f' htc; clear f' a0_ a1_ a2_ a3_ a4_ hxc htc))
            go_wp2
            go_roundw
            case rel => exact ⟨k + 1, by have := HKL.out; omega, by go_num, HF7.out⟩
            case measure => have := HKL.out; simp [intOf]; omega
          · have hke : k = N := by omega
            subst hke
            clear hkl hk
            go_wp2
            go_ret
            exact ⟨rfl, HB3.out.trans (HFY.out.below HB3.out.size (fun _ _ h => h))⟩
end Go.Proofs.Ytabmbppolmikcaa
