/- What must stand at a place. -/
import Derived.Test.YtipalebaaejfjaaDoorDcAlw
namespace Go.Proofs.YtipalebaaejfjaaDoor
open Go.RowKit Go.ChangeShapes
set_option linter.unusedVariables false
set_option linter.unusedSimpArgs false
set_option maxRecDepth 100000
/-- What is picked so far. -/
structure PA where
  fd : Bool
  fr : Int
  e : En
def en0 : En := ⟨0, 0, 0, 0, 0, 0, 0⟩
def pickT (l : List Vm) (s f : Int) (A : PA) (e : En) : Bool := e.s == s && (decide (3 ≤ alwC l e) && (decide (2 ≤ sawC l e) && (!A.fd || (decide (A.e.v < e.v) || (decide (e.v = A.e.v) && decide (f < A.fr))))))
def pickM (l : List Vm) (s f : Int) (A : PA) (e : En) : PA := if pickT l s f A e = true then ⟨true, f, e⟩ else A
def pickV (l : List Vm) (s : Int) (A : PA) (x : Vm) : PA := x.p.foldl (pickM l s x.f) A
def pickR (l : List Vm) (s : Int) : PA := l.foldl (pickV l s) ⟨false, 0, en0⟩
theorem pick_in {l : List Vm} {s f : Int} {A Y : PA} {p : List En} {k : Nat} {e : En} (h : (p.drop k).foldl (pickM l s f) A = Y) (hm : p[k]? = some e) {B : PA} (hb : pickM l s f A e = B) : (p.drop (k + 1)).foldl (pickM l s f) B = Y := by
  obtain ⟨hk, e⟩ := List.getElem?_eq_some_iff.1 hm
  rw [List.drop_eq_getElem_cons hk, List.foldl_cons, e, hb] at h
  exact h
theorem pick_out {l : List Vm} {s : Int} {A Z : PA} {j : Nat} {x : Vm} (h : (l.drop j).foldl (pickV l s) A = Z) (hx : l[j]? = some x) : (l.drop (j + 1)).foldl (pickV l s) (x.p.foldl (pickM l s x.f) A) = Z := by
  obtain ⟨hk, e⟩ := List.getElem?_eq_some_iff.1 hx
  rw [List.drop_eq_getElem_cons hk, List.foldl_cons, e] at h
  exact h
def reC (e : En) : List Value := [.int .u8 e.c, .int .u32 e.t, .int .u8 e.k, .int .u8 e.y, .int .u16 e.x]
set_option maxHeartbeats 64000000 in
theorem Pick_calls {w : World} {a : Option Addr} {cap L : Nat} {l : List Vm} (h : IsRow 7 vmC w a cap l) (hL : l.length = L) (hok : ∀ x ∈ l, VmOk w x) (sq : Int) {zf : Bool} {zr : Int} {ze : En} (hZ : pickR l sq = ⟨zf, zr, ze⟩) :
    Calls Tryd.prog 13 #[.slice a L cap, .int .u32 sq] w fun e w' => e = .returned (.tuple #[.agg #[.int .u8 ze.c, .int .u32 ze.t, .int .u8 ze.k, .int .u8 ze.y, .int .u16 ze.x], .bool zf]) ∧ Frm (fun _ => False) w w' := by
  have HL := hid hL; have HZ := hid hZ; have HRW := hid h; have HOK := hid hok
  have hlc : L ≤ cap := hL ▸ h.le
  have hcs := h.small
  obtain ⟨rk, hrk⟩ : ∃ rk, w.heap.size = rk := ⟨_, rfl⟩
  obtain ⟨bk, hbk⟩ : ∃ bk, w.heap.size + 1 = bk := ⟨_, rfl⟩
  obtain ⟨w1, hw1⟩ : ∃ w1, (w.alloc (.cells #[.int .u8 0, .int .u32 0, .int .u8 0, .int .u8 0, .int .u16 0] TRe)).alloc (.cells #[.int .u32 0, .int .u32 0, .int .u8 0, .int .u32 0, .int .u8 0, .int .u8 0, .int .u16 0] TEn) = w1 := ⟨_, rfl⟩
  have HF1 := hid (show Frm (fun _ => False) w w1 by rw [← hw1]; exact (dbox _ _).trans (dbox _ _))
  have HR1 := hid (show Blk w1 rk (reC en0) TRe by rw [← hw1, ← hrk]; exact (Blk.new w (reC en0) TRe).frm (dbox _ _) (fun h => h))
  have HB1 := hid (show Blk w1 bk (enC en0) TEn by rw [← hw1, ← hbk]; exact two_boxes w (reC en0) (enC en0) TRe TEn)
  have HNE := hid (show ¬ bk = rk ∧ ¬ rk = bk ∧ w.heap.size ≤ bk ∧ w.heap.size ≤ rk by omega)
  have HW1 := hid hw1; have HRK := hid hrk; have HBK := hid hbk
  clear h hZ hok hL hw1 hrk hbk
  go_enter Tryd.func13, Tryd.ntmps13
  go_wp2
  rw [HW1.out, HBK.out, HRK.out]
  clear HW1
  go_loopw [7, 8, 15] (fun rv fv jv wr => ∃ (j : Nat) (fd : Bool) (fr bs bv bc bt bx by_ bz : Int), j ≤ L ∧ jv = .int .i64 j ∧ fv = .bool fd ∧ rv = .int .u8 fr ∧ (l.drop j).foldl (pickV l sq) ⟨fd, fr, ⟨bs, bv, bc, bt, bx, by_, bz⟩⟩ = ⟨zf, zr, ze⟩ ∧ Blk wr bk (enC ⟨bs, bv, bc, bt, bx, by_, bz⟩) TEn ∧ Blk wr rk (reC en0) TRe ∧ Frm (fun _ => False) w wr) (fun _ _ jv _ => L - (intOf jv).toNat)
  case atStart => exact ⟨0, false, 0, 0, 0, 0, 0, 0, 0, 0, by omega, rfl, rfl, rfl, HZ.out, HB1.out, HR1.out, HF1.out⟩
  case round =>
    clear HF1 HR1 HB1 HZ
    obtain ⟨j, fd, fr, bs, bv, bc, bt, bx, by_, bz, hj, rfl, rfl, rfl, hz, hb, hr, hf⟩ := hrel
    have HFw := hid hf; have HB := hid hb; have HR := hid hr; have HZ := hid hz
    clear hf hb hr hz
    by_cases hlt : j < L
    · obtain ⟨g, o, rfl, hg, hc⟩ := (HRW.out.quiet HFw.out).at_ (by rw [HL.out]; omega)
      obtain ⟨⟨f, ep, v, lo, ma, mc, ms, pa, pcc, p, qa, qc, q⟩, hx⟩ : ∃ x, l[j]? = some x := ⟨_, List.getElem?_eq_getElem (by rw [HL.out]; exact hlt)⟩
      have HXM := hid (List.mem_of_getElem? hx)
      have HPS := hid (HOK.out _ HXM.out).p
      have HZ2 := hid (pick_out HZ.out hx)
      have c0 := hc j _ hx 0 (by decide); have c1 := hc j _ hx 1 (by decide); have c2 := hc j _ hx 2 (by decide); have c3 := hc j _ hx 3 (by decide); have c4 := hc j _ hx 4 (by decide); have c5 := hc j _ hx 5 (by decide); have c6 := hc j _ hx 6 (by decide)
      simp only [vmC, List.getElem?_cons_succ, List.getElem?_cons_zero, Nat.add_zero] at c0 c1 c2 c3 c4 c5 c6
      have HLT := hid hlt
      have hjl : (j : Int) < (L : Int) := by omega
      have hj0 : (0 : Int) ≤ (j : Int) := by omega
      clear hx hlt hj hc HZ HXM
      obtain ⟨Y, hY⟩ : ∃ Y, p.foldl (pickM l sq f) ⟨fd, fr, ⟨bs, bv, bc, bt, bx, by_, bz⟩⟩ = Y := ⟨_, rfl⟩
      have HY := hid hY
      have HZ := hid (show (l.drop (j + 1)).foldl (pickV l sq) Y = ⟨zf, zr, ze⟩ by rw [← hY]; exact HZ2.out)
      obtain ⟨n, hn⟩ : ∃ n, p.length = n := ⟨_, rfl⟩
      have HN := hid hn
      have hnc : n ≤ pcc := hn ▸ HPS.out.le
      have hpcs := HPS.out.small
      rw [hn] at c5
      clear hY HZ2 hn
      go_wp2
      obtain ⟨w2, hw2⟩ : ∃ w2, wr.alloc (.cells #[.int .u8 f, .int .u8 ep, .int .u32 v, .int .u32 lo, .slice ma ms.length mc, .slice pa n pcc, .slice qa q.length qc] TVo) = w2 := ⟨_, rfl⟩
      obtain ⟨vb, hvb⟩ : ∃ vb, wr.heap.size = vb := ⟨_, rfl⟩
      have HF2 := hid (show Frm (fun _ => False) w w2 by rw [← hw2]; exact HFw.out.trans (dbox _ _))
      have HB2 := hid (show Blk w2 bk (enC ⟨bs, bv, bc, bt, bx, by_, bz⟩) TEn by rw [← hw2]; exact HB.out.alloc _)
      have HR2 := hid (show Blk w2 rk (reC en0) TRe by rw [← hw2]; exact HR.out.alloc _)
      have HV2 := hid (show Blk w2 vb [.int .u8 f, .int .u8 ep, .int .u32 v, .int .u32 lo, .slice ma ms.length mc, .slice pa n pcc, .slice qa q.length qc] TVo by rw [← hw2, ← hvb]; exact Blk.new wr [.int .u8 f, .int .u8 ep, .int .u32 v, .int .u32 lo, .slice ma ms.length mc, .slice pa n pcc, .slice qa q.length qc] TVo)
      have HVN := hid (show ¬ bk = vb by have := HB.out.lt; omega)
      rw [hw2, hvb]
      clear hw2 hvb HFw HB HR c0 c1 c2 c3 c4 c5 c6 hg
      go_loopw [7, 8, 22] (fun rv fv kv wx => ∃ (k : Nat) (fd : Bool) (fr bs bv bc bt bx by_ bz : Int), k ≤ n ∧ kv = .int .i64 k ∧ fv = .bool fd ∧ rv = .int .u8 fr ∧ (p.drop k).foldl (pickM l sq f) ⟨fd, fr, ⟨bs, bv, bc, bt, bx, by_, bz⟩⟩ = Y ∧ Blk wx bk (enC ⟨bs, bv, bc, bt, bx, by_, bz⟩) TEn ∧ Blk wx rk (reC en0) TRe ∧ Blk wx vb [.int .u8 f, .int .u8 ep, .int .u32 v, .int .u32 lo, .slice ma ms.length mc, .slice pa n pcc, .slice qa q.length qc] TVo ∧ Frm (fun _ => False) w wx) (fun _ _ kv _ => n - (intOf kv).toNat)
      case atStart => exact ⟨0, fd, fr, bs, bv, bc, bt, bx, by_, bz, by omega, rfl, rfl, rfl, HY.out, HB2.out, HR2.out, HV2.out, HF2.out⟩
      case round =>
        clear HF2 HB2 HR2 HV2 HY
        generalize wr = wx at *
        obtain ⟨k, fd, fr, bs, bv, bc, bt, bx, by_, bz, hk, rfl, rfl, rfl, hy, hb, hr, hv, hf⟩ := hrel
        have HFx := hid hf; have HBx := hid hb; have HRx := hid hr; have HVx := hid hv; have HY := hid hy
        clear hf hb hr hv hy
        by_cases hlt : k < n
        · obtain ⟨g2, o2, rfl, hg2, hc⟩ := (HPS.out.quiet HFx.out).at_ (by rw [HN.out]; omega)
          obtain ⟨⟨xs, xv, xc, xt, xk, xy, xx⟩, hx⟩ : ∃ m, p[k]? = some m := ⟨_, List.getElem?_eq_getElem (by rw [HN.out]; exact hlt)⟩
          have c0 := hc k _ hx 0 (by decide); have c1 := hc k _ hx 1 (by decide); have c2 := hc k _ hx 2 (by decide); have c3 := hc k _ hx 3 (by decide); have c4 := hc k _ hx 4 (by decide); have c5 := hc k _ hx 5 (by decide); have c6 := hc k _ hx 6 (by decide)
          simp only [enC, List.getElem?_cons_succ, List.getElem?_cons_zero, Nat.add_zero] at c0 c1 c2 c3 c4 c5 c6
          have HX := hid hx; have HKT := hid hlt
          have hkl : (k : Int) < (n : Int) := by omega
          have hk0 : (0 : Int) ≤ (k : Int) := by omega
          clear hx hlt hk hc
          obtain ⟨C, hC⟩ : ∃ C : Int, (alwC l ⟨xs, xv, xc, xt, xk, xy, xx⟩ : Int) = C := ⟨_, rfl⟩
          obtain ⟨D, hD⟩ : ∃ D : Int, (sawC l ⟨xs, xv, xc, xt, xk, xy, xx⟩ : Int) = D := ⟨_, rfl⟩
          have HC := hid hC; have HD := hid hD
          have hnm : ¬ bk = wx.heap.size := by have := HBx.out.lt; omega
          have hnm2 : ¬ wx.heap.size = bk := fun e => hnm e.symm
          have hnv : ¬ bk = vb := HVN.out
          have hnv2 : ¬ vb = bk := fun e => HVN.out e.symm
          obtain ⟨mb, hmb⟩ : ∃ mb, wx.heap.size = mb := ⟨_, rfl⟩
          obtain ⟨w3, hw3⟩ : ∃ w3, wx.alloc (.cells #[.int .u32 xs, .int .u32 xv, .int .u8 xc, .int .u32 xt, .int .u8 xk, .int .u8 xy, .int .u16 xx] TEn) = w3 := ⟨_, rfl⟩
          have HF := hid (show Frm (fun _ => False) w w3 by rw [← hw3]; exact HFx.out.trans (dbox _ _))
          have HB := hid (show Blk w3 bk (enC ⟨bs, bv, bc, bt, bx, by_, bz⟩) TEn by rw [← hw3]; exact HBx.out.alloc _)
          have HR := hid (show Blk w3 rk (reC en0) TRe by rw [← hw3]; exact HRx.out.alloc _)
          have HV := hid (show Blk w3 vb [.int .u8 f, .int .u8 ep, .int .u32 v, .int .u32 lo, .slice ma ms.length mc, .slice (some ⟨g2, o2, none⟩) n pcc, .slice qa q.length qc] TVo by rw [← hw3]; exact HVx.out.alloc _)
          have HM := hid (show Blk w3 mb (enC ⟨xs, xv, xc, xt, xk, xy, xx⟩) TEn by rw [← hw3, ← hmb]; exact Blk.new wx (enC ⟨xs, xv, xc, xt, xk, xy, xx⟩) TEn)
          have HW3 := hid hw3; have HMB := hid hmb
          rw [hmb] at hnm hnm2
          clear hw3 hmb hC hD HFx HBx HRx HVx hg2
          by_cases p1 : xs = sq
          · have e1 : (xs == sq) = true := beq_iff_eq.2 p1
            have e2 : (xs != sq) = false := by rw [bne, e1]; rfl
            have E1 := hid e1
            subst p1
            by_cases h1 : C < 3
            · have HT := hid (show pickT l xs f ⟨fd, fr, ⟨bs, bv, bc, bt, bx, by_, bz⟩⟩ ⟨xs, xv, xc, xt, xk, xy, xx⟩ = false by unfold pickT; rw [decide_eq_false (show ¬ 3 ≤ alwC l _ by have := HC.out; omega), Bool.false_and, Bool.and_false])
              cases fd
              · go_wp2_with fail
                rw [HW3.out, HMB.out]
                clear c0 c1 c2 c3 c4 c5 c6 HW3 HMB
                go_wp2_with (first
                  | (go_at_call 22; (with_reducible refine (alwM_calls (HRW.out.quiet HF.out) HL.out (fun x hx => (HOK.out x hx).quiet HF.out) HM.out C HC.out).mono ?_); rintro e w4 ⟨rfl, f'⟩; have HB_ := hid (HB.out.frm f' (fun h => h)); have HR_ := hid (HR.out.frm f' (fun h => h)); have HM_ := hid (HM.out.frm f' (fun h => h)); have HV_ := hid (HV.out.frm f' (fun h => h)); have HF_ := hid (HF.out.trans f'); clear HB HR HM HV HF f'; have HB := HB_; have HR := HR_; have HM := HM_; have HV := HV_; have HF := HF_; clear HB_ HR_ HM_ HV_ HF_))
                go_roundw
                case rel => exact ⟨k + 1, _, _, _, _, _, _, _, _, _, by have := HKT.out; omega, by first | rfl | go_num, rfl, rfl, pick_in HY.out HX.out (if_neg (by rw [HT.out]; decide)), HB.out, HR.out, HV.out, HF.out⟩
                case measure => have := HKT.out; simp [intOf]; omega
              · go_wp2_with fail
                rw [HW3.out, HMB.out]
                clear c0 c1 c2 c3 c4 c5 c6 HW3 HMB
                go_wp2_with (first
                  | (go_at_call 22; (with_reducible refine (alwM_calls (HRW.out.quiet HF.out) HL.out (fun x hx => (HOK.out x hx).quiet HF.out) HM.out C HC.out).mono ?_); rintro e w4 ⟨rfl, f'⟩; have HB_ := hid (HB.out.frm f' (fun h => h)); have HR_ := hid (HR.out.frm f' (fun h => h)); have HM_ := hid (HM.out.frm f' (fun h => h)); have HV_ := hid (HV.out.frm f' (fun h => h)); have HF_ := hid (HF.out.trans f'); clear HB HR HM HV HF f'; have HB := HB_; have HR := HR_; have HM := HM_; have HV := HV_; have HF := HF_; clear HB_ HR_ HM_ HV_ HF_))
                go_roundw
                case rel => exact ⟨k + 1, _, _, _, _, _, _, _, _, _, by have := HKT.out; omega, by first | rfl | go_num, rfl, rfl, pick_in HY.out HX.out (if_neg (by rw [HT.out]; decide)), HB.out, HR.out, HV.out, HF.out⟩
                case measure => have := HKT.out; simp [intOf]; omega
            · have HC2 := hid (show decide (3 ≤ alwC l ⟨xs, xv, xc, xt, xk, xy, xx⟩) = true from decide_eq_true (by have := HC.out; omega))
              have h1' : 3 ≤ C := by omega
              by_cases h2 : D < 2
              · have HT := hid (show pickT l xs f ⟨fd, fr, ⟨bs, bv, bc, bt, bx, by_, bz⟩⟩ ⟨xs, xv, xc, xt, xk, xy, xx⟩ = false by unfold pickT; rw [decide_eq_false (show ¬ 2 ≤ sawC l _ by have := HD.out; omega), Bool.false_and, Bool.and_false, Bool.and_false])
                cases fd
                · go_wp2_with fail
                  rw [HW3.out, HMB.out]
                  clear c0 c1 c2 c3 c4 c5 c6 HW3 HMB
                  go_wp2_with (first
                    | (go_at_call 22; (with_reducible refine (alwM_calls (HRW.out.quiet HF.out) HL.out (fun x hx => (HOK.out x hx).quiet HF.out) HM.out C HC.out).mono ?_); rintro e w4 ⟨rfl, f'⟩; have HB_ := hid (HB.out.frm f' (fun h => h)); have HR_ := hid (HR.out.frm f' (fun h => h)); have HM_ := hid (HM.out.frm f' (fun h => h)); have HV_ := hid (HV.out.frm f' (fun h => h)); have HF_ := hid (HF.out.trans f'); clear HB HR HM HV HF f'; have HB := HB_; have HR := HR_; have HM := HM_; have HV := HV_; have HF := HF_; clear HB_ HR_ HM_ HV_ HF_)
                    | (go_at_call 22; (with_reducible refine (sawM_calls (HRW.out.quiet HF.out) HL.out (fun x hx => (HOK.out x hx).quiet HF.out) HM.out D HD.out).mono ?_); rintro e w5 ⟨rfl, f'⟩; have HB_ := hid (HB.out.frm f' (fun h => h)); have HR_ := hid (HR.out.frm f' (fun h => h)); have HM_ := hid (HM.out.frm f' (fun h => h)); have HV_ := hid (HV.out.frm f' (fun h => h)); have HF_ := hid (HF.out.trans f'); clear HB HR HM HV HF f'; have HB := HB_; have HR := HR_; have HM := HM_; have HV := HV_; have HF := HF_; clear HB_ HR_ HM_ HV_ HF_; have b0 := HB.out.cell 0; have z0 := HB.out.free 0; have m0 := HM.out.cell 0; have b1 := HB.out.cell 1; have z1 := HB.out.free 1; have m1 := HM.out.cell 1; have b2 := HB.out.cell 2; have z2 := HB.out.free 2; have m2 := HM.out.cell 2; have b3 := HB.out.cell 3; have z3 := HB.out.free 3; have m3 := HM.out.cell 3; have b4 := HB.out.cell 4; have z4 := HB.out.free 4; have m4 := HM.out.cell 4; have b5 := HB.out.cell 5; have z5 := HB.out.free 5; have m5 := HM.out.cell 5; have b6 := HB.out.cell 6; have z6 := HB.out.free 6; have m6 := HM.out.cell 6; have v0 := HV.out.cell 0; have hbl := HB.out.lt; (simp only [enC, List.getElem?_cons_succ, List.getElem?_cons_zero] at b0 b1 b2 b3 b4 b5 b6 m0 m1 m2 m3 m4 m5 m6 v0)))
                  go_roundw
                  case rel => exact ⟨k + 1, _, _, _, _, _, _, _, _, _, by have := HKT.out; omega, by first | rfl | go_num, rfl, rfl, pick_in HY.out HX.out (if_neg (by rw [HT.out]; decide)), HB.out, HR.out, HV.out, HF.out⟩
                  case measure => have := HKT.out; simp [intOf]; omega
                · go_wp2_with fail
                  rw [HW3.out, HMB.out]
                  clear c0 c1 c2 c3 c4 c5 c6 HW3 HMB
                  go_wp2_with (first
                    | (go_at_call 22; (with_reducible refine (alwM_calls (HRW.out.quiet HF.out) HL.out (fun x hx => (HOK.out x hx).quiet HF.out) HM.out C HC.out).mono ?_); rintro e w4 ⟨rfl, f'⟩; have HB_ := hid (HB.out.frm f' (fun h => h)); have HR_ := hid (HR.out.frm f' (fun h => h)); have HM_ := hid (HM.out.frm f' (fun h => h)); have HV_ := hid (HV.out.frm f' (fun h => h)); have HF_ := hid (HF.out.trans f'); clear HB HR HM HV HF f'; have HB := HB_; have HR := HR_; have HM := HM_; have HV := HV_; have HF := HF_; clear HB_ HR_ HM_ HV_ HF_)
                    | (go_at_call 22; (with_reducible refine (sawM_calls (HRW.out.quiet HF.out) HL.out (fun x hx => (HOK.out x hx).quiet HF.out) HM.out D HD.out).mono ?_); rintro e w5 ⟨rfl, f'⟩; have HB_ := hid (HB.out.frm f' (fun h => h)); have HR_ := hid (HR.out.frm f' (fun h => h)); have HM_ := hid (HM.out.frm f' (fun h => h)); have HV_ := hid (HV.out.frm f' (fun h => h)); have HF_ := hid (HF.out.trans f'); clear HB HR HM HV HF f'; have HB := HB_; have HR := HR_; have HM := HM_; have HV := HV_; have HF := HF_; clear HB_ HR_ HM_ HV_ HF_; have b0 := HB.out.cell 0; have z0 := HB.out.free 0; have m0 := HM.out.cell 0; have b1 := HB.out.cell 1; have z1 := HB.out.free 1; have m1 := HM.out.cell 1; have b2 := HB.out.cell 2; have z2 := HB.out.free 2; have m2 := HM.out.cell 2; have b3 := HB.out.cell 3; have z3 := HB.out.free 3; have m3 := HM.out.cell 3; have b4 := HB.out.cell 4; have z4 := HB.out.free 4; have m4 := HM.out.cell 4; have b5 := HB.out.cell 5; have z5 := HB.out.free 5; have m5 := HM.out.cell 5; have b6 := HB.out.cell 6; have z6 := HB.out.free 6; have m6 := HM.out.cell 6; have v0 := HV.out.cell 0; have hbl := HB.out.lt; (simp only [enC, List.getElem?_cons_succ, List.getElem?_cons_zero] at b0 b1 b2 b3 b4 b5 b6 m0 m1 m2 m3 m4 m5 m6 v0)))
                  go_roundw
                  case rel => exact ⟨k + 1, _, _, _, _, _, _, _, _, _, by have := HKT.out; omega, by first | rfl | go_num, rfl, rfl, pick_in HY.out HX.out (if_neg (by rw [HT.out]; decide)), HB.out, HR.out, HV.out, HF.out⟩
                  case measure => have := HKT.out; simp [intOf]; omega
              · have HD2 := hid (show decide (2 ≤ sawC l ⟨xs, xv, xc, xt, xk, xy, xx⟩) = true from decide_eq_true (by have := HD.out; omega))
                have h2' : 2 ≤ D := by omega
                cases fd
                · have HT := hid (show pickT l xs f ⟨false, fr, ⟨bs, bv, bc, bt, bx, by_, bz⟩⟩ ⟨xs, xv, xc, xt, xk, xy, xx⟩ = true by unfold pickT; rw [HC2.out, HD2.out, E1.out]; rfl)
                  go_wp2_with fail
                  rw [HW3.out, HMB.out]
                  clear c0 c1 c2 c3 c4 c5 c6 HW3 HMB
                  go_wp2_with (first
                    | (go_at_call 22; (with_reducible refine (alwM_calls (HRW.out.quiet HF.out) HL.out (fun x hx => (HOK.out x hx).quiet HF.out) HM.out C HC.out).mono ?_); rintro e w4 ⟨rfl, f'⟩; have HB_ := hid (HB.out.frm f' (fun h => h)); have HR_ := hid (HR.out.frm f' (fun h => h)); have HM_ := hid (HM.out.frm f' (fun h => h)); have HV_ := hid (HV.out.frm f' (fun h => h)); have HF_ := hid (HF.out.trans f'); clear HB HR HM HV HF f'; have HB := HB_; have HR := HR_; have HM := HM_; have HV := HV_; have HF := HF_; clear HB_ HR_ HM_ HV_ HF_)
                    | (go_at_call 22; (with_reducible refine (sawM_calls (HRW.out.quiet HF.out) HL.out (fun x hx => (HOK.out x hx).quiet HF.out) HM.out D HD.out).mono ?_); rintro e w5 ⟨rfl, f'⟩; have HB_ := hid (HB.out.frm f' (fun h => h)); have HR_ := hid (HR.out.frm f' (fun h => h)); have HM_ := hid (HM.out.frm f' (fun h => h)); have HV_ := hid (HV.out.frm f' (fun h => h)); have HF_ := hid (HF.out.trans f'); clear HB HR HM HV HF f'; have HB := HB_; have HR := HR_; have HM := HM_; have HV := HV_; have HF := HF_; clear HB_ HR_ HM_ HV_ HF_; have b0 := HB.out.cell 0; have z0 := HB.out.free 0; have m0 := HM.out.cell 0; have b1 := HB.out.cell 1; have z1 := HB.out.free 1; have m1 := HM.out.cell 1; have b2 := HB.out.cell 2; have z2 := HB.out.free 2; have m2 := HM.out.cell 2; have b3 := HB.out.cell 3; have z3 := HB.out.free 3; have m3 := HM.out.cell 3; have b4 := HB.out.cell 4; have z4 := HB.out.free 4; have m4 := HM.out.cell 4; have b5 := HB.out.cell 5; have z5 := HB.out.free 5; have m5 := HM.out.cell 5; have b6 := HB.out.cell 6; have z6 := HB.out.free 6; have m6 := HM.out.cell 6; have v0 := HV.out.cell 0; have hbl := HB.out.lt; (simp only [enC, List.getElem?_cons_succ, List.getElem?_cons_zero] at b0 b1 b2 b3 b4 b5 b6 m0 m1 m2 m3 m4 m5 m6 v0)))
                  go_region
                  go_wp2
                  go_roundw
                  case rel => exact ⟨k + 1, true, f, xs, xv, xc, xt, xk, xy, xx, by have := HKT.out; omega, by first | rfl | go_num, rfl, rfl, pick_in HY.out HX.out (if_pos HT.out), (((((((HB.out.setCell 0 (.int .u32 xs)).setCell 1 (.int .u32 xv)).setCell 2 (.int .u8 xc)).setCell 3 (.int .u32 xt)).setCell 4 (.int .u8 xk)).setCell 5 (.int .u8 xy)).setCell 6 (.int .u16 xx)).drew, (((((((HR.out.setOther ⟨bk, 0, none⟩ (.int .u32 xs) HNE.out.1).setOther ⟨bk, 1, none⟩ (.int .u32 xv) HNE.out.1).setOther ⟨bk, 2, none⟩ (.int .u8 xc) HNE.out.1).setOther ⟨bk, 3, none⟩ (.int .u32 xt) HNE.out.1).setOther ⟨bk, 4, none⟩ (.int .u8 xk) HNE.out.1).setOther ⟨bk, 5, none⟩ (.int .u8 xy) HNE.out.1).setOther ⟨bk, 6, none⟩ (.int .u16 xx) HNE.out.1).drew, (((((((HV.out.setOther ⟨bk, 0, none⟩ (.int .u32 xs) HVN.out).setOther ⟨bk, 1, none⟩ (.int .u32 xv) HVN.out).setOther ⟨bk, 2, none⟩ (.int .u8 xc) HVN.out).setOther ⟨bk, 3, none⟩ (.int .u32 xt) HVN.out).setOther ⟨bk, 4, none⟩ (.int .u8 xk) HVN.out).setOther ⟨bk, 5, none⟩ (.int .u8 xy) HVN.out).setOther ⟨bk, 6, none⟩ (.int .u16 xx) HVN.out).drew, (((((((HF.out.setCell ⟨bk, 0, none⟩ (.int .u32 xs) (.inl HNE.out.2.2.1)).setCell ⟨bk, 1, none⟩ (.int .u32 xv) (.inl HNE.out.2.2.1)).setCell ⟨bk, 2, none⟩ (.int .u8 xc) (.inl HNE.out.2.2.1)).setCell ⟨bk, 3, none⟩ (.int .u32 xt) (.inl HNE.out.2.2.1)).setCell ⟨bk, 4, none⟩ (.int .u8 xk) (.inl HNE.out.2.2.1)).setCell ⟨bk, 5, none⟩ (.int .u8 xy) (.inl HNE.out.2.2.1)).setCell ⟨bk, 6, none⟩ (.int .u16 xx) (.inl HNE.out.2.2.1)).drew⟩
                  case measure => have := HKT.out; simp [intOf]; omega
                · by_cases h3 : bv < xv
                  · have HT := hid (show pickT l xs f ⟨true, fr, ⟨bs, bv, bc, bt, bx, by_, bz⟩⟩ ⟨xs, xv, xc, xt, xk, xy, xx⟩ = true by unfold pickT; rw [HC2.out, HD2.out, E1.out]; show (decide (bv < xv) || (decide (xv = bv) && decide (f < fr))) = true; rw [decide_eq_true h3]; rfl)
                    go_wp2_with fail
                    rw [HW3.out, HMB.out]
                    clear c0 c1 c2 c3 c4 c5 c6 HW3 HMB
                    go_wp2_with (first
                      | (go_at_call 22; (with_reducible refine (alwM_calls (HRW.out.quiet HF.out) HL.out (fun x hx => (HOK.out x hx).quiet HF.out) HM.out C HC.out).mono ?_); rintro e w4 ⟨rfl, f'⟩; have HB_ := hid (HB.out.frm f' (fun h => h)); have HR_ := hid (HR.out.frm f' (fun h => h)); have HM_ := hid (HM.out.frm f' (fun h => h)); have HV_ := hid (HV.out.frm f' (fun h => h)); have HF_ := hid (HF.out.trans f'); clear HB HR HM HV HF f'; have HB := HB_; have HR := HR_; have HM := HM_; have HV := HV_; have HF := HF_; clear HB_ HR_ HM_ HV_ HF_)
                      | (go_at_call 22; (with_reducible refine (sawM_calls (HRW.out.quiet HF.out) HL.out (fun x hx => (HOK.out x hx).quiet HF.out) HM.out D HD.out).mono ?_); rintro e w5 ⟨rfl, f'⟩; have HB_ := hid (HB.out.frm f' (fun h => h)); have HR_ := hid (HR.out.frm f' (fun h => h)); have HM_ := hid (HM.out.frm f' (fun h => h)); have HV_ := hid (HV.out.frm f' (fun h => h)); have HF_ := hid (HF.out.trans f'); clear HB HR HM HV HF f'; have HB := HB_; have HR := HR_; have HM := HM_; have HV := HV_; have HF := HF_; clear HB_ HR_ HM_ HV_ HF_; have b0 := HB.out.cell 0; have z0 := HB.out.free 0; have m0 := HM.out.cell 0; have b1 := HB.out.cell 1; have z1 := HB.out.free 1; have m1 := HM.out.cell 1; have b2 := HB.out.cell 2; have z2 := HB.out.free 2; have m2 := HM.out.cell 2; have b3 := HB.out.cell 3; have z3 := HB.out.free 3; have m3 := HM.out.cell 3; have b4 := HB.out.cell 4; have z4 := HB.out.free 4; have m4 := HM.out.cell 4; have b5 := HB.out.cell 5; have z5 := HB.out.free 5; have m5 := HM.out.cell 5; have b6 := HB.out.cell 6; have z6 := HB.out.free 6; have m6 := HM.out.cell 6; have v0 := HV.out.cell 0; have hbl := HB.out.lt; (simp only [enC, List.getElem?_cons_succ, List.getElem?_cons_zero] at b0 b1 b2 b3 b4 b5 b6 m0 m1 m2 m3 m4 m5 m6 v0)))
                    go_region
                    go_wp2
                    go_roundw
                    case rel => exact ⟨k + 1, true, f, xs, xv, xc, xt, xk, xy, xx, by have := HKT.out; omega, by first | rfl | go_num, rfl, rfl, pick_in HY.out HX.out (if_pos HT.out), (((((((HB.out.setCell 0 (.int .u32 xs)).setCell 1 (.int .u32 xv)).setCell 2 (.int .u8 xc)).setCell 3 (.int .u32 xt)).setCell 4 (.int .u8 xk)).setCell 5 (.int .u8 xy)).setCell 6 (.int .u16 xx)).drew, (((((((HR.out.setOther ⟨bk, 0, none⟩ (.int .u32 xs) HNE.out.1).setOther ⟨bk, 1, none⟩ (.int .u32 xv) HNE.out.1).setOther ⟨bk, 2, none⟩ (.int .u8 xc) HNE.out.1).setOther ⟨bk, 3, none⟩ (.int .u32 xt) HNE.out.1).setOther ⟨bk, 4, none⟩ (.int .u8 xk) HNE.out.1).setOther ⟨bk, 5, none⟩ (.int .u8 xy) HNE.out.1).setOther ⟨bk, 6, none⟩ (.int .u16 xx) HNE.out.1).drew, (((((((HV.out.setOther ⟨bk, 0, none⟩ (.int .u32 xs) HVN.out).setOther ⟨bk, 1, none⟩ (.int .u32 xv) HVN.out).setOther ⟨bk, 2, none⟩ (.int .u8 xc) HVN.out).setOther ⟨bk, 3, none⟩ (.int .u32 xt) HVN.out).setOther ⟨bk, 4, none⟩ (.int .u8 xk) HVN.out).setOther ⟨bk, 5, none⟩ (.int .u8 xy) HVN.out).setOther ⟨bk, 6, none⟩ (.int .u16 xx) HVN.out).drew, (((((((HF.out.setCell ⟨bk, 0, none⟩ (.int .u32 xs) (.inl HNE.out.2.2.1)).setCell ⟨bk, 1, none⟩ (.int .u32 xv) (.inl HNE.out.2.2.1)).setCell ⟨bk, 2, none⟩ (.int .u8 xc) (.inl HNE.out.2.2.1)).setCell ⟨bk, 3, none⟩ (.int .u32 xt) (.inl HNE.out.2.2.1)).setCell ⟨bk, 4, none⟩ (.int .u8 xk) (.inl HNE.out.2.2.1)).setCell ⟨bk, 5, none⟩ (.int .u8 xy) (.inl HNE.out.2.2.1)).setCell ⟨bk, 6, none⟩ (.int .u16 xx) (.inl HNE.out.2.2.1)).drew⟩
                    case measure => have := HKT.out; simp [intOf]; omega
                  · by_cases h4 : xv = bv
                    · by_cases h5 : f < fr
                      · have HT := hid (show pickT l xs f ⟨true, fr, ⟨bs, bv, bc, bt, bx, by_, bz⟩⟩ ⟨xs, xv, xc, xt, xk, xy, xx⟩ = true by unfold pickT; rw [HC2.out, HD2.out, E1.out]; show (decide (bv < xv) || (decide (xv = bv) && decide (f < fr))) = true; rw [decide_eq_false h3, decide_eq_true h4, decide_eq_true h5]; rfl)
                        subst h4
                        go_wp2_with fail
                        rw [HW3.out, HMB.out]
                        clear c0 c1 c2 c3 c4 c5 c6 HW3 HMB
                        go_wp2_with (first
                          | (go_at_call 22; (with_reducible refine (alwM_calls (HRW.out.quiet HF.out) HL.out (fun x hx => (HOK.out x hx).quiet HF.out) HM.out C HC.out).mono ?_); rintro e w4 ⟨rfl, f'⟩; have HB_ := hid (HB.out.frm f' (fun h => h)); have HR_ := hid (HR.out.frm f' (fun h => h)); have HM_ := hid (HM.out.frm f' (fun h => h)); have HV_ := hid (HV.out.frm f' (fun h => h)); have HF_ := hid (HF.out.trans f'); clear HB HR HM HV HF f'; have HB := HB_; have HR := HR_; have HM := HM_; have HV := HV_; have HF := HF_; clear HB_ HR_ HM_ HV_ HF_)
                          | (go_at_call 22; (with_reducible refine (sawM_calls (HRW.out.quiet HF.out) HL.out (fun x hx => (HOK.out x hx).quiet HF.out) HM.out D HD.out).mono ?_); rintro e w5 ⟨rfl, f'⟩; have HB_ := hid (HB.out.frm f' (fun h => h)); have HR_ := hid (HR.out.frm f' (fun h => h)); have HM_ := hid (HM.out.frm f' (fun h => h)); have HV_ := hid (HV.out.frm f' (fun h => h)); have HF_ := hid (HF.out.trans f'); clear HB HR HM HV HF f'; have HB := HB_; have HR := HR_; have HM := HM_; have HV := HV_; have HF := HF_; clear HB_ HR_ HM_ HV_ HF_; have b0 := HB.out.cell 0; have z0 := HB.out.free 0; have m0 := HM.out.cell 0; have b1 := HB.out.cell 1; have z1 := HB.out.free 1; have m1 := HM.out.cell 1; have b2 := HB.out.cell 2; have z2 := HB.out.free 2; have m2 := HM.out.cell 2; have b3 := HB.out.cell 3; have z3 := HB.out.free 3; have m3 := HM.out.cell 3; have b4 := HB.out.cell 4; have z4 := HB.out.free 4; have m4 := HM.out.cell 4; have b5 := HB.out.cell 5; have z5 := HB.out.free 5; have m5 := HM.out.cell 5; have b6 := HB.out.cell 6; have z6 := HB.out.free 6; have m6 := HM.out.cell 6; have v0 := HV.out.cell 0; have hbl := HB.out.lt; (simp only [enC, List.getElem?_cons_succ, List.getElem?_cons_zero] at b0 b1 b2 b3 b4 b5 b6 m0 m1 m2 m3 m4 m5 m6 v0)))
                        go_region
                        go_wp2
                        go_roundw
                        case rel => exact ⟨k + 1, true, f, xs, xv, xc, xt, xk, xy, xx, by have := HKT.out; omega, by first | rfl | go_num, rfl, rfl, pick_in HY.out HX.out (if_pos HT.out), (((((((HB.out.setCell 0 (.int .u32 xs)).setCell 1 (.int .u32 xv)).setCell 2 (.int .u8 xc)).setCell 3 (.int .u32 xt)).setCell 4 (.int .u8 xk)).setCell 5 (.int .u8 xy)).setCell 6 (.int .u16 xx)).drew, (((((((HR.out.setOther ⟨bk, 0, none⟩ (.int .u32 xs) HNE.out.1).setOther ⟨bk, 1, none⟩ (.int .u32 xv) HNE.out.1).setOther ⟨bk, 2, none⟩ (.int .u8 xc) HNE.out.1).setOther ⟨bk, 3, none⟩ (.int .u32 xt) HNE.out.1).setOther ⟨bk, 4, none⟩ (.int .u8 xk) HNE.out.1).setOther ⟨bk, 5, none⟩ (.int .u8 xy) HNE.out.1).setOther ⟨bk, 6, none⟩ (.int .u16 xx) HNE.out.1).drew, (((((((HV.out.setOther ⟨bk, 0, none⟩ (.int .u32 xs) HVN.out).setOther ⟨bk, 1, none⟩ (.int .u32 xv) HVN.out).setOther ⟨bk, 2, none⟩ (.int .u8 xc) HVN.out).setOther ⟨bk, 3, none⟩ (.int .u32 xt) HVN.out).setOther ⟨bk, 4, none⟩ (.int .u8 xk) HVN.out).setOther ⟨bk, 5, none⟩ (.int .u8 xy) HVN.out).setOther ⟨bk, 6, none⟩ (.int .u16 xx) HVN.out).drew, (((((((HF.out.setCell ⟨bk, 0, none⟩ (.int .u32 xs) (.inl HNE.out.2.2.1)).setCell ⟨bk, 1, none⟩ (.int .u32 xv) (.inl HNE.out.2.2.1)).setCell ⟨bk, 2, none⟩ (.int .u8 xc) (.inl HNE.out.2.2.1)).setCell ⟨bk, 3, none⟩ (.int .u32 xt) (.inl HNE.out.2.2.1)).setCell ⟨bk, 4, none⟩ (.int .u8 xk) (.inl HNE.out.2.2.1)).setCell ⟨bk, 5, none⟩ (.int .u8 xy) (.inl HNE.out.2.2.1)).setCell ⟨bk, 6, none⟩ (.int .u16 xx) (.inl HNE.out.2.2.1)).drew⟩
                        case measure => have := HKT.out; simp [intOf]; omega
                      · have HT := hid (show pickT l xs f ⟨true, fr, ⟨bs, bv, bc, bt, bx, by_, bz⟩⟩ ⟨xs, xv, xc, xt, xk, xy, xx⟩ = false by unfold pickT; rw [HC2.out, HD2.out, E1.out]; show (decide (bv < xv) || (decide (xv = bv) && decide (f < fr))) = false; rw [decide_eq_false h3, decide_eq_true h4, decide_eq_false h5]; rfl)
                        subst h4
                        go_wp2_with fail
                        rw [HW3.out, HMB.out]
                        clear c0 c1 c2 c3 c4 c5 c6 HW3 HMB
                        go_wp2_with (first
                          | (go_at_call 22; (with_reducible refine (alwM_calls (HRW.out.quiet HF.out) HL.out (fun x hx => (HOK.out x hx).quiet HF.out) HM.out C HC.out).mono ?_); rintro e w4 ⟨rfl, f'⟩; have HB_ := hid (HB.out.frm f' (fun h => h)); have HR_ := hid (HR.out.frm f' (fun h => h)); have HM_ := hid (HM.out.frm f' (fun h => h)); have HV_ := hid (HV.out.frm f' (fun h => h)); have HF_ := hid (HF.out.trans f'); clear HB HR HM HV HF f'; have HB := HB_; have HR := HR_; have HM := HM_; have HV := HV_; have HF := HF_; clear HB_ HR_ HM_ HV_ HF_)
                          | (go_at_call 22; (with_reducible refine (sawM_calls (HRW.out.quiet HF.out) HL.out (fun x hx => (HOK.out x hx).quiet HF.out) HM.out D HD.out).mono ?_); rintro e w5 ⟨rfl, f'⟩; have HB_ := hid (HB.out.frm f' (fun h => h)); have HR_ := hid (HR.out.frm f' (fun h => h)); have HM_ := hid (HM.out.frm f' (fun h => h)); have HV_ := hid (HV.out.frm f' (fun h => h)); have HF_ := hid (HF.out.trans f'); clear HB HR HM HV HF f'; have HB := HB_; have HR := HR_; have HM := HM_; have HV := HV_; have HF := HF_; clear HB_ HR_ HM_ HV_ HF_; have b0 := HB.out.cell 0; have z0 := HB.out.free 0; have m0 := HM.out.cell 0; have b1 := HB.out.cell 1; have z1 := HB.out.free 1; have m1 := HM.out.cell 1; have b2 := HB.out.cell 2; have z2 := HB.out.free 2; have m2 := HM.out.cell 2; have b3 := HB.out.cell 3; have z3 := HB.out.free 3; have m3 := HM.out.cell 3; have b4 := HB.out.cell 4; have z4 := HB.out.free 4; have m4 := HM.out.cell 4; have b5 := HB.out.cell 5; have z5 := HB.out.free 5; have m5 := HM.out.cell 5; have b6 := HB.out.cell 6; have z6 := HB.out.free 6; have m6 := HM.out.cell 6; have v0 := HV.out.cell 0; have hbl := HB.out.lt; (simp only [enC, List.getElem?_cons_succ, List.getElem?_cons_zero] at b0 b1 b2 b3 b4 b5 b6 m0 m1 m2 m3 m4 m5 m6 v0)))
                        go_roundw
                        case rel => exact ⟨k + 1, _, _, _, _, _, _, _, _, _, by have := HKT.out; omega, by first | rfl | go_num, rfl, rfl, pick_in HY.out HX.out (if_neg (by rw [HT.out]; decide)), HB.out, HR.out, HV.out, HF.out⟩
                        case measure => have := HKT.out; simp [intOf]; omega
                    · have HT := hid (show pickT l xs f ⟨true, fr, ⟨bs, bv, bc, bt, bx, by_, bz⟩⟩ ⟨xs, xv, xc, xt, xk, xy, xx⟩ = false by unfold pickT; rw [HC2.out, HD2.out, E1.out]; show (decide (bv < xv) || (decide (xv = bv) && decide (f < fr))) = false; rw [decide_eq_false h3, decide_eq_false h4]; rfl)
                      have e4 : (xv == bv) = false := beq_eq_false_iff_ne.2 h4
                      clear h4
                      go_wp2_with fail
                      rw [HW3.out, HMB.out]
                      clear c0 c1 c2 c3 c4 c5 c6 HW3 HMB
                      go_wp2_with (first
                        | (go_at_call 22; (with_reducible refine (alwM_calls (HRW.out.quiet HF.out) HL.out (fun x hx => (HOK.out x hx).quiet HF.out) HM.out C HC.out).mono ?_); rintro e w4 ⟨rfl, f'⟩; have HB_ := hid (HB.out.frm f' (fun h => h)); have HR_ := hid (HR.out.frm f' (fun h => h)); have HM_ := hid (HM.out.frm f' (fun h => h)); have HV_ := hid (HV.out.frm f' (fun h => h)); have HF_ := hid (HF.out.trans f'); clear HB HR HM HV HF f'; have HB := HB_; have HR := HR_; have HM := HM_; have HV := HV_; have HF := HF_; clear HB_ HR_ HM_ HV_ HF_)
                        | (go_at_call 22; (with_reducible refine (sawM_calls (HRW.out.quiet HF.out) HL.out (fun x hx => (HOK.out x hx).quiet HF.out) HM.out D HD.out).mono ?_); rintro e w5 ⟨rfl, f'⟩; have HB_ := hid (HB.out.frm f' (fun h => h)); have HR_ := hid (HR.out.frm f' (fun h => h)); have HM_ := hid (HM.out.frm f' (fun h => h)); have HV_ := hid (HV.out.frm f' (fun h => h)); have HF_ := hid (HF.out.trans f'); clear HB HR HM HV HF f'; have HB := HB_; have HR := HR_; have HM := HM_; have HV := HV_; have HF := HF_; clear HB_ HR_ HM_ HV_ HF_; have b0 := HB.out.cell 0; have z0 := HB.out.free 0; have m0 := HM.out.cell 0; have b1 := HB.out.cell 1; have z1 := HB.out.free 1; have m1 := HM.out.cell 1; have b2 := HB.out.cell 2; have z2 := HB.out.free 2; have m2 := HM.out.cell 2; have b3 := HB.out.cell 3; have z3 := HB.out.free 3; have m3 := HM.out.cell 3; have b4 := HB.out.cell 4; have z4 := HB.out.free 4; have m4 := HM.out.cell 4; have b5 := HB.out.cell 5; have z5 := HB.out.free 5; have m5 := HM.out.cell 5; have b6 := HB.out.cell 6; have z6 := HB.out.free 6; have m6 := HM.out.cell 6; have v0 := HV.out.cell 0; have hbl := HB.out.lt; (simp only [enC, List.getElem?_cons_succ, List.getElem?_cons_zero] at b0 b1 b2 b3 b4 b5 b6 m0 m1 m2 m3 m4 m5 m6 v0)))
                      go_roundw
                      case rel => exact ⟨k + 1, _, _, _, _, _, _, _, _, _, by have := HKT.out; omega, by first | rfl | go_num, rfl, rfl, pick_in HY.out HX.out (if_neg (by rw [HT.out]; decide)), HB.out, HR.out, HV.out, HF.out⟩
                      case measure => have := HKT.out; simp [intOf]; omega
          · have e1 : (xs == sq) = false := beq_eq_false_iff_ne.2 p1
            have e2 : (xs != sq) = true := by rw [bne, e1]; rfl
            have HT := hid (show pickT l sq f ⟨fd, fr, ⟨bs, bv, bc, bt, bx, by_, bz⟩⟩ ⟨xs, xv, xc, xt, xk, xy, xx⟩ = false by unfold pickT; rw [e1]; rfl)
            clear p1
            cases fd
            · go_wp2
              rw [HW3.out]
              go_roundw
              case rel => exact ⟨k + 1, _, _, _, _, _, _, _, _, _, by have := HKT.out; omega, by first | rfl | go_num, rfl, rfl, pick_in HY.out HX.out (if_neg (by rw [HT.out]; decide)), HB.out, HR.out, HV.out, HF.out⟩
              case measure => have := HKT.out; simp [intOf]; omega
            · go_wp2
              rw [HW3.out]
              go_roundw
              case rel => exact ⟨k + 1, _, _, _, _, _, _, _, _, _, by have := HKT.out; omega, by first | rfl | go_num, rfl, rfl, pick_in HY.out HX.out (if_neg (by rw [HT.out]; decide)), HB.out, HR.out, HV.out, HF.out⟩
              case measure => have := HKT.out; simp [intOf]; omega
        · have hke : k = n := by omega
          subst hke
          have HYE := hid (show (⟨fd, fr, ⟨bs, bv, bc, bt, bx, by_, bz⟩⟩ : PA) = Y by have := HY.out; rw [List.drop_eq_nil_of_le (Nat.le_of_eq HN.out)] at this; exact this)
          clear hlt hk
          go_wp2
          go_roundw
          case rel => exact ⟨j + 1, fd, fr, bs, bv, bc, bt, bx, by_, bz, by have := HLT.out; omega, by first | rfl | go_num, rfl, rfl, by rw [HYE.out]; exact HZ.out, HBx.out, HRx.out, HFx.out⟩
          case measure => have := HLT.out; simp [intOf]; omega
    · have hje : j = L := by omega
      subst hje
      have HE := hid (show (⟨fd, fr, ⟨bs, bv, bc, bt, bx, by_, bz⟩⟩ : PA) = ⟨zf, zr, ze⟩ by have := HZ.out; rw [List.drop_eq_nil_of_le (Nat.le_of_eq HL.out)] at this; exact this)
      have hE1 : fd = zf := congrArg PA.fd HE.out
      have hE3 : (⟨bs, bv, bc, bt, bx, by_, bz⟩ : En) = ze := congrArg PA.e HE.out
      subst hE1 hE3
      have b0 := HB.out.cell 0; have b1 := HB.out.cell 1; have b2 := HB.out.cell 2; have b3 := HB.out.cell 3; have b4 := HB.out.cell 4; have b5 := HB.out.cell 5; have b6 := HB.out.cell 6
      have r0 := HR.out.cell 0; have r1 := HR.out.cell 1; have r2 := HR.out.cell 2; have r3 := HR.out.cell 3; have r4 := HR.out.cell 4
      simp only [enC, reC, List.getElem?_cons_succ, List.getElem?_cons_zero] at b0 b1 b2 b3 b4 b5 b6 r0 r1 r2 r3 r4
      have z0 := HR.out.free 0; have z1 := HR.out.free 1; have z2 := HR.out.free 2; have z3 := HR.out.free 3; have z4 := HR.out.free 4
      have hne := HNE.out.1; have hne2 := HNE.out.2.1
      clear hlt hj HE HZ
      go_wp2
      (try simp only [Exit.inBlock, Exit.then])
      refine bodyPost_ret (results_cell2 rfl _ _ rk TRe [.int .u8 bc, .int .u32 bt, .int .u8 bx, .int .u8 by_, .int .u16 bz] _ (.bool fd) rfl rfl (((((HR.out.setCell 0 (.int .u8 bc)).setCell 1 (.int .u32 bt)).setCell 2 (.int .u8 bx)).setCell 3 (.int .u8 by_)).setCell 4 (.int .u16 bz)) Tryd.underlying39 (by kernel_rfl)) rfl ⟨rfl, ((((HFw.out.setCell _ _ (.inl HNE.out.2.2.2)).setCell _ _ (.inl HNE.out.2.2.2)).setCell _ _ (.inl HNE.out.2.2.2)).setCell _ _ (.inl HNE.out.2.2.2)).setCell _ _ (.inl HNE.out.2.2.2)⟩
end Go.Proofs.YtipalebaaejfjaaDoor
