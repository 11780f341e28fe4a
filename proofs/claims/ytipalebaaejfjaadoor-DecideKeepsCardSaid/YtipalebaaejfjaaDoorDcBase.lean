/- What a new view begins at. -/
import Derived.Test.YtipalebaaejfjaaDoorDcMany
namespace Go.Proofs.YtipalebaaejfjaaDoor
open Go.RowKit Go.ChangeShapes
set_option linter.unusedVariables false
set_option linter.unusedSimpArgs false
set_option maxRecDepth 100000
theorem Con_calls {w : World} {a : Option Addr} {cap : Nat} {l : List Mk} (h : IsRow 2 mkC w a cap l) (s r : Int) (z : Bool) (hz : hasB s r l = z) :
    Calls Tryd.prog 24 #[.slice a l.length cap, .agg #[.int .u32 s, .int .u64 r]] w fun e w' => e = .returned (.bool z) ∧ Frm (fun _ => False) w w' := by
  have HR := hid h; have HZ := hid hz
  clear h hz
  go_enter Tryd.func24, Tryd.ntmps24
  go_wp2_with (go_at_call 37; (with_reducible refine (IdxM_calls (HR.out.quiet (dbox _ _)) s r).mono ?_); rintro e w5 ⟨⟨y, rfl, hy⟩, f'⟩; have HY := hid hy; have HF := hid f'; clear hy f')
  go_ret
  exact ⟨ret_bool (HY.out.trans HZ.out), (dbox _ _).trans HF.out⟩
theorem B1_calls {w : World} {x : Vm} (hok : VmOk w x) {mb : Nat} {s r : Int} (hb : Blk w mb [.int .u32 s, .int .u64 r] DMk) :
    Calls Tryd.prog 23 #[.agg #[.int .u8 x.f, .int .u8 x.e, .int .u32 x.v, .int .u32 x.l, .slice x.ma x.ms.length x.mc, .slice x.pa x.p.length x.pc, .slice x.qa x.q.length x.qc], .pointer (some ⟨mb, 0, none⟩)] w fun e w' => e = .returned (.bool (hasB s r x.ms)) ∧ Frm (fun _ => False) w w' := by
  have HR := hid hok.ms
  have b0 := hb.cell 0; have b1 := hb.cell 1; have hbl := hb.lt
  simp only [List.getElem?_cons_succ, List.getElem?_cons_zero] at b0 b1
  clear hok hb
  go_enter Tryd.func23, Tryd.ntmps23
  go_wp2_with (go_at_call 24; (with_reducible refine (Con_calls (HR.out.quiet (dbox _ _)) s r _ rfl).mono ?_); rintro e w5 ⟨rfl, f'⟩; have HF := hid f'; clear f')
  go_ret
  exact ⟨rfl, (dbox _ _).trans HF.out⟩
theorem B2_calls {w : World} {x : Vm} {mb : Nat} {s r : Int} (hb : Blk w mb [.int .u32 s, .int .u64 r] DMk) :
    Calls Tryd.prog 25 #[.agg #[.int .u8 x.f, .int .u8 x.e, .int .u32 x.v, .int .u32 x.l, .slice x.ma x.ms.length x.mc, .slice x.pa x.p.length x.pc, .slice x.qa x.q.length x.qc], .pointer (some ⟨mb, 0, none⟩)] w fun e w' => e = .returned (.bool (decide (x.l ≤ s))) ∧ Frm (fun _ => False) w w' := by
  have b0 := hb.cell 0; have b1 := hb.cell 1; have hbl := hb.lt
  simp only [List.getElem?_cons_succ, List.getElem?_cons_zero] at b0 b1
  clear hb
  by_cases hl : x.l ≤ s
  · have HL := hid hl
    go_enter Tryd.func25, Tryd.ntmps25
    go_wp2
    go_ret
    exact ⟨ret_bool (decide_eq_true HL.out).symm, dbox _ _⟩
  · have HL := hid hl
    go_enter Tryd.func25, Tryd.ntmps25
    go_wp2
    go_ret
    exact ⟨ret_bool (decide_eq_false (by have := HL.out; omega)).symm, dbox _ _⟩
theorem enter_b1 (vs : Array Value) (w : World) : Sem.run Tryd.prog (callFunc 23 vs) w = .ok (.enter 23 vs) w := by kernel_rfl
theorem enter_b2 (vs : Array Value) (w : World) : Sem.run Tryd.prog (callFunc 25 vs) w = .ok (.enter 25 vs) w := by kernel_rfl
/-- How many have the mark; how many begin no later than it. -/
def hasC (l : List Vm) (s r : Int) : Nat := cnt (fun x => hasB s r x.ms) l
def lowC (l : List Vm) (s : Int) : Nat := cnt (fun x => decide (x.l ≤ s)) l
theorem hasM_calls {w : World} {a : Option Addr} {cap L : Nat} {l : List Vm} (h : IsRow 7 vmC w a cap l) (hL : l.length = L) (hok : ∀ x ∈ l, VmOk w x) {mb : Nat} {s r : Int} (hb : Blk w mb [.int .u32 s, .int .u64 r] DMk) (k : Int) (hk : (hasC l s r : Int) = k) :
    Calls Tryd.prog 22 #[.slice a L cap, .func (.func 23) #[] #[.pointer (some ⟨mb, 0, none⟩)]] w fun e w' => e = .returned (.int .i64 k) ∧ Frm (fun _ => False) w w' := by
  subst hL
  exact many_calls h _ enter_b1 _ (fun x => hasB s r x.ms) (fun w' x f hx => B1_calls ((hok x hx).quiet f) (hb.frm f (fun h => h))) k hk
theorem lowM_calls {w : World} {a : Option Addr} {cap L : Nat} {l : List Vm} (h : IsRow 7 vmC w a cap l) (hL : l.length = L) {mb : Nat} {s r : Int} (hb : Blk w mb [.int .u32 s, .int .u64 r] DMk) (k : Int) (hk : (lowC l s : Int) = k) :
    Calls Tryd.prog 22 #[.slice a L cap, .func (.func 25) #[] #[.pointer (some ⟨mb, 0, none⟩)]] w fun e w' => e = .returned (.int .i64 k) ∧ Frm (fun _ => False) w w' := by
  subst hL
  exact many_calls h _ enter_b2 _ (fun x => decide (x.l ≤ s)) (fun w' x f hx => B2_calls (hb.frm f (fun h => h))) k hk
/-- What is told so far. -/
structure BA where
  fd : Bool
  s : Int
  r : Int
def takeB (l : List Vm) (A : BA) (m : Mk) : Bool := decide (2 ≤ hasC l m.1 m.2) && (decide (3 ≤ lowC l m.1) && (!A.fd || (decide (A.s < m.1) || (decide (m.1 = A.s) && decide (m.2 < A.r)))))
def baseM (l : List Vm) (A : BA) (m : Mk) : BA := if takeB l A m = true then ⟨true, m.1, m.2⟩ else A
def baseV (l : List Vm) (A : BA) (x : Vm) : BA := x.ms.foldl (baseM l) A
def baseR (l : List Vm) : BA := l.foldl (baseV l) ⟨false, 0, 0⟩
theorem base_in {l : List Vm} {A Y : BA} {ms : List Mk} {k : Nat} {m : Mk} (h : (ms.drop k).foldl (baseM l) A = Y) (hm : ms[k]? = some m) {B : BA} (hb : baseM l A m = B) : (ms.drop (k + 1)).foldl (baseM l) B = Y := by
  obtain ⟨hk, e⟩ := List.getElem?_eq_some_iff.1 hm
  rw [List.drop_eq_getElem_cons hk, List.foldl_cons, e, hb] at h
  exact h
theorem base_out {l : List Vm} {A Z : BA} {j : Nat} {x : Vm} (h : (l.drop j).foldl (baseV l) A = Z) (hx : l[j]? = some x) : (l.drop (j + 1)).foldl (baseV l) (x.ms.foldl (baseM l) A) = Z := by
  obtain ⟨hk, e⟩ := List.getElem?_eq_some_iff.1 hx
  rw [List.drop_eq_getElem_cons hk, List.foldl_cons, e] at h
  exact h
theorem results_cell2 {fn : Func} {p q : Tmp} {ty : TypeId} (h : fn.results = #[.cell p ty, .tmp q]) (tmps : Array Value) (w : World) (g T : Nat) (cs : List Value) (fs : Array Field) (v : Value) (hp : tmps.getD p undef = .pointer (some ⟨g, 0, none⟩)) (hq : tmps.getD q undef = v) (hb : Blk w g cs T)
    (hu : Tryd.prog.underlying ty = some (.struct fs)) (hi : (Tryd.prog.info? ty).map (·.size) = some cs.length) : (results fn tmps).run Tryd.prog w = .ok (.tuple #[.agg cs.toArray, v]) w := by
  have hp' : tmps[p]?.getD undef = .pointer (some ⟨g, 0, none⟩) := by simpa using hp
  have hq' : tmps[q]?.getD undef = v := by simpa using hq
  simp [results, h, hp', hq', asAddr, run_loadVar_row w g T ty cs.toArray (0, 0) (.struct fs) hb hu rfl (by simpa using hi)]
set_option maxHeartbeats 32000000 in
theorem Base_calls {w : World} {a : Option Addr} {cap L : Nat} {l : List Vm} (h : IsRow 7 vmC w a cap l) (hL : l.length = L) (hok : ∀ x ∈ l, VmOk w x) {zf : Bool} {zs zr : Int} (hZ : baseR l = ⟨zf, zs, zr⟩) :
    Calls Tryd.prog 11 #[.slice a L cap] w fun e w' => e = .returned (.tuple #[.agg #[.int .u32 zs, .int .u64 zr], .bool zf]) ∧ Frm (fun _ => False) w w' := by
  have HL := hid hL; have HZ := hid hZ; have HRW := hid h; have HOK := hid hok
  have hlc : L ≤ cap := hL ▸ h.le
  have hcs := h.small
  obtain ⟨rk, hrk⟩ : ∃ rk, w.heap.size = rk := ⟨_, rfl⟩
  obtain ⟨bk, hbk⟩ : ∃ bk, w.heap.size + 1 = bk := ⟨_, rfl⟩
  obtain ⟨w1, hw1⟩ : ∃ w1, (w.alloc (.cells #[.int .u32 0, .int .u64 0] DMk)).alloc (.cells #[.int .u32 0, .int .u64 0] DMk) = w1 := ⟨_, rfl⟩
  have HF1 := hid (show Frm (fun _ => False) w w1 by rw [← hw1]; exact (dbox _ _).trans (dbox _ _))
  have HR1 := hid (show Blk w1 rk (mkC (0, 0)) DMk by rw [← hw1, ← hrk]; exact (Blk.new w (mkC (0, 0)) DMk).frm (dbox _ _) (fun h => h))
  have HB1 := hid (show Blk w1 bk (mkC (0, 0)) DMk by
    rw [← hw1, ← hbk]
    have := Blk.new (w.alloc (.cells #[.int .u32 0, .int .u64 0] DMk)) (mkC (0, 0)) DMk
    rw [World.size_alloc] at this
    exact this)
  have HNE := hid (show ¬ bk = rk ∧ ¬ rk = bk ∧ w.heap.size ≤ bk ∧ w.heap.size ≤ rk by omega)
  have HW1 := hid hw1; have HRK := hid hrk; have HBK := hid hbk
  clear h hZ hok hL hw1 hrk hbk
  go_enter Tryd.func11, Tryd.ntmps11
  go_wp2
  rw [HW1.out, HBK.out, HRK.out]
  clear HW1
  go_loopw [5, 14] (fun fv jv wr => ∃ (j : Nat) (fd : Bool) (bs br : Int), j ≤ L ∧ jv = .int .i64 j ∧ fv = .bool fd ∧ (l.drop j).foldl (baseV l) ⟨fd, bs, br⟩ = ⟨zf, zs, zr⟩ ∧ Blk wr bk (mkC (bs, br)) DMk ∧ Blk wr rk (mkC (0, 0)) DMk ∧ Frm (fun _ => False) w wr) (fun _ jv _ => L - (intOf jv).toNat)
  case atStart => exact ⟨0, false, 0, 0, by omega, rfl, rfl, HZ.out, HB1.out, HR1.out, HF1.out⟩
  case round =>
    clear HF1 HR1 HB1 HZ
    obtain ⟨j, fd, bs, br, hj, rfl, rfl, hz, hb, hr, hf⟩ := hrel
    have HFw := hid hf; have HB := hid hb; have HR := hid hr; have HZ := hid hz
    clear hf hb hr hz
    by_cases hlt : j < L
    · obtain ⟨g, o, rfl, hg, hc⟩ := (HRW.out.quiet HFw.out).at_ (by rw [HL.out]; omega)
      obtain ⟨⟨f, ep, v, lo, ma, mc, ms, pa, pcc, p, qa, qc, q⟩, hx⟩ : ∃ x, l[j]? = some x := ⟨_, List.getElem?_eq_getElem (by rw [HL.out]; exact hlt)⟩
      have HXM := hid (List.mem_of_getElem? hx)
      have HMS := hid (HOK.out _ HXM.out).ms
      have HZ2 := hid (base_out HZ.out hx)
      have c0 := hc j _ hx 0 (by decide); have c1 := hc j _ hx 1 (by decide); have c2 := hc j _ hx 2 (by decide); have c3 := hc j _ hx 3 (by decide); have c4 := hc j _ hx 4 (by decide); have c5 := hc j _ hx 5 (by decide); have c6 := hc j _ hx 6 (by decide)
      simp only [vmC, List.getElem?_cons_succ, List.getElem?_cons_zero, Nat.add_zero] at c0 c1 c2 c3 c4 c5 c6
      have HLT := hid hlt
      have hjl : (j : Int) < (L : Int) := by omega
      have hj0 : (0 : Int) ≤ (j : Int) := by omega
      clear hx hlt hj hc HZ HXM
      obtain ⟨Y, hY⟩ : ∃ Y, ms.foldl (baseM l) ⟨fd, bs, br⟩ = Y := ⟨_, rfl⟩
      have HY := hid hY
      have HZ := hid (show (l.drop (j + 1)).foldl (baseV l) Y = ⟨zf, zs, zr⟩ by rw [← hY]; exact HZ2.out)
      obtain ⟨n, hn⟩ : ∃ n, ms.length = n := ⟨_, rfl⟩
      have HN := hid hn
      have hnc : n ≤ mc := hn ▸ HMS.out.le
      have hmcs := HMS.out.small
      rw [hn] at c4
      clear hY HZ2 hn
      go_wp2
      obtain ⟨w2, hw2⟩ : ∃ w2, wr.alloc (.cells #[.int .u8 f, .int .u8 ep, .int .u32 v, .int .u32 lo, .slice ma n mc, .slice pa p.length pcc, .slice qa q.length qc] TVo) = w2 := ⟨_, rfl⟩
      have HF2 := hid (show Frm (fun _ => False) w w2 by rw [← hw2]; exact HFw.out.trans (dbox _ _))
      have HB2 := hid (show Blk w2 bk (mkC (bs, br)) DMk by rw [← hw2]; exact HB.out.alloc _)
      have HR2 := hid (show Blk w2 rk (mkC (0, 0)) DMk by rw [← hw2]; exact HR.out.alloc _)
      rw [hw2]
      generalize wr.heap.size = vb
      clear hw2 HFw HB HR c0 c1 c2 c3 c4 c5 c6 hg
      generalize (w2 : World) = w2 at *
      go_loopw [5, 21] (fun fv kv wx => ∃ (k : Nat) (fd : Bool) (bs br : Int), k ≤ n ∧ kv = .int .i64 k ∧ fv = .bool fd ∧ (ms.drop k).foldl (baseM l) ⟨fd, bs, br⟩ = Y ∧ Blk wx bk (mkC (bs, br)) DMk ∧ Blk wx rk (mkC (0, 0)) DMk ∧ Frm (fun _ => False) w wx) (fun _ kv _ => n - (intOf kv).toNat)
      case atStart => exact ⟨0, fd, bs, br, by omega, rfl, rfl, HY.out, HB2.out, HR2.out, HF2.out⟩
      case round =>
        clear HF2 HB2 HR2 HY
        generalize wr = wx at *
        obtain ⟨k, fd, bs, br, hk, rfl, rfl, hy, hb, hr, hf⟩ := hrel
        have HFx := hid hf; have HBx := hid hb; have HRx := hid hr; have HY := hid hy
        clear hf hb hr hy
        by_cases hlt : k < n
        · obtain ⟨g2, o2, rfl, hg2, hc⟩ := (HMS.out.quiet HFx.out).at_ (by rw [HN.out]; omega)
          obtain ⟨⟨xs, xr⟩, hx⟩ : ∃ m, ms[k]? = some m := ⟨_, List.getElem?_eq_getElem (by rw [HN.out]; exact hlt)⟩
          have c0 := hc k _ hx 0 (by decide); have c1 := hc k _ hx 1 (by decide)
          simp only [mkC, List.getElem?_cons_succ, List.getElem?_cons_zero, Nat.add_zero] at c0 c1
          have HX := hid hx; have HKT := hid hlt
          have hkl : (k : Int) < (n : Int) := by omega
          have hk0 : (0 : Int) ≤ (k : Int) := by omega
          clear hx hlt hk hc
          go_wp2_with fail
          obtain ⟨mb, hmb⟩ : ∃ mb, wx.heap.size = mb := ⟨_, rfl⟩
          obtain ⟨w3, hw3⟩ : ∃ w3, wx.alloc (.cells #[.int .u32 xs, .int .u64 xr] DMk) = w3 := ⟨_, rfl⟩
          have HF := hid (show Frm (fun _ => False) w w3 by rw [← hw3]; exact HFx.out.trans (dbox _ _))
          have HB := hid (show Blk w3 bk (mkC (bs, br)) DMk by rw [← hw3]; exact HBx.out.alloc _)
          have HR := hid (show Blk w3 rk (mkC (0, 0)) DMk by rw [← hw3]; exact HRx.out.alloc _)
          have HM := hid (show Blk w3 mb (mkC (xs, xr)) DMk by rw [← hw3, ← hmb]; exact Blk.new wx (mkC (xs, xr)) DMk)
          have hnm : ¬ bk = mb := by have := HBx.out.lt; omega
          have hnm2 : ¬ mb = bk := fun e => hnm e.symm
          rw [hw3, hmb]
          clear hw3 hmb HFx HBx HRx c0 c1 hg2
          obtain ⟨C, hC⟩ : ∃ C : Int, (hasC l xs xr : Int) = C := ⟨_, rfl⟩
          obtain ⟨D, hD⟩ : ∃ D : Int, (lowC l xs : Int) = D := ⟨_, rfl⟩
          have HC := hid hC; have HD := hid hD
          clear hC hD
          by_cases h1 : C < 2
          · have HT := hid (show takeB l ⟨fd, bs, br⟩ (xs, xr) = false by unfold takeB; rw [decide_eq_false (show ¬ 2 ≤ hasC l xs xr by have := HC.out; omega)]; rfl)
            cases fd
            · go_wp2_with (first
                | (go_at_call 22; (with_reducible refine (hasM_calls (HRW.out.quiet HF.out) HL.out (fun x hx => (HOK.out x hx).quiet HF.out) HM.out C HC.out).mono ?_); rintro e w4 ⟨rfl, f'⟩; have HB_ := hid (HB.out.frm f' (fun h => h)); have HR_ := hid (HR.out.frm f' (fun h => h)); have HM_ := hid (HM.out.frm f' (fun h => h)); have HF_ := hid (HF.out.trans f'); clear HB HR HM HF f'; have HB := HB_; have HR := HR_; have HM := HM_; have HF := HF_; clear HB_ HR_ HM_ HF_)
                | (go_at_call 22; (with_reducible refine (lowM_calls (HRW.out.quiet HF.out) HL.out HM.out D HD.out).mono ?_); rintro e w5 ⟨rfl, f'⟩; have HB_ := hid (HB.out.frm f' (fun h => h)); have HR_ := hid (HR.out.frm f' (fun h => h)); have HM_ := hid (HM.out.frm f' (fun h => h)); have HF_ := hid (HF.out.trans f'); clear HB HR HM HF f'; have HB := HB_; have HR := HR_; have HM := HM_; have HF := HF_; clear HB_ HR_ HM_ HF_; have b0 := HB.out.cell 0; have b1 := HB.out.cell 1; have z0 := HB.out.free 0; have z1 := HB.out.free 1; have hbl := HB.out.lt; have m0 := HM.out.cell 0; have m1 := HM.out.cell 1; (simp only [mkC, List.getElem?_cons_succ, List.getElem?_cons_zero] at b0 b1 m0 m1)))
              go_roundw
              case rel => exact ⟨k + 1, _, _, _, by have := HKT.out; omega, by first | rfl | go_num, rfl, base_in HY.out HX.out (if_neg (by rw [HT.out]; decide)), HB.out, HR.out, HF.out⟩
              case measure => have := HKT.out; simp [intOf]; omega
            · go_wp2_with (first
                | (go_at_call 22; (with_reducible refine (hasM_calls (HRW.out.quiet HF.out) HL.out (fun x hx => (HOK.out x hx).quiet HF.out) HM.out C HC.out).mono ?_); rintro e w4 ⟨rfl, f'⟩; have HB_ := hid (HB.out.frm f' (fun h => h)); have HR_ := hid (HR.out.frm f' (fun h => h)); have HM_ := hid (HM.out.frm f' (fun h => h)); have HF_ := hid (HF.out.trans f'); clear HB HR HM HF f'; have HB := HB_; have HR := HR_; have HM := HM_; have HF := HF_; clear HB_ HR_ HM_ HF_)
                | (go_at_call 22; (with_reducible refine (lowM_calls (HRW.out.quiet HF.out) HL.out HM.out D HD.out).mono ?_); rintro e w5 ⟨rfl, f'⟩; have HB_ := hid (HB.out.frm f' (fun h => h)); have HR_ := hid (HR.out.frm f' (fun h => h)); have HM_ := hid (HM.out.frm f' (fun h => h)); have HF_ := hid (HF.out.trans f'); clear HB HR HM HF f'; have HB := HB_; have HR := HR_; have HM := HM_; have HF := HF_; clear HB_ HR_ HM_ HF_; have b0 := HB.out.cell 0; have b1 := HB.out.cell 1; have z0 := HB.out.free 0; have z1 := HB.out.free 1; have hbl := HB.out.lt; have m0 := HM.out.cell 0; have m1 := HM.out.cell 1; (simp only [mkC, List.getElem?_cons_succ, List.getElem?_cons_zero] at b0 b1 m0 m1)))
              go_roundw
              case rel => exact ⟨k + 1, _, _, _, by have := HKT.out; omega, by first | rfl | go_num, rfl, base_in HY.out HX.out (if_neg (by rw [HT.out]; decide)), HB.out, HR.out, HF.out⟩
              case measure => have := HKT.out; simp [intOf]; omega
          · have HC2 := hid (show decide (2 ≤ hasC l xs xr) = true from decide_eq_true (by have := HC.out; omega))
            have h1' : 2 ≤ C := by omega
            by_cases h2 : D < 3
            · have HT := hid (show takeB l ⟨fd, bs, br⟩ (xs, xr) = false by unfold takeB; rw [HC2.out, decide_eq_false (show ¬ 3 ≤ lowC l xs by have := HD.out; omega)]; rfl)
              cases fd
              · go_wp2_with (first
                  | (go_at_call 22; (with_reducible refine (hasM_calls (HRW.out.quiet HF.out) HL.out (fun x hx => (HOK.out x hx).quiet HF.out) HM.out C HC.out).mono ?_); rintro e w4 ⟨rfl, f'⟩; have HB_ := hid (HB.out.frm f' (fun h => h)); have HR_ := hid (HR.out.frm f' (fun h => h)); have HM_ := hid (HM.out.frm f' (fun h => h)); have HF_ := hid (HF.out.trans f'); clear HB HR HM HF f'; have HB := HB_; have HR := HR_; have HM := HM_; have HF := HF_; clear HB_ HR_ HM_ HF_)
                  | (go_at_call 22; (with_reducible refine (lowM_calls (HRW.out.quiet HF.out) HL.out HM.out D HD.out).mono ?_); rintro e w5 ⟨rfl, f'⟩; have HB_ := hid (HB.out.frm f' (fun h => h)); have HR_ := hid (HR.out.frm f' (fun h => h)); have HM_ := hid (HM.out.frm f' (fun h => h)); have HF_ := hid (HF.out.trans f'); clear HB HR HM HF f'; have HB := HB_; have HR := HR_; have HM := HM_; have HF := HF_; clear HB_ HR_ HM_ HF_; have b0 := HB.out.cell 0; have b1 := HB.out.cell 1; have z0 := HB.out.free 0; have z1 := HB.out.free 1; have hbl := HB.out.lt; have m0 := HM.out.cell 0; have m1 := HM.out.cell 1; (simp only [mkC, List.getElem?_cons_succ, List.getElem?_cons_zero] at b0 b1 m0 m1)))
                go_roundw
                case rel => exact ⟨k + 1, _, _, _, by have := HKT.out; omega, by first | rfl | go_num, rfl, base_in HY.out HX.out (if_neg (by rw [HT.out]; decide)), HB.out, HR.out, HF.out⟩
                case measure => have := HKT.out; simp [intOf]; omega
              · go_wp2_with (first
                  | (go_at_call 22; (with_reducible refine (hasM_calls (HRW.out.quiet HF.out) HL.out (fun x hx => (HOK.out x hx).quiet HF.out) HM.out C HC.out).mono ?_); rintro e w4 ⟨rfl, f'⟩; have HB_ := hid (HB.out.frm f' (fun h => h)); have HR_ := hid (HR.out.frm f' (fun h => h)); have HM_ := hid (HM.out.frm f' (fun h => h)); have HF_ := hid (HF.out.trans f'); clear HB HR HM HF f'; have HB := HB_; have HR := HR_; have HM := HM_; have HF := HF_; clear HB_ HR_ HM_ HF_)
                  | (go_at_call 22; (with_reducible refine (lowM_calls (HRW.out.quiet HF.out) HL.out HM.out D HD.out).mono ?_); rintro e w5 ⟨rfl, f'⟩; have HB_ := hid (HB.out.frm f' (fun h => h)); have HR_ := hid (HR.out.frm f' (fun h => h)); have HM_ := hid (HM.out.frm f' (fun h => h)); have HF_ := hid (HF.out.trans f'); clear HB HR HM HF f'; have HB := HB_; have HR := HR_; have HM := HM_; have HF := HF_; clear HB_ HR_ HM_ HF_; have b0 := HB.out.cell 0; have b1 := HB.out.cell 1; have z0 := HB.out.free 0; have z1 := HB.out.free 1; have hbl := HB.out.lt; have m0 := HM.out.cell 0; have m1 := HM.out.cell 1; (simp only [mkC, List.getElem?_cons_succ, List.getElem?_cons_zero] at b0 b1 m0 m1)))
                go_roundw
                case rel => exact ⟨k + 1, _, _, _, by have := HKT.out; omega, by first | rfl | go_num, rfl, base_in HY.out HX.out (if_neg (by rw [HT.out]; decide)), HB.out, HR.out, HF.out⟩
                case measure => have := HKT.out; simp [intOf]; omega
            · have HD2 := hid (show decide (3 ≤ lowC l xs) = true from decide_eq_true (by have := HD.out; omega))
              cases fd
              · have HT := hid (show takeB l ⟨false, bs, br⟩ (xs, xr) = true by unfold takeB; rw [HC2.out, HD2.out]; rfl)
                go_wp2_with (first
                  | (go_at_call 22; (with_reducible refine (hasM_calls (HRW.out.quiet HF.out) HL.out (fun x hx => (HOK.out x hx).quiet HF.out) HM.out C HC.out).mono ?_); rintro e w4 ⟨rfl, f'⟩; have HB_ := hid (HB.out.frm f' (fun h => h)); have HR_ := hid (HR.out.frm f' (fun h => h)); have HM_ := hid (HM.out.frm f' (fun h => h)); have HF_ := hid (HF.out.trans f'); clear HB HR HM HF f'; have HB := HB_; have HR := HR_; have HM := HM_; have HF := HF_; clear HB_ HR_ HM_ HF_)
                  | (go_at_call 22; (with_reducible refine (lowM_calls (HRW.out.quiet HF.out) HL.out HM.out D HD.out).mono ?_); rintro e w5 ⟨rfl, f'⟩; have HB_ := hid (HB.out.frm f' (fun h => h)); have HR_ := hid (HR.out.frm f' (fun h => h)); have HM_ := hid (HM.out.frm f' (fun h => h)); have HF_ := hid (HF.out.trans f'); clear HB HR HM HF f'; have HB := HB_; have HR := HR_; have HM := HM_; have HF := HF_; clear HB_ HR_ HM_ HF_; have b0 := HB.out.cell 0; have b1 := HB.out.cell 1; have z0 := HB.out.free 0; have z1 := HB.out.free 1; have hbl := HB.out.lt; have m0 := HM.out.cell 0; have m1 := HM.out.cell 1; (simp only [mkC, List.getElem?_cons_succ, List.getElem?_cons_zero] at b0 b1 m0 m1)))
                go_roundw
                case rel => exact ⟨k + 1, true, xs, xr, by have := HKT.out; omega, by first | rfl | go_num, rfl, base_in HY.out HX.out (if_pos HT.out), (HB.out.setCell 0 (.int .u32 xs)).setCell 1 (.int .u64 xr), (HR.out.setOther ⟨bk, 0, none⟩ (.int .u32 xs) HNE.out.1).setOther ⟨bk, 1, none⟩ (.int .u64 xr) HNE.out.1, (HF.out.setCell _ _ (.inl HNE.out.2.2.1)).setCell _ _ (.inl HNE.out.2.2.1)⟩
                case measure => have := HKT.out; simp [intOf]; omega
              · by_cases h3 : bs < xs
                · have HT := hid (show takeB l ⟨true, bs, br⟩ (xs, xr) = true by unfold takeB; rw [HC2.out, HD2.out]; show (decide (bs < xs) || (decide (xs = bs) && decide (xr < br))) = true; rw [decide_eq_true h3]; rfl)
                  go_wp2_with (first
                    | (go_at_call 22; (with_reducible refine (hasM_calls (HRW.out.quiet HF.out) HL.out (fun x hx => (HOK.out x hx).quiet HF.out) HM.out C HC.out).mono ?_); rintro e w4 ⟨rfl, f'⟩; have HB_ := hid (HB.out.frm f' (fun h => h)); have HR_ := hid (HR.out.frm f' (fun h => h)); have HM_ := hid (HM.out.frm f' (fun h => h)); have HF_ := hid (HF.out.trans f'); clear HB HR HM HF f'; have HB := HB_; have HR := HR_; have HM := HM_; have HF := HF_; clear HB_ HR_ HM_ HF_)
                    | (go_at_call 22; (with_reducible refine (lowM_calls (HRW.out.quiet HF.out) HL.out HM.out D HD.out).mono ?_); rintro e w5 ⟨rfl, f'⟩; have HB_ := hid (HB.out.frm f' (fun h => h)); have HR_ := hid (HR.out.frm f' (fun h => h)); have HM_ := hid (HM.out.frm f' (fun h => h)); have HF_ := hid (HF.out.trans f'); clear HB HR HM HF f'; have HB := HB_; have HR := HR_; have HM := HM_; have HF := HF_; clear HB_ HR_ HM_ HF_; have b0 := HB.out.cell 0; have b1 := HB.out.cell 1; have z0 := HB.out.free 0; have z1 := HB.out.free 1; have hbl := HB.out.lt; have m0 := HM.out.cell 0; have m1 := HM.out.cell 1; (simp only [mkC, List.getElem?_cons_succ, List.getElem?_cons_zero] at b0 b1 m0 m1)))
                  go_roundw
                  case rel => exact ⟨k + 1, true, xs, xr, by have := HKT.out; omega, by first | rfl | go_num, rfl, base_in HY.out HX.out (if_pos HT.out), (HB.out.setCell 0 (.int .u32 xs)).setCell 1 (.int .u64 xr), (HR.out.setOther ⟨bk, 0, none⟩ (.int .u32 xs) HNE.out.1).setOther ⟨bk, 1, none⟩ (.int .u64 xr) HNE.out.1, (HF.out.setCell _ _ (.inl HNE.out.2.2.1)).setCell _ _ (.inl HNE.out.2.2.1)⟩
                  case measure => have := HKT.out; simp [intOf]; omega
                · by_cases h4 : xs = bs
                  · by_cases h5 : xr < br
                    · have HT := hid (show takeB l ⟨true, bs, br⟩ (xs, xr) = true by unfold takeB; rw [HC2.out, HD2.out]; show (decide (bs < xs) || (decide (xs = bs) && decide (xr < br))) = true; rw [decide_eq_false h3, decide_eq_true h4, decide_eq_true h5]; rfl)
                      subst h4
                      go_wp2_with (first
                        | (go_at_call 22; (with_reducible refine (hasM_calls (HRW.out.quiet HF.out) HL.out (fun x hx => (HOK.out x hx).quiet HF.out) HM.out C HC.out).mono ?_); rintro e w4 ⟨rfl, f'⟩; have HB_ := hid (HB.out.frm f' (fun h => h)); have HR_ := hid (HR.out.frm f' (fun h => h)); have HM_ := hid (HM.out.frm f' (fun h => h)); have HF_ := hid (HF.out.trans f'); clear HB HR HM HF f'; have HB := HB_; have HR := HR_; have HM := HM_; have HF := HF_; clear HB_ HR_ HM_ HF_)
                        | (go_at_call 22; (with_reducible refine (lowM_calls (HRW.out.quiet HF.out) HL.out HM.out D HD.out).mono ?_); rintro e w5 ⟨rfl, f'⟩; have HB_ := hid (HB.out.frm f' (fun h => h)); have HR_ := hid (HR.out.frm f' (fun h => h)); have HM_ := hid (HM.out.frm f' (fun h => h)); have HF_ := hid (HF.out.trans f'); clear HB HR HM HF f'; have HB := HB_; have HR := HR_; have HM := HM_; have HF := HF_; clear HB_ HR_ HM_ HF_; have b0 := HB.out.cell 0; have b1 := HB.out.cell 1; have z0 := HB.out.free 0; have z1 := HB.out.free 1; have hbl := HB.out.lt; have m0 := HM.out.cell 0; have m1 := HM.out.cell 1; (simp only [mkC, List.getElem?_cons_succ, List.getElem?_cons_zero] at b0 b1 m0 m1)))
                      go_roundw
                      case rel => exact ⟨k + 1, true, xs, xr, by have := HKT.out; omega, by first | rfl | go_num, rfl, base_in HY.out HX.out (if_pos HT.out), (HB.out.setCell 0 (.int .u32 xs)).setCell 1 (.int .u64 xr), (HR.out.setOther ⟨bk, 0, none⟩ (.int .u32 xs) HNE.out.1).setOther ⟨bk, 1, none⟩ (.int .u64 xr) HNE.out.1, (HF.out.setCell _ _ (.inl HNE.out.2.2.1)).setCell _ _ (.inl HNE.out.2.2.1)⟩
                      case measure => have := HKT.out; simp [intOf]; omega
                    · have HT := hid (show takeB l ⟨true, bs, br⟩ (xs, xr) = false by unfold takeB; rw [HC2.out, HD2.out]; show (decide (bs < xs) || (decide (xs = bs) && decide (xr < br))) = false; rw [decide_eq_false h3, decide_eq_true h4, decide_eq_false h5]; rfl)
                      subst h4
                      go_wp2_with (first
                        | (go_at_call 22; (with_reducible refine (hasM_calls (HRW.out.quiet HF.out) HL.out (fun x hx => (HOK.out x hx).quiet HF.out) HM.out C HC.out).mono ?_); rintro e w4 ⟨rfl, f'⟩; have HB_ := hid (HB.out.frm f' (fun h => h)); have HR_ := hid (HR.out.frm f' (fun h => h)); have HM_ := hid (HM.out.frm f' (fun h => h)); have HF_ := hid (HF.out.trans f'); clear HB HR HM HF f'; have HB := HB_; have HR := HR_; have HM := HM_; have HF := HF_; clear HB_ HR_ HM_ HF_)
                        | (go_at_call 22; (with_reducible refine (lowM_calls (HRW.out.quiet HF.out) HL.out HM.out D HD.out).mono ?_); rintro e w5 ⟨rfl, f'⟩; have HB_ := hid (HB.out.frm f' (fun h => h)); have HR_ := hid (HR.out.frm f' (fun h => h)); have HM_ := hid (HM.out.frm f' (fun h => h)); have HF_ := hid (HF.out.trans f'); clear HB HR HM HF f'; have HB := HB_; have HR := HR_; have HM := HM_; have HF := HF_; clear HB_ HR_ HM_ HF_; have b0 := HB.out.cell 0; have b1 := HB.out.cell 1; have z0 := HB.out.free 0; have z1 := HB.out.free 1; have hbl := HB.out.lt; have m0 := HM.out.cell 0; have m1 := HM.out.cell 1; (simp only [mkC, List.getElem?_cons_succ, List.getElem?_cons_zero] at b0 b1 m0 m1)))
                      go_roundw
                      case rel => exact ⟨k + 1, _, _, _, by have := HKT.out; omega, by first | rfl | go_num, rfl, base_in HY.out HX.out (if_neg (by rw [HT.out]; decide)), HB.out, HR.out, HF.out⟩
                      case measure => have := HKT.out; simp [intOf]; omega
                  · have HT := hid (show takeB l ⟨true, bs, br⟩ (xs, xr) = false by unfold takeB; rw [HC2.out, HD2.out]; show (decide (bs < xs) || (decide (xs = bs) && decide (xr < br))) = false; rw [decide_eq_false h3, decide_eq_false h4]; rfl)
                    have e4 : (xs == bs) = false := beq_eq_false_iff_ne.2 h4
                    clear h4
                    go_wp2_with (first
                      | (go_at_call 22; (with_reducible refine (hasM_calls (HRW.out.quiet HF.out) HL.out (fun x hx => (HOK.out x hx).quiet HF.out) HM.out C HC.out).mono ?_); rintro e w4 ⟨rfl, f'⟩; have HB_ := hid (HB.out.frm f' (fun h => h)); have HR_ := hid (HR.out.frm f' (fun h => h)); have HM_ := hid (HM.out.frm f' (fun h => h)); have HF_ := hid (HF.out.trans f'); clear HB HR HM HF f'; have HB := HB_; have HR := HR_; have HM := HM_; have HF := HF_; clear HB_ HR_ HM_ HF_)
                      | (go_at_call 22; (with_reducible refine (lowM_calls (HRW.out.quiet HF.out) HL.out HM.out D HD.out).mono ?_); rintro e w5 ⟨rfl, f'⟩; have HB_ := hid (HB.out.frm f' (fun h => h)); have HR_ := hid (HR.out.frm f' (fun h => h)); have HM_ := hid (HM.out.frm f' (fun h => h)); have HF_ := hid (HF.out.trans f'); clear HB HR HM HF f'; have HB := HB_; have HR := HR_; have HM := HM_; have HF := HF_; clear HB_ HR_ HM_ HF_; have b0 := HB.out.cell 0; have b1 := HB.out.cell 1; have z0 := HB.out.free 0; have z1 := HB.out.free 1; have hbl := HB.out.lt; have m0 := HM.out.cell 0; have m1 := HM.out.cell 1; (simp only [mkC, List.getElem?_cons_succ, List.getElem?_cons_zero] at b0 b1 m0 m1)))
                    go_roundw
                    case rel => exact ⟨k + 1, _, _, _, by have := HKT.out; omega, by first | rfl | go_num, rfl, base_in HY.out HX.out (if_neg (by rw [HT.out]; decide)), HB.out, HR.out, HF.out⟩
                    case measure => have := HKT.out; simp [intOf]; omega
        · have hke : k = n := by omega
          subst hke
          have HYE := hid (show (⟨fd, bs, br⟩ : BA) = Y by have := HY.out; rw [List.drop_eq_nil_of_le (Nat.le_of_eq HN.out)] at this; exact this)
          clear hlt hk
          go_wp2
          go_roundw
          case rel => exact ⟨j + 1, fd, bs, br, by have := HLT.out; omega, by first | rfl | go_num, rfl, by rw [HYE.out]; exact HZ.out, HBx.out, HRx.out, HFx.out⟩
          case measure => have := HLT.out; simp [intOf]; omega
    · have hje : j = L := by omega
      subst hje
      have HE := hid (show (⟨fd, bs, br⟩ : BA) = ⟨zf, zs, zr⟩ by have := HZ.out; rw [List.drop_eq_nil_of_le (Nat.le_of_eq HL.out)] at this; exact this)
      have hE1 : fd = zf := congrArg BA.fd HE.out
      have hE2 : bs = zs := congrArg BA.s HE.out
      have hE3 : br = zr := congrArg BA.r HE.out
      subst hE1 hE2 hE3
      have b0 := HB.out.cell 0; have b1 := HB.out.cell 1; have r0 := HR.out.cell 0; have r1 := HR.out.cell 1
      simp only [mkC, List.getElem?_cons_succ, List.getElem?_cons_zero] at b0 b1 r0 r1
      have z0 := HR.out.free 0; have z1 := HR.out.free 1
      have hne := HNE.out.1; have hne2 := HNE.out.2.1
      clear hlt hj HE HZ
      go_wp2
      (try simp only [Exit.inBlock, Exit.then])
      refine bodyPost_ret (results_cell2 rfl _ _ rk DMk [.int .u32 bs, .int .u64 br] _ (.bool fd) rfl rfl ((HR.out.setCell 0 (.int .u32 bs)).setCell 1 (.int .u64 br)) Tryd.underlying32 (by kernel_rfl)) rfl ⟨rfl, (HFw.out.setCell _ _ (.inl HNE.out.2.2.2)).setCell _ _ (.inl HNE.out.2.2.2)⟩
end Go.Proofs.YtipalebaaejfjaaDoor
