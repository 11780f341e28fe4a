/- Where a new view begins, and what stands behind that. -/
import Derived.Test.YtipalebaaejfjaaDoorDcVts
import Derived.Test.YtipalebaaejfjaaDoorDcPick
import Derived.Test.YtipalebaaejfjaaDoorOwnQ
namespace Go.Proofs.YtipalebaaejfjaaDoor
open Go.RowKit Go.ChangeShapes
set_option linter.unusedVariables false
set_option linter.unusedSimpArgs false
set_option maxRecDepth 100000
theorem results_cell3 {fn : Func} {p q r : Tmp} {ty : TypeId} (h : fn.results = #[.cell p ty, .tmp q, .tmp r]) (tmps : Array Value) (w : World) (g T : Nat) (cs : List Value) (fs : Array Field) (v u : Value) (hp : tmps.getD p undef = .pointer (some ⟨g, 0, none⟩)) (hq : tmps.getD q undef = v) (hr : tmps.getD r undef = u) (hb : Blk w g cs T)
    (hu : Tryd.prog.underlying ty = some (.struct fs)) (hi : (Tryd.prog.info? ty).map (·.size) = some cs.length) : (results fn tmps).run Tryd.prog w = .ok (.tuple #[.agg cs.toArray, v, u]) w := by
  have hp' : tmps[p]?.getD undef = .pointer (some ⟨g, 0, none⟩) := by simpa using hp
  have hq' : tmps[q]?.getD undef = v := by simpa using hq
  have hr' : tmps[r]?.getD undef = u := by simpa using hr
  simp [results, h, hp', hq', hr', asAddr, run_loadVar_row w g T ty cs.toArray (0, 0) (.struct fs) hb hu rfl (by simpa using hi)]
theorem blkn (W : World) (n : Nat) (hn : W.heap.size = n) (cs : List Value) (T : Nat) : Blk (W.alloc (.cells cs.toArray T)) n cs T := hn ▸ Blk.new W cs T
theorem Frm.own {w a b : World} {S : Nat → Prop} (h : Frm (fun _ => False) w a) (f : Frm S a b) (hs : ∀ k, S k → ¬ k < w.heap.size) : Frm (fun _ => False) w b := h.trans' f (fun i hi h => hs i h hi)
def rqE (e : En) : Rq := ⟨e.c, e.t, e.k, e.y, e.x⟩
/-- What stands at the places behind the base: the requests, how many up to the last one that must stand; whether each place has one, or none for sure. -/
def chL (l : List Vm) (sq : Nat → Int) : Nat → List Rq
  | 0 => []
  | j + 1 => chL l sq j ++ [rqE (pickR l (sq (j + 1))).e]
def chN (l : List Vm) (sq : Nat → Int) : Nat → Nat
  | 0 => 0
  | j + 1 => if (pickR l (sq (j + 1))).fd = true then j + 1 else chN l sq j
def chG (l : List Vm) (sq : Nat → Int) : Nat → Bool
  | 0 => true
  | j + 1 => ((pickR l (sq (j + 1))).fd || emptyR l (sq (j + 1))) && chG l sq j
theorem chL_len (l : List Vm) (sq : Nat → Int) (j : Nat) : (chL l sq j).length = j := by
  induction j with
  | zero => rfl
  | succ j ih => show (_ ++ [_]).length = _; rw [List.length_append, ih]; rfl
theorem chN_le (l : List Vm) (sq : Nat → Int) (j : Nat) : chN l sq j ≤ j := by
  induction j with
  | zero => exact Nat.le_refl _
  | succ j ih => simp only [chN]; split <;> omega
theorem chG_bad {l : List Vm} {sq : Nat → Int} {j n : Nat} (hj : j < n) (h1 : (pickR l (sq (j + 1))).fd = false) (h2 : emptyR l (sq (j + 1)) = false) : chG l sq n = false := by
  induction n with
  | zero => omega
  | succ n ih =>
    show ((_ || _) && _) = false
    by_cases e : j = n
    · subst e; rw [h1, h2]; rfl
    · rw [ih (by omega), Bool.and_false]
/-- What is told: an error, or the base and what stands behind it. -/
def ChR (w : World) (good : Bool) (zs zr : Int) (O : List Rq) (e : Ending) : Prop :=
  (good = false ∧ e = .returned (.tuple #[.agg #[.int .u32 0, .int .u64 0], .slice none 0 0, .int .i64 150])) ∨
  (good = true ∧ ∃ g c, e = .returned (.tuple #[.agg #[.int .u32 zs, .int .u64 zr], .slice (some ⟨g, 0, none⟩) O.length c, .int .i64 0]) ∧ IsRow 5 rqC w (some ⟨g, 0, none⟩) c O)
theorem IsRow.keep {α : Type} {n : Nat} {C : α → List Value} {w w' : World} {S : Nat → Prop} {b o : Nat} {cap : Nat} {l : List α} (h : IsRow n C w (some ⟨b, o, none⟩) cap l) (f : Frm S w w') (hs : ¬ S b) : IsRow n C w' (some ⟨b, o, none⟩) cap l :=
  ⟨h.le, h.small, fun hn => by
    obtain ⟨b', o', e, hb, hc⟩ := h.at_ hn
    cases e
    exact ⟨b, o, rfl, Nat.lt_of_lt_of_le hb f.size, fun j r hj i hi => (f.cell (p := ⟨b, o + j * n + i, none⟩) hb hs).trans (hc j r hj i hi)⟩⟩
theorem IsRow.take {α : Type} {n : Nat} {C : α → List Value} {w : World} {a : Option Addr} {cap : Nat} {l : List α} (h : IsRow n C w a cap l) (k : Nat) : IsRow n C w a cap (l.take k) :=
  ⟨Nat.le_trans (by rw [List.length_take]; omega) h.le, h.small, fun hn => by
    obtain ⟨b, o, e, hb, hc⟩ := h.at_ (fun h0 => hn (by rw [List.length_take, h0]; omega))
    refine ⟨b, o, e, hb, fun j r hj i hi => hc j r ?_ i hi⟩
    rw [List.getElem?_take] at hj
    split at hj
    · exact hj
    · cases hj⟩
theorem OwnQ.row {w : World} {A : Nat → Prop} {v : Value} {l : List Rq} (h : OwnQ w A v l) (hl : 0 < l.length) : ∃ g c, v = .slice (some ⟨g, 0, none⟩) l.length c ∧ ¬ A g ∧ l.length ≤ c ∧ c ≤ 9223372036854775807 ∧ IsRow 5 rqC w (some ⟨g, 0, none⟩) c l := by
  obtain ⟨g, c, hv, hle, hm, hc⟩ := h.at_ hl
  have hb : v.ownBlock = some g := by rw [hv]; rfl
  exact ⟨g, c, hv, h.off g hb, hle, hm, hle, hm, fun _ => ⟨g, 0, rfl, h.lt hb, fun j r hj i hi => by rw [Nat.zero_add]; exact hc j r hj i hi⟩⟩
set_option maxHeartbeats 64000000 in
theorem Choose_calls {w : World} {a : Option Addr} {cap L : Nat} {l : List Vm} (h : IsRow 7 vmC w a cap l) (hL : l.length = L) (hok : ∀ x ∈ l, VmOk w x) (view : Int) (bv : Bool)
    (hV : ∀ w', Frm (fun _ => False) w w' → Calls Tryd.prog 17 #[.int .u32 view, .slice a L cap] w' fun e w'' => e = .returned (.bool bv) ∧ Frm (fun _ => False) w' w'')
    {zf : Bool} {zs zr : Int} (hZ : baseR l = ⟨zf, zs, zr⟩) (sq : Nat → Int) (hsq : ∀ i : Nat, 1 ≤ i → i ≤ 8 → (zs + (i : Int)) % 4294967296 = sq i) (good : Bool) (hG : (bv && (zf && chG l sq 8)) = good) :
    Calls Tryd.prog 15 #[.int .u32 view, .slice a L cap] w fun e w' => Frm (fun _ => False) w w' ∧ ChR w' good zs zr ((chL l sq 8).take (chN l sq 8)) e := by
  have HL := hid hL; have HZ := hid hZ; have HRW := hid h; have HOK := hid hok; have HV := hid hV; have HSQ := hid hsq; have HG := hid hG
  have hlc : L ≤ cap := hL ▸ h.le
  have hcs := h.small
  clear h hZ hok hL hV hsq hG
  go_enter Tryd.func15, Tryd.ntmps15
  cases bv
  · go_wp2_with (first
      | (go_at_call 11; (with_reducible refine (Base_calls (HRW.out.quiet (dbox _ _)) HL.out (fun x hx => (HOK.out x hx).quiet (dbox _ _)) HZ.out).mono ?_); rintro e w1 ⟨rfl, f'⟩; have HF1 := hid ((dbox w _).trans f'); have HR1 := hid ((Blk.new w [.int .u32 0, .int .u64 0] DMk).frm f' (fun h => h)); have HWL := hid (show w.heap.size < w1.heap.size from HR1.out.lt); clear f')
      | (go_at_call 17; (with_reducible refine (HV.out _ (HF1.out.trans (dbox _ _))).mono ?_); rintro e w2 ⟨rfl, f'⟩; have HF := hid ((HF1.out.trans (dbox _ _)).trans f'); have HR := hid ((HR1.out.frm (dbox w1 (.cells #[.int .u32 zs, .int .u64 zr] DMk)) (fun h => h)).frm f' (fun h => h)); have HB := hid ((Blk.new w1 [.int .u32 zs, .int .u64 zr] DMk).frm f' (fun h => h)); clear HF1 HR1 f'; have b0 := HR.out.cell 0; have z0 := HR.out.free 0; have b1 := HR.out.cell 1; have z1 := HR.out.free 1; have hbl := HR.out.lt; (simp only [List.getElem?_cons_succ, List.getElem?_cons_zero] at b0 b1)))
    refine bodyPost_ret (results_cell3 rfl _ _ w.heap.size DMk [.int .u32 0, .int .u64 0] _ (.slice none 0 0) (.int .i64 150) rfl rfl rfl ((HR.out.setCell 0 (.int .u32 0)).setCell 1 (.int .u64 0)) Tryd.underlying32 (by kernel_rfl)) rfl ⟨(HF.out.setCell _ _ (.inl (Nat.le_refl _))).setCell _ _ (.inl (Nat.le_refl _)), .inl ⟨HG.out.symm.trans (by first | rfl | simp), rfl⟩⟩
  · cases zf
    · go_wp2_with (first
        | (go_at_call 11; (with_reducible refine (Base_calls (HRW.out.quiet (dbox _ _)) HL.out (fun x hx => (HOK.out x hx).quiet (dbox _ _)) HZ.out).mono ?_); rintro e w1 ⟨rfl, f'⟩; have HF1 := hid ((dbox w _).trans f'); have HR1 := hid ((Blk.new w [.int .u32 0, .int .u64 0] DMk).frm f' (fun h => h)); have HWL := hid (show w.heap.size < w1.heap.size from HR1.out.lt); clear f')
        | (go_at_call 17; (with_reducible refine (HV.out _ (HF1.out.trans (dbox _ _))).mono ?_); rintro e w2 ⟨rfl, f'⟩; have HF := hid ((HF1.out.trans (dbox _ _)).trans f'); have HR := hid ((HR1.out.frm (dbox w1 (.cells #[.int .u32 zs, .int .u64 zr] DMk)) (fun h => h)).frm f' (fun h => h)); have HB := hid ((Blk.new w1 [.int .u32 zs, .int .u64 zr] DMk).frm f' (fun h => h)); clear HF1 HR1 f'; have b0 := HR.out.cell 0; have z0 := HR.out.free 0; have b1 := HR.out.cell 1; have z1 := HR.out.free 1; have hbl := HR.out.lt; (simp only [List.getElem?_cons_succ, List.getElem?_cons_zero] at b0 b1)))
      refine bodyPost_ret (results_cell3 rfl _ _ w.heap.size DMk [.int .u32 0, .int .u64 0] _ (.slice none 0 0) (.int .i64 150) rfl rfl rfl ((HR.out.setCell 0 (.int .u32 0)).setCell 1 (.int .u64 0)) Tryd.underlying32 (by kernel_rfl)) rfl ⟨(HF.out.setCell _ _ (.inl (Nat.le_refl _))).setCell _ _ (.inl (Nat.le_refl _)), .inl ⟨HG.out.symm.trans (by first | rfl | simp), rfl⟩⟩
    · go_wp2_with (first
        | (go_at_call 11; (with_reducible refine (Base_calls (HRW.out.quiet (dbox _ _)) HL.out (fun x hx => (HOK.out x hx).quiet (dbox _ _)) HZ.out).mono ?_); rintro e w1 ⟨rfl, f'⟩; have HF1 := hid ((dbox w _).trans f'); have HR1 := hid ((Blk.new w [.int .u32 0, .int .u64 0] DMk).frm f' (fun h => h)); have HWL := hid (show w.heap.size < w1.heap.size from HR1.out.lt); clear f')
        | (go_at_call 17; (with_reducible refine (HV.out _ (HF1.out.trans (dbox _ _))).mono ?_); rintro e w2 ⟨rfl, f'⟩; have HF := hid ((HF1.out.trans (dbox _ _)).trans f'); have HR := hid ((HR1.out.frm (dbox w1 (.cells #[.int .u32 zs, .int .u64 zr] DMk)) (fun h => h)).frm f' (fun h => h)); have HB := hid ((Blk.new w1 [.int .u32 zs, .int .u64 zr] DMk).frm f' (fun h => h)); clear HF1 HR1 f'; have b0 := HR.out.cell 0; have z0 := HR.out.free 0; have b1 := HR.out.cell 1; have z1 := HR.out.free 1; have hbl := HR.out.lt; (simp only [List.getElem?_cons_succ, List.getElem?_cons_zero] at b0 b1)))
      clear b0 z0 b1 z1 hbl
      have HRW3 := hid (HRW.out.quiet HF.out)
      have HOK3 := hid (fun x hx => (HOK.out x hx).quiet HF.out)
      have HNE := hid (show ¬ w.heap.size = w1.heap.size by have := HWL.out; omega)
      have HF0 := hid (Frm.refl (fun _ => False) w2)
      have HO0 := hid (OwnQ.nil w2 (fun k => k < w2.heap.size))
      go_loopw [9, 10, 11] (fun ov lv iv wr => ∃ (j N : Nat), j ≤ 8 ∧ lv = .int .i64 N ∧ iv = .int .u32 ((j : Int) + 1) ∧ chN l sq j = N ∧ chG l sq j = true ∧ OwnQ wr (fun k => k < w2.heap.size) ov (chL l sq j) ∧ Frm (fun _ => False) w2 wr) (fun _ _ i _ => 9 - (intOf i).toNat)
      case atStart => exact ⟨0, 0, by omega, rfl, rfl, rfl, rfl, HO0.out, HF0.out⟩
      case round =>
        clear HF0 HO0
        obtain ⟨j, N, hj, rfl, rfl, hN, hg, ho, hf⟩ := hrel
        have HFw := hid hf; have HO := hid ho
        clear hf ho
        have d0 := (HB.out.frm HFw.out (fun h => h)).cell 0; have d1 := (HB.out.frm HFw.out (fun h => h)).cell 1
        (simp only [List.getElem?_cons_succ, List.getElem?_cons_zero] at d0 d1)
        have HLN := hid (chL_len l sq j)
        by_cases hlt : j < 8
        · have hil : (j : Int) + 1 ≤ 8 := by omega
          have hs := HSQ.out (j + 1) (by omega) (by omega)
          obtain ⟨s, hs0⟩ : ∃ s, sq (j + 1) = s := ⟨_, rfl⟩
          rw [hs0, show ((j + 1 : Nat) : Int) = (j : Int) + 1 by omega] at hs
          have hs2 : IntKind.u32.wrap (zs + ((j : Int) + 1)) = s := by rw [← hs]; simp [IntKind.wrap, IntKind.bits, IntKind.signed]
          have hs3 : IntKind.u32.wrap ((j : Int) + 1 + 1) = (j : Int) + 1 + 1 := by simp [IntKind.wrap, IntKind.bits, IntKind.signed]; omega
          obtain ⟨⟨pf, pr, ⟨qs, qv, qc, qt, qk, qy, qx⟩⟩, hpk⟩ : ∃ A, pickR l s = A := ⟨_, rfl⟩
          have HPK := hid hpk
          have HLN3 := hid (show chL l sq j ++ [(⟨qc, qt, qk, qy, qx⟩ : Rq)] = chL l sq (j + 1) by rw [chL, hs0, hpk]; rfl)
          have HLN2 := hid (show (chL l sq j ++ [(⟨qc, qt, qk, qy, qx⟩ : Rq)]).length = j + 1 by rw [HLN3.out, chL_len])
          have HLT := hid hlt
          cases pf
          · obtain ⟨em, hem⟩ : ∃ em, emptyR l s = em := ⟨_, rfl⟩
            have HEM := hid hem
            cases em
            · have HBAD := hid (show false = good by rw [← HG.out, chG_bad HLT.out (by rw [hs0, hpk]) (by rw [hs0, hem])]; rfl)
              clear hpk hs0 hem hlt hN hg
              go_wp2_with (first
                | (go_at_call 13; (with_reducible refine (Pick_calls (HRW3.out.quiet HFw.out) HL.out (fun x hx => (HOK3.out x hx).quiet HFw.out) s HPK.out).mono ?_); rintro e w4 ⟨rfl, f'⟩; have HF4 := hid (HFw.out.trans f'); have HO4 := hid (HO.out.quiet f'); have d4 : ∀ o, (w4.alloc o).cell? ⟨w1.heap.size, 0, none⟩ = some (.int .u32 zs) := (fun o => ((HB.out.frm HF4.out (fun h => h)).frm (dbox w4 o) (fun h => h)).cell 0); clear HFw f')
                | (go_at_call 19; (with_reducible refine (Empty_calls (HRW3.out.quiet (HF4.out.trans (dbox _ _))) HL.out (fun x hx => (HOK3.out x hx).quiet (HF4.out.trans (dbox _ _))) s _ HEM.out).mono ?_); rintro e w5 ⟨rfl, f'⟩; have HF5 := hid ((HF4.out.trans (dbox w4 _)).trans f'); have HO5 := hid ((HO4.out.quiet (dbox w4 _)).quiet f'); have HP5 := hid ((Blk.new w4 (rqC ⟨qc, qt, qk, qy, qx⟩) TRe).frm f' (fun h => h)); have HR5 := hid (HR.out.frm HF5.out (fun h => h)); have b0 := HR5.out.cell 0; have z0 := HR5.out.free 0; have b1 := HR5.out.cell 1; have z1 := HR5.out.free 1; have hbl := HR5.out.lt; (simp only [List.getElem?_cons_succ, List.getElem?_cons_zero] at b0 b1); clear f' HF4 HO4))
              have HF6 := hid (HF.out.trans HF5.out)
              refine bodyPost_ret (results_cell3 rfl _ _ w.heap.size DMk [.int .u32 0, .int .u64 0] _ (.slice none 0 0) (.int .i64 150) rfl rfl rfl ((HR5.out.setCell 0 (.int .u32 0)).setCell 1 (.int .u64 0)) Tryd.underlying32 (by kernel_rfl)) rfl ⟨(HF6.out.setCell _ _ (.inl (Nat.le_refl _))).setCell _ _ (.inl (Nat.le_refl _)), .inl ⟨HBAD.out.symm, rfl⟩⟩
            · have HG1 := hid (show chG l sq (j + 1) = true by rw [chG, hs0, hpk, hem, hg]; rfl)
              have HNN := hid (show chN l sq (j + 1) = N by rw [chN, hs0, hpk, ← hN]; rfl)
              clear hpk hs0 hem hlt hN hg
              go_wp2_with (first
                | (go_at_call 13; (with_reducible refine (Pick_calls (HRW3.out.quiet HFw.out) HL.out (fun x hx => (HOK3.out x hx).quiet HFw.out) s HPK.out).mono ?_); rintro e w4 ⟨rfl, f'⟩; have HF4 := hid (HFw.out.trans f'); have HO4 := hid (HO.out.quiet f'); have d4 : ∀ o, (w4.alloc o).cell? ⟨w1.heap.size, 0, none⟩ = some (.int .u32 zs) := (fun o => ((HB.out.frm HF4.out (fun h => h)).frm (dbox w4 o) (fun h => h)).cell 0); clear HFw f')
                | (go_at_call 19; (with_reducible refine (Empty_calls (HRW3.out.quiet (HF4.out.trans (dbox _ _))) HL.out (fun x hx => (HOK3.out x hx).quiet (HF4.out.trans (dbox _ _))) s _ HEM.out).mono ?_); rintro e w5 ⟨rfl, f'⟩; have HF5 := hid ((HF4.out.trans (dbox w4 _)).trans f'); have HO5 := hid ((HO4.out.quiet (dbox w4 _)).quiet f'); have HP5 := hid ((Blk.new w4 (rqC ⟨qc, qt, qk, qy, qx⟩) TRe).frm f' (fun h => h)); have p0 := HP5.out.cell 0; have p1 := HP5.out.cell 1; have p2 := HP5.out.cell 2; have p3 := HP5.out.cell 3; have p4 := HP5.out.cell 4; (simp only [rqC, List.getElem?_cons_succ, List.getElem?_cons_zero] at p0 p1 p2 p3 p4); clear f' HF4 HO4)
                | (at_builtin; refine wpList_moreQ ⟨qc, qt, qk, qy, qx⟩ rfl _ _ rfl rfl (HO5.out.quiet (dbox _ _)) (fun k hk => by have := HF5.out.size; simp; omega) (blkn w5 _ rfl (rqC ⟨qc, qt, qk, qy, qx⟩) TRe) (by have := HLN.out; have := HLT.out; omega) rfl rfl ?_; intro v' w6 ho' hf' hat'; have HO6 := hid ho'; have HF6 := hid ((HF5.out.trans (dbox w5 _)).own hf' (fun k hk hn => HO.out.off k hk hn)); obtain ⟨a9, c9, e9⟩ : ∃ a9 c9, v' = .slice a9 (j + 1) c9 := (by obtain ⟨a9, c9, e9⟩ := ho'.slice; exact ⟨a9, c9, by rw [e9, HLN2.out]⟩); subst e9; clear ho' hf' hat'))
              go_roundw
              case rel => exact ⟨j + 1, N, by have := HLT.out; omega, by go_num, by first | rfl | go_num, HNN.out, HG1.out, by rw [← HLN3.out]; exact HO6.out, HF6.out⟩
              case measure => have := HLT.out; simp [intOf]; omega
          · have HG1 := hid (show chG l sq (j + 1) = true by rw [chG, hs0, hpk, hg]; rfl)
            have HNN := hid (show chN l sq (j + 1) = j + 1 by rw [chN, hs0, hpk]; rfl)
            clear hpk hs0 hlt hN hg
            go_wp2_with (first
              | (go_at_call 13; (with_reducible refine (Pick_calls (HRW3.out.quiet HFw.out) HL.out (fun x hx => (HOK3.out x hx).quiet HFw.out) s HPK.out).mono ?_); rintro e w4 ⟨rfl, f'⟩; have HF4 := hid (HFw.out.trans f'); have HO4 := hid (HO.out.quiet f'); have d4 : ∀ o, (w4.alloc o).cell? ⟨w1.heap.size, 0, none⟩ = some (.int .u32 zs) := (fun o => ((HB.out.frm HF4.out (fun h => h)).frm (dbox w4 o) (fun h => h)).cell 0); clear HFw f')
              | (at_builtin; refine wpList_moreQ ⟨qc, qt, qk, qy, qx⟩ rfl _ _ rfl rfl ((HO4.out.quiet (dbox w4 _)).quiet (dbox _ _)) (fun k hk => by have := HF4.out.size; simp; omega) (blkn (w4.alloc _) (w4.heap.size + 1) (by simp) (rqC ⟨qc, qt, qk, qy, qx⟩) TRe) (by have := HLN.out; have := HLT.out; omega) rfl rfl ?_; intro v' w6 ho' hf' hat'; have HO6 := hid ho'; have HF6 := hid (((HF4.out.trans (dbox w4 _)).trans (dbox (w4.alloc _) _)).own hf' (fun k hk hn => HO.out.off k hk hn)); obtain ⟨a9, c9, e9⟩ : ∃ a9 c9, v' = .slice a9 (j + 1) c9 := (by obtain ⟨a9, c9, e9⟩ := ho'.slice; exact ⟨a9, c9, by rw [e9, HLN2.out]⟩); subst e9; clear ho' hf' hat'))
            go_roundw
            case rel => exact ⟨j + 1, j + 1, by have := HLT.out; omega, by go_num, by first | rfl | go_num, HNN.out, HG1.out, by rw [← HLN3.out]; exact HO6.out, HF6.out⟩
            case measure => have := HLT.out; simp [intOf]; omega
        · obtain rfl : j = 8 := by omega
          clear hlt
          have HN := hid hN
          have hn8 : N ≤ 8 := by have := chN_le l sq 8; omega
          have HGD := hid (show true = good by rw [← HG.out, hg]; rfl)
          obtain ⟨g, c, rfl, hgA, hgc, hgm, hgr⟩ := HO.out.row (by rw [chL_len]; omega)
          have HROW := hid hgr; have HGA := hid hgA
          rw [chL_len] at hgc
          rw [chL_len]
          rw [show ((8 : Nat) : Int) + 1 = 9 from rfl]
          have hnc : N ≤ c := by omega
          clear hN hg hgr hgA
          have HRx := hid (HR.out.frm HFw.out (fun h => h))
          have b0 := HRx.out.cell 0; have z0 := HRx.out.free 0; have b1 := HRx.out.cell 1; have z1 := HRx.out.free 1; have hbl := HRx.out.lt
          (simp only [List.getElem?_cons_succ, List.getElem?_cons_zero] at b0 b1)
          have hn1 := HNE.out; have hn2 : ¬ w1.heap.size = w.heap.size := fun e => hn1 e.symm
          have HFx := hid (HF.out.trans HFw.out)
          go_wp2
          go_region
          go_wp2
          refine bodyPost_ret (results_cell3 rfl _ _ w.heap.size DMk [.int .u32 zs, .int .u64 zr] _ (.slice (some ⟨g, 0, none⟩) N c) (.int .i64 0) rfl rfl rfl ((HRx.out.setCell 0 (.int .u32 zs)).setCell 1 (.int .u64 zr)).drew Tryd.underlying32 (by kernel_rfl)) rfl ⟨((HFx.out.setCell _ _ (.inl (Nat.le_refl _))).setCell _ _ (.inl (Nat.le_refl _))).drew, .inr ⟨HGD.out.symm, g, c, ?_, ?_⟩⟩
          · rw [List.length_take, chL_len, Nat.min_eq_left (HN.out ▸ chN_le l sq 8), HN.out]
          · exact (HROW.out.take _).keep (S := fun k => k = w.heap.size) (((Frm.refl (fun k => k = w.heap.size) wr).setCell ⟨w.heap.size, 0, none⟩ _ (.inr rfl)).setCell ⟨w.heap.size, 1, none⟩ _ (.inr rfl)).drew (fun e => HGA.out (by rw [e]; exact HR.out.lt))
end Go.Proofs.YtipalebaaejfjaaDoor
