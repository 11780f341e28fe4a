/- ServiceAdds, walked: numbers added to one key wrap round; each is told the sum that it made. -/
import Derived.Test.YtaeonidjfmlbiaaSvcPure
import Derived.Test.YtaeonidjfmlbiaaHeld
namespace Go.Proofs.Ytaeonidjfmlbiaa
open Go.RowKit Go.ChangeShapes
set_option linter.unusedVariables false
set_option linter.unusedSimpArgs false
abbrev TA5 : Nat := 37
/-- At the loop's head: the map at b, the last times at g. -/
structure Sa (w0 w : World) (b g : Nat) (vs cs ts : List Int) (sum : Int) (k : Nat) : Prop where
  map : IsMap w b vs cs
  row : Blk w g (ts.map (Value.int .u32)) TA5
  bel : Below w0.heap.size w0 w
  len : ts.length = 5
  sm : getV vs 9 = sum
  tim : ∀ i : Nat, 1 ≤ i → i ≤ 4 → getT cs (i : Int) = ts.getD i 0 ∧ 0 ≤ ts.getD i 0 ∧ ts.getD i 0 ≤ k
  ne : b ≠ g
  hb : w0.heap.size ≤ b
  hg : w0.heap.size ≤ g
  s0 : 0 ≤ sum ∧ sum ≤ 65535
theorem row_cell {w : World} {g T : Nat} {ts : List Int} (h : Blk w g (ts.map (Value.int .u32)) T) (i : Nat) (hi : i < ts.length) : w.cell? ⟨g, i, none⟩ = some (.int .u32 (ts.getD i 0)) := by
  rw [h.cell, List.getElem?_map, List.getElem?_eq_getElem hi, List.getD_eq_getElem?_getD, List.getElem?_eq_getElem hi]; rfl
theorem row_set {w : World} {g T : Nat} {ts : List Int} (h : Blk w g (ts.map (Value.int .u32)) T) (i : Nat) (v : Int) : Blk (w.setCell ⟨g, i, none⟩ (.int .u32 v)) g ((ts.set i v).map (Value.int .u32)) T := by
  rw [List.map_set]; exact h.setCell i _
theorem uwrap8 (n : Int) : IntKind.u8.wrap n = n % 256 := by simp [IntKind.wrap, IntKind.bits, IntKind.signed]
theorem uwrap32 (n : Int) : IntKind.u32.wrap n = n % 4294967296 := by simp [IntKind.wrap, IntKind.bits, IntKind.signed]
theorem tim_set {cs ts : List Int} {k i : Nat} {t y : Int} (h : ∀ i : Nat, 1 ≤ i → i ≤ 4 → getT cs (i : Int) = ts.getD i 0 ∧ 0 ≤ ts.getD i 0 ∧ ts.getD i 0 ≤ k) (hi : i < ts.length) (h1 : 1 ≤ i) (h4 : i ≤ 4) (hl : cs.length = 10) (htk : t ≤ k) (ht0 : 0 ≤ t) :
    ∀ j : Nat, 1 ≤ j → j ≤ 4 → getT (setC cs (i : Int) (t + 1) y) (j : Int) = (ts.set i (t + 1)).getD j 0 ∧ 0 ≤ (ts.set i (t + 1)).getD j 0 ∧ (ts.set i (t + 1)).getD j 0 ≤ (k + 1 : Nat) := by
  intro j j1 j4
  by_cases hij : i = j
  · subst hij
    rw [getT_set_eq hl (by omega) (by omega), getD_set_eq hi]
    omega
  · rw [getT_set_ne (by omega) (by omega) (by omega), getD_set_ne hij]
    have := h j j1 j4
    exact ⟨this.1, this.2.1, by omega⟩
theorem isReal_add {i : Nat} (h1 : 1 ≤ i) (h4 : i ≤ 4) {t v : Int} (ht : t ≠ 0) : isReal (i : Int) t 3 9 v = true := decide_eq_true (by omega)
set_option maxRecDepth 100000 in
set_option maxHeartbeats 8000000 in
theorem ServiceAdds_walk (a0 : Option Addr) (c0 : Nat) (z0 : List Int) (w : World) (h0 : IsInts .u16 w a0 c0 z0) :
    Calls Try.prog 4 #[.slice a0 z0.length c0] w fun e w' => e = .returned (.bool true) ∧ Below w.heap.size w w' := by
  have hle := h0.le
  have hsm := h0.small
  by_cases hlen : z0.length > 60
  · go_enter Try.func4, Try.ntmps4
    go_wp2_with (go_at_call 8; (with_reducible refine (known_calls _).mono ?_); rintro e w' ⟨rfl, f1⟩)
    go_ret
    exact ⟨rfl, f1⟩
  have H0 := hid h0; clear h0
  go_enter Try.func4, Try.ntmps4
  go_wp2_with (first
    | (go_at_call 8; (with_reducible refine (known_calls _).mono ?_); rintro e w1 ⟨rfl, f1⟩; have HF := hid f1; clear f1)
    | (go_at_call 9; (with_reducible refine (PNew_calls _).mono ?_); rintro e w2 ⟨rfl, h', f'⟩; have HB := hid HF.out.size; have HM := hid h'; have n0_ := hid (below_next HF.out f'); clear HF; have HF := n0_; clear n0_; clear f' h'))
  generalize hwz : w2.alloc (Obj.cells _ TA5) = wz
  have st0 : Sa w wz w1.heap.size w2.heap.size (List.replicate 64 0) (List.replicate 10 0) (List.replicate 5 0) 0 0 := by
    have hlt := HM.out.blk.lt
    have hw2 := HF.out.size
    have hb := HB.out
    subst hwz
    exact ⟨HM.out.frm (frm_box _ _) (fun h => h), Blk.new w2 _ TA5, HF.out.alloc hw2 _, by decide, getV_zero _ _, fun i h1 h4 => ⟨by rw [getT_zero, List.getD_eq_getElem?_getD, List.getElem?_replicate, if_pos (by omega)]; rfl, by rw [List.getD_eq_getElem?_getD, List.getElem?_replicate, if_pos (by omega)]; decide, by rw [List.getD_eq_getElem?_getD, List.getElem?_replicate, if_pos (by omega)]; decide⟩, by omega, hb, hw2, by decide⟩
  clear HM HF HB hwz
  generalize w2.heap.size = g at *
  generalize w1.heap.size = b at *
  go_loopw [4, 6] (fun su i wr => ∃ (k : Nat) (vs cs ts : List Int) (sum : Int), k ≤ z0.length ∧ su = .int .u16 sum ∧ i = .int .i64 k ∧ Sa w wr b g vs cs ts sum k) (fun _ i _ => z0.length - (intOf i).toNat)
  case atStart => exact ⟨0, _, _, _, 0, by omega, rfl, rfl, st0⟩
  case round =>
    clear st0
    obtain ⟨k, vs, cs, ts, sum, hk, rfl, rfl, hS⟩ := hrel
    by_cases hlt : k < z0.length
    · obtain ⟨ga, off, rfl, hga, hc⟩ := H0.out.at_ (by omega)
      have hcx := hc k hlt
      have hwf : (Lit.int .u16 (z0.getD k 0)).wf = true := H0.out.wf _ (by rw [List.getD_eq_getElem?_getD, List.getElem?_eq_getElem hlt]; exact List.getElem_mem hlt)
      generalize z0.getD k 0 = x at hcx hwf
      have hx := bounds_u16 hwf
      clear hc hwf
      obtain ⟨i, hi⟩ : ∃ i : Nat, x % 4 + 1 = (i : Int) := ⟨(x % 4 + 1).toNat, by omega⟩
      have hi1 : 1 ≤ i := by omega
      have hi4 : i ≤ 4 := by omega
      have hil : (i : Int) < 5 := by omega
      have hkl : (k : Int) < (z0.length : Int) := by omega
      have hk60 : (k : Int) ≤ 60 := by omega
      have hs0 := hS.s0
      obtain ⟨ht, ht0, htk⟩ := hS.tim i hi1 hi4
      have HC := hid (fun (w' : World) (f : Below w.heap.size w w') => (f.cell (p := ⟨ga, off + k, none⟩) hga).trans hcx)
      have q0 := HC.out _ hS.bel
      have r0 := row_cell hS.row i (by have := hS.len; omega)
      have z0' := hS.row.free i
      obtain ⟨t, htt⟩ : ∃ t, ts.getD i 0 = t := ⟨_, rfl⟩
      rw [htt] at r0 ht ht0 htk
      have HT := hid htt; clear htt hcx
      have HTT := hid ht; clear ht
      have e8 : IntKind.u8.wrap (x % 4) = x % 4 := by rw [uwrap8]; omega
      have e32 : IntKind.u32.wrap (t + 1) = t + 1 := by rw [uwrap32]; omega
      obtain ⟨s2, hs2⟩ : ∃ s2, (sum + x) % 65536 = s2 := ⟨_, rfl⟩
      have e16 : IntKind.u16.wrap (sum + x) = s2 := by rw [← hs2]; simp [IntKind.wrap, IntKind.bits, IntKind.signed]
      have hs20 : 0 ≤ s2 ∧ s2 ≤ 65535 := by omega
      have e162 : IntKind.u32.wrap s2 = s2 := by rw [uwrap32]; omega
      have HS := hid hS; clear hS
      have hr := isReal_add hi1 hi4 (t := t + 1) (by omega) (v := x)
      have hgi : ¬ g = ga := by have := HS.out.hg; omega
      have hgi2 : ¬ ga = g := by have := HS.out.hg; omega
      have HTB := hid (show 0 ≤ t + 1 ∧ t + 1 ≤ 4294967295 by omega)
      have HXB := hid (show 0 ≤ x ∧ x ≤ 65535 from hx)
      have HI0 := hid (show (0 : Int) ≤ (i : Int) by omega)
      have HN := hid (isNew_of (cs := cs) hr (by rw [HTT.out]; omega))
      have HX := hid (show doesR 3 (getV vs 9) x = s2 by rw [doesR_add, HS.out.sm, hs2])
      have HZ := hid (show doesV 3 (getV vs 9) x = s2 by rw [doesV_add, HS.out.sm, hs2])
      have HIL := hid (show i < ts.length by have := HS.out.len; omega)
      have f1 : Frm (· = g) wr (wr.setCell ⟨g, i, none⟩ (.int .u32 (t + 1))) := (Frm.refl _ _).setCell _ _ (.inr rfl)
      have HM1 := hid ((HS.out.map.frm f1 HS.out.ne).frm (frm_drew _) (fun h => h))
      have HR1 := hid ((row_set HS.out.row i (t + 1)).frm (frm_drew _) (fun h => h))
      have HF1 := hid (bdrew (below_frm1 HS.out.bel f1 HS.out.hg))
      have HG := hid (getV_put_eq HS.out.map.lv (k := 9) (by decide) (by decide) s2)
      clear f1 hr
      go_wp2
      clear q0 r0 z0'
      have q1 := HC.out _ HF1.out
      have r1 := row_cell HR1.out i (by rw [List.length_set]; exact HIL.out)
      rw [getD_set_eq HIL.out] at r1
      go_region_held3 (fun wx => wx.cell? ⟨g, i, none⟩ = some (.int .u32 (t + 1)) ∧ wx.cell? ⟨ga, off + k, none⟩ = some (.int .u16 x)) (first | go_keep | exact ⟨r2, q2⟩ | exact ⟨r1, q1⟩) ((go_at_call 11; (with_reducible refine (Apply_new HM1.out (i : Int) (t + 1) 3 9 x HI0.out HTB.out (by decide) HXB.out HN.out s2 s2 HX.out HZ.out).mono ?_); rintro e w' ⟨rfl, h', f'⟩; have HM := hid h'; have HF := hid (below_frm1 HF1.out f' HS.out.hb); have HR := hid (HR1.out.frm f' (Ne.symm HS.out.ne)); clear f' h' HM1; have q2 := HC.out _ HF.out; have r2 := row_cell HR.out i (by rw [List.length_set]; exact HIL.out); (rw [getD_set_eq HIL.out] at r2)))
      go_wp2_with ((go_at_call 10; (with_reducible refine (PGet_calls HM.out 9 (by decide) s2 HG.out).mono ?_); rintro e w' ⟨rfl, rfl⟩; skip))
      go_roundw
      case rel => exact ⟨k + 1, _, _, _, s2, by omega, rfl, by go_num, ⟨HM.out, HR.out, HF.out, by rw [List.length_set]; exact HS.out.len, HG.out, tim_set HS.out.tim HIL.out hi1 hi4 HS.out.map.lc htk ht0, HS.out.ne, HS.out.hb, HS.out.hg, hs20⟩⟩
      case measure => simp [intOf]; omega
    · go_wp2
      go_ret
      exact ⟨rfl, hS.bel⟩
end Go.Proofs.Ytaeonidjfmlbiaa
