/- Whether an entry stands ahead of another one. -/
import Derived.Test.YtipalebaaejfjaaDoorMsgTxt
import Derived.Deep.QuietTactic
import Derived.Deep.RegionHeld3
namespace Go.Proofs.YtipalebaaejfjaaDoor
open Go.RowKit Go.ChangeShapes
set_option linter.unusedVariables false
set_option linter.unusedSimpArgs false
theorem two_boxes0 (w : World) (P Q : List Value) (S T : Nat) : Blk ((w.alloc (.cells P.toArray S)).alloc (.cells Q.toArray T)) (w.heap.size + 1) Q T := by
  have := Blk.new (w.alloc (.cells P.toArray S)) Q T
  rwa [World.size_alloc] at this
set_option maxRecDepth 100000
/-- Numbers that a request can bear. -/
structure EnB (e : En) : Prop where
  sv : 0 ≤ e.s ∧ 0 ≤ e.v
  c : TxB e.c
  t : TxB e.t
  k : TxB e.k
  y : TxB e.y
  x : TxB e.x
def txtB (e : En) : ByteArray := textB e.c e.t e.k e.y e.x
/-- Does an entry stand ahead of another one? -/
def lessB (a b : En) : Bool := decide (a.s < b.s) || (a.s == b.s && Op.bytesLess (txtB a).toList (txtB b).toList)
set_option maxHeartbeats 16000000 in
theorem less_calls (w : World) (htab : Tab w) (a b : En) (ha : EnB a) (hb : EnB b) :
    Calls Tryd.prog 43 #[.agg #[.int .u32 a.s, .int .u32 a.v, .int .u8 a.c, .int .u32 a.t, .int .u8 a.k, .int .u8 a.y, .int .u16 a.x], .agg #[.int .u32 b.s, .int .u32 b.v, .int .u8 b.c, .int .u32 b.t, .int .u8 b.k, .int .u8 b.y, .int .u16 b.x]] w fun e w' => e = .returned (.bool (lessB a b)) ∧ Frm (fun _ => False) w w' := by
  obtain ⟨xs, xv, xc, xt, xk, xy, xx⟩ := a
  obtain ⟨ys, yv, yc, yt, yk, yy, yx⟩ := b
  have HA := hid ha; have HB := hid hb
  obtain ⟨ta, hta⟩ : ∃ ta, textB xc xt xk xy xx = ta := ⟨_, rfl⟩
  obtain ⟨tb, htb⟩ : ∃ tb, textB yc yt yk yy yx = tb := ⟨_, rfl⟩
  have HTA := hid (fun (w' : World) (h : Tab w') => hta ▸ Text_calls w' h xc xt xk xy xx HA.out.c HA.out.t HA.out.k HA.out.y HA.out.x)
  have HTC := hid (fun (w' : World) (h : Tab w') => htb ▸ Text_calls w' h yc yt yk yy yx HB.out.c HB.out.t HB.out.k HB.out.y HB.out.x)
  obtain ⟨z, hz⟩ : ∃ z, lessB ⟨xs, xv, xc, xt, xk, xy, xx⟩ ⟨ys, yv, yc, yt, yk, yy, yx⟩ = z := ⟨_, rfl⟩
  have HZ := hid (show (decide (xs < ys) || (xs == ys && Op.bytesLess ta.toList tb.toList)) = z by rw [← hz, ← hta, ← htb]; rfl)
  rw [hz]
  have HTB := hid htab
  clear ha hb hta htb hz htab
  go_enter Tryd.func43, Tryd.ntmps43
  go_wp2_with fail
  have HXA := hid ((Blk.new w [.int .u32 xs, .int .u32 xv, .int .u8 xc, .int .u32 xt, .int .u8 xk, .int .u8 xy, .int .u16 xx] TEn).frm (dbox _ (.cells #[.int .u32 ys, .int .u32 yv, .int .u8 yc, .int .u32 yt, .int .u8 yk, .int .u8 yy, .int .u16 yx] TEn)) (fun h => h))
  have HYB := hid (two_boxes0 w [.int .u32 xs, .int .u32 xv, .int .u8 xc, .int .u32 xt, .int .u8 xk, .int .u8 xy, .int .u16 xx] [.int .u32 ys, .int .u32 yv, .int .u8 yc, .int .u32 yt, .int .u8 yk, .int .u8 yy, .int .u16 yx] TEn TEn)
  have HFm := hid ((dbox w (.cells #[.int .u32 xs, .int .u32 xv, .int .u8 xc, .int .u32 xt, .int .u8 xk, .int .u8 xy, .int .u16 xx] TEn)).trans (dbox _ (.cells #[.int .u32 ys, .int .u32 yv, .int .u8 yc, .int .u32 yt, .int .u8 yk, .int .u8 yy, .int .u16 yx] TEn)))
  generalize (w.alloc (.cells #[.int .u32 xs, .int .u32 xv, .int .u8 xc, .int .u32 xt, .int .u8 xk, .int .u8 xy, .int .u16 xx] TEn)).alloc (.cells #[.int .u32 ys, .int .u32 yv, .int .u8 yc, .int .u32 yt, .int .u8 yk, .int .u8 yy, .int .u16 yx] TEn) = w2 at *
  generalize w.heap.size + 1 = bb at *
  generalize w.heap.size = ab at *
  have p0 := HXA.out.cell 0; have p1 := HXA.out.cell 1; have p2 := HXA.out.cell 2; have p3 := HXA.out.cell 3; have p4 := HXA.out.cell 4; have p5 := HXA.out.cell 5; have p6 := HXA.out.cell 6
  have r0 := HYB.out.cell 0; have r1 := HYB.out.cell 1; have r2 := HYB.out.cell 2; have r3 := HYB.out.cell 3; have r4 := HYB.out.cell 4; have r5 := HYB.out.cell 5; have r6 := HYB.out.cell 6
  (simp only [List.getElem?_cons_succ, List.getElem?_cons_zero] at p0 p1 p2 p3 p4 p5 p6 r0 r1 r2 r3 r4 r5 r6)
  by_cases q1 : xs < ys
  · have HT := hid (show true = z by rw [← HZ.out, decide_eq_true q1]; rfl)
    refine wp_region_held_drew (S := fun wx => wx.cell? ⟨ab, 0, none⟩ = some (.int .u32 xs) ∧ wx.cell? ⟨bb, 0, none⟩ = some (.int .u32 ys)) (by kernel_rfl) ?_ (fun hHeld => ?_)
    · exact ⟨p0, r0⟩
    refine wpAnyH_take (i := 0) (oi := ⟨some 5, _, _, _, _, _⟩) (v := ?v1) rfl (by kernel_rfl) (by kernel_rfl) (by kernel_rfl) (fun _ _ _ h => h) (Or.inl ⟨by rfl, ?y1⟩) (by assumption) ?r1
    case y1 => (intro wx hSx; (try dsimp only at hSx); go_simp; (try with_reducible rfl))
    try simp only [Act.put, List.setIfInBounds_toArray, List.set_cons_zero, List.set_cons_succ]
    refine wpAnyH_take (i := 1) (oi := ⟨some 6, _, _, _, _, _⟩) (v := ?v2) rfl (by kernel_rfl) (by kernel_rfl) (by kernel_rfl) (fun _ _ _ h => h) (Or.inl ⟨by rfl, ?y2⟩) (by assumption) ?r2
    case y2 => (intro wx hSx; (try dsimp only at hSx); go_simp; (try with_reducible rfl))
    try simp only [Act.put, List.setIfInBounds_toArray, List.set_cons_zero, List.set_cons_succ]
    refine wpAnyH_take (i := 2) (oi := ⟨some 7, _, _, _, _, _⟩) (v := ?v3) rfl (by kernel_rfl) (by kernel_rfl) (by kernel_rfl) (fun _ _ _ h => h) (Or.inl ⟨by rfl, ?y3⟩) (by assumption) ?r3
    case y3 => (intro wx hSx; (try dsimp only at hSx); go_simp; (try with_reducible rfl))
    try simp only [Act.put, List.setIfInBounds_toArray, List.set_cons_zero, List.set_cons_succ]
    refine wpAnyH_take (i := 3) (oi := ⟨some 8, _, _, _, _, _⟩) (v := ?v4) rfl (by kernel_rfl) (by kernel_rfl) (by kernel_rfl) (fun _ _ _ h => h) (Or.inl ⟨by rfl, ?y4⟩) (by assumption) ?r4
    case y4 => (intro wx hSx; (try dsimp only at hSx); go_simp; (try with_reducible rfl))
    try simp only [Act.put, List.setIfInBounds_toArray, List.set_cons_zero, List.set_cons_succ]
    refine wpAnyH_take (i := 4) (oi := ⟨some 9, _, _, _, _, _⟩) (v := ?v5) rfl (by kernel_rfl) (by kernel_rfl) (by kernel_rfl) (fun _ _ _ h => h) (Or.inl ⟨by rfl, ?y5⟩) (by assumption) ?r5
    case y5 => (intro wx hSx; (try dsimp only at hSx); go_simp; (try with_reducible rfl))
    try simp only [Act.put, List.setIfInBounds_toArray, List.set_cons_zero, List.set_cons_succ]
    refine wpAnyH_take (i := 5) (oi := ⟨some 10, _, _, _, _, _⟩) (v := ?v6) rfl (by kernel_rfl) (by kernel_rfl) (by kernel_rfl) (fun _ _ _ h => h) (Or.inl ⟨by rfl, ?y6⟩) (by assumption) ?r6
    case y6 => (intro wx hSx; (try dsimp only at hSx); go_simp; (try with_reducible rfl))
    try simp only [Act.put, List.setIfInBounds_toArray, List.set_cons_zero, List.set_cons_succ]
    refine wpAnyH_take (i := 6) (oi := ⟨some 11, _, _, _, _, _⟩) (v := undef) rfl (by kernel_rfl) (by kernel_rfl) (by kernel_rfl) (fun _ _ _ h => h) (Or.inr ⟨by rfl, rfl⟩) (by assumption) ?_
    try simp only [Act.put, List.setIfInBounds_toArray, List.set_cons_zero, List.set_cons_succ]
    refine wpAnyH_take (i := 7) (oi := ⟨some 12, _, _, _, _, _⟩) (v := undef) rfl (by kernel_rfl) (by kernel_rfl) (by kernel_rfl) (fun _ _ _ h => h) (Or.inr ⟨by rfl, rfl⟩) (by assumption) ?_
    try simp only [Act.put, List.setIfInBounds_toArray, List.set_cons_zero, List.set_cons_succ]
    refine wpAnyH_take (i := 8) (oi := ⟨some 13, _, _, _, _, _⟩) (v := undef) rfl (by kernel_rfl) (by kernel_rfl) (by kernel_rfl) (fun _ _ _ h => h) (Or.inr ⟨by rfl, rfl⟩) (by assumption) ?_
    try simp only [Act.put, List.setIfInBounds_toArray, List.set_cons_zero, List.set_cons_succ]
    refine wpAnyH_take (i := 9) (oi := ⟨some 14, _, _, _, _, _⟩) (v := undef) rfl (by kernel_rfl) (by kernel_rfl) (by kernel_rfl) (fun _ _ _ h => h) (Or.inr ⟨by rfl, rfl⟩) (by assumption) ?_
    try simp only [Act.put, List.setIfInBounds_toArray, List.set_cons_zero, List.set_cons_succ]
    refine wpAnyH_take (i := 10) (oi := ⟨some 15, _, _, _, _, _⟩) (v := undef) rfl (by kernel_rfl) (by kernel_rfl) (by kernel_rfl) (fun _ _ _ h => h) (Or.inr ⟨by rfl, rfl⟩) (by assumption) ?_
    try simp only [Act.put, List.setIfInBounds_toArray, List.set_cons_zero, List.set_cons_succ]
    refine wpAnyH_take (i := 11) (oi := ⟨some 16, _, _, _, _, _⟩) (v := undef) rfl (by kernel_rfl) (by kernel_rfl) (by kernel_rfl) (fun _ _ _ h => h) (Or.inr ⟨by rfl, rfl⟩) (by assumption) ?_
    try simp only [Act.put, List.setIfInBounds_toArray, List.set_cons_zero, List.set_cons_succ]
    refine wpAnyH_take (i := 12) (oi := ⟨some 17, _, _, _, _, _⟩) (v := undef) rfl (by kernel_rfl) (by kernel_rfl) (by kernel_rfl) (fun _ _ _ h => h) (Or.inr ⟨by rfl, rfl⟩) (by assumption) ?_
    try simp only [Act.put, List.setIfInBounds_toArray, List.set_cons_zero, List.set_cons_succ]
    refine wpAnyH_take (i := 13) (oi := ⟨some 18, _, _, _, _, _⟩) (v := undef) rfl (by kernel_rfl) (by kernel_rfl) (by kernel_rfl) (fun _ _ _ h => h) (Or.inr ⟨by rfl, rfl⟩) (by assumption) ?_
    try simp only [Act.put, List.setIfInBounds_toArray, List.set_cons_zero, List.set_cons_succ]
    refine wpAnyH_take (i := 14) (oi := ⟨some 19, _, _, _, _, _⟩) (v := undef) rfl (by kernel_rfl) (by kernel_rfl) (by kernel_rfl) (fun _ _ _ h => h) (Or.inr ⟨by rfl, rfl⟩) (by assumption) ?_
    try simp only [Act.put, List.setIfInBounds_toArray, List.set_cons_zero, List.set_cons_succ]
    refine wpAnyH_take (i := 15) (oi := ⟨some 20, _, _, _, _, _⟩) (v := undef) rfl (by kernel_rfl) (by kernel_rfl) (by kernel_rfl) (fun _ _ _ h => h) (Or.inr ⟨by rfl, rfl⟩) (by assumption) ?_
    try simp only [Act.put, List.setIfInBounds_toArray, List.set_cons_zero, List.set_cons_succ]
    refine wpAnyH_take (i := 16) (oi := ⟨some 21, _, _, _, _, _⟩) (v := undef) rfl (by kernel_rfl) (by kernel_rfl) (by kernel_rfl) (fun _ _ _ h => h) (Or.inr ⟨by rfl, rfl⟩) (by assumption) ?_
    try simp only [Act.put, List.setIfInBounds_toArray, List.set_cons_zero, List.set_cons_succ]
    refine wpAnyH_take (i := 17) (oi := ⟨some 22, _, _, _, _, _⟩) (v := undef) rfl (by kernel_rfl) (by kernel_rfl) (by kernel_rfl) (fun _ _ _ h => h) (Or.inr ⟨by rfl, rfl⟩) (by assumption) ?_
    try simp only [Act.put, List.setIfInBounds_toArray, List.set_cons_zero, List.set_cons_succ]
    refine wpAnyH_take (i := 18) (oi := ⟨some 23, _, _, _, _, _⟩) (v := undef) rfl (by kernel_rfl) (by kernel_rfl) (by kernel_rfl) (fun _ _ _ h => h) (Or.inr ⟨by rfl, rfl⟩) (by assumption) ?_
    try simp only [Act.put, List.setIfInBounds_toArray, List.set_cons_zero, List.set_cons_succ]
    refine wpAnyH_take (i := 19) (oi := ⟨some 24, _, _, _, _, _⟩) (v := undef) rfl (by kernel_rfl) (by kernel_rfl) (by kernel_rfl) (fun _ _ _ h => h) (Or.inr ⟨by rfl, rfl⟩) (by assumption) ?_
    try simp only [Act.put, List.setIfInBounds_toArray, List.set_cons_zero, List.set_cons_succ]
    refine wpAnyH_take (i := 20) (oi := ⟨some 25, _, _, _, _, _⟩) (v := ?v7) rfl (by kernel_rfl) (by kernel_rfl) (by kernel_rfl) (fun _ _ _ h => h) (Or.inl ⟨by rfl, ?y7⟩) (by assumption) ?r7
    case y7 => (intro wx hSx; (try dsimp only at hSx); go_simp; (try with_reducible rfl))
    try simp only [Act.put, List.setIfInBounds_toArray, List.set_cons_zero, List.set_cons_succ]
    refine wpAnyH_take (i := 21) (oi := ⟨some 4, _, _, _, _, _⟩) (v := ?v8) rfl (by kernel_rfl) (by kernel_rfl) (by kernel_rfl) (fun _ _ _ h => h) (Or.inl ⟨by rfl, ?y8⟩) (by assumption) ?r8
    case y8 => (intro wx hSx; (try dsimp only at hSx); go_simp; (try with_reducible rfl))
    try simp only [Act.put, List.setIfInBounds_toArray, List.set_cons_zero, List.set_cons_succ]
    refine wpAnyH_done (by kernel_rfl) ?_ _
    go_wp2
    go_ret
    exact ⟨ret_bool HT.out, HFm.out.drew⟩
  · by_cases q2 : xs = ys
    · have e1 : (xs == ys) = true := beq_iff_eq.2 q2
      have HT := hid (show Op.bytesLess ta.toList tb.toList = z by rw [← HZ.out, decide_eq_false q1, e1]; rfl)
      have HTw := hid (HTB.out.frm (HFm.out.trans (frm_drew w2)))
      have HXd := hid HXA.out.drew; have HYd := hid HYB.out.drew; have HFd := hid HFm.out.drew
      subst q2
      clear HXA HYB HFm
      go_region_held3 (fun wx => wx.cell? ⟨ab, 0, none⟩ = some (.int .u32 xs) ∧ wx.cell? ⟨ab, 1, none⟩ = some (.int .u32 xv) ∧ wx.cell? ⟨ab, 2, none⟩ = some (.int .u8 xc) ∧ wx.cell? ⟨ab, 3, none⟩ = some (.int .u32 xt) ∧ wx.cell? ⟨ab, 4, none⟩ = some (.int .u8 xk) ∧ wx.cell? ⟨ab, 5, none⟩ = some (.int .u8 xy) ∧ wx.cell? ⟨ab, 6, none⟩ = some (.int .u16 xx) ∧ wx.cell? ⟨bb, 0, none⟩ = some (.int .u32 xs) ∧ wx.cell? ⟨bb, 1, none⟩ = some (.int .u32 yv) ∧ wx.cell? ⟨bb, 2, none⟩ = some (.int .u8 yc) ∧ wx.cell? ⟨bb, 3, none⟩ = some (.int .u32 yt) ∧ wx.cell? ⟨bb, 4, none⟩ = some (.int .u8 yk) ∧ wx.cell? ⟨bb, 5, none⟩ = some (.int .u8 yy) ∧ wx.cell? ⟨bb, 6, none⟩ = some (.int .u16 yx)) (first | go_keep | exact ⟨HXd.out.cell 0, HXd.out.cell 1, HXd.out.cell 2, HXd.out.cell 3, HXd.out.cell 4, HXd.out.cell 5, HXd.out.cell 6, HYd.out.cell 0, HYd.out.cell 1, HYd.out.cell 2, HYd.out.cell 3, HYd.out.cell 4, HYd.out.cell 5, HYd.out.cell 6⟩) (first
        | (go_at_call 48; (with_reducible refine (HTA.out _ HTw.out).mono ?_); rintro e w4 ⟨rfl, f'⟩; have HTw_ := hid (HTw.out.frm f'); have HXd_ := hid (HXd.out.frm f' (fun h => h)); have HYd_ := hid (HYd.out.frm f' (fun h => h)); have HFd_ := hid (HFd.out.trans f'); clear HTw HXd HYd HFd f'; have HTw := HTw_; have HXd := HXd_; have HYd := HYd_; have HFd := HFd_; clear HTw_ HXd_ HYd_ HFd_)
        | (go_at_call 48; (with_reducible refine (HTC.out _ HTw.out).mono ?_); rintro e w4 ⟨rfl, f'⟩; have HTw_ := hid (HTw.out.frm f'); have HXd_ := hid (HXd.out.frm f' (fun h => h)); have HYd_ := hid (HYd.out.frm f' (fun h => h)); have HFd_ := hid (HFd.out.trans f'); clear HTw HXd HYd HFd f'; have HTw := HTw_; have HXd := HXd_; have HYd := HYd_; have HFd := HFd_; clear HTw_ HXd_ HYd_ HFd_))
      go_wp2
      go_ret
      exact ⟨ret_bool HT.out, HFd.out⟩
    · have e1 : (xs == ys) = false := beq_eq_false_iff_ne.2 q2
      have HT := hid (show false = z by rw [← HZ.out, decide_eq_false q1, e1]; rfl)
      go_quiet (fail)
      go_wp2
      go_ret
      exact ⟨ret_bool HT.out, HFm.out.drewN _⟩
end Go.Proofs.YtipalebaaejfjaaDoor
