/- Entries: whether they may be, and stand in order. -/
import Derived.Test.YtipalebaaejfjaaDoorDcDef
namespace Go.Proofs.YtipalebaaejfjaaDoor
open Go.RowKit Go.ChangeShapes
set_option linter.unusedVariables false
set_option linter.unusedSimpArgs false
set_option maxRecDepth 100000
theorem all_take {α : Type} (p : α → Bool) {l : List α} {j : Nat} {x : α} (hx : l[j]? = some x) : (l.take (j + 1)).all p = ((l.take j).all p && p x) := by
  rw [List.take_add_one, hx, List.all_append]; simp
theorem ord_take (ah : En → En → Bool) : ∀ (l : List En) (j : Nat) (y x : En), l[j]? = some y → l[j + 1]? = some x → ordB ah (l.take (j + 2)) = (ordB ah (l.take (j + 1)) && ah y x)
  | [], _, _, _, h, _ => by simp at h
  | [a], j, y, x, _, h2 => by cases j <;> simp at h2
  | a :: b :: l, 0, y, x, h1, h2 => by
    simp at h1 h2
    subst h1 h2
    simp [ordB]
  | a :: b :: l, j + 1, y, x, h1, h2 => by
    have ih := ord_take ah (b :: l) j y x h1 h2
    show ordB ah (a :: b :: l.take (j + 1)) = (ordB ah (a :: b :: l.take j) && ah y x)
    have e1 : (b :: l).take (j + 2) = b :: l.take (j + 1) := rfl
    have e2 : (b :: l).take (j + 1) = b :: l.take j := rfl
    rw [e1, e2] at ih
    rw [ordB, ordB, ih, Bool.and_assoc]
theorem ord_down (ah : En → En → Bool) : ∀ (l : List En) (k : Nat), ordB ah l = true → ordB ah (l.take k) = true
  | [], k, _ => by simp [ordB]
  | [a], 0, _ => rfl
  | [a], k + 1, _ => by simp [ordB]
  | a :: b :: l, 0, _ => rfl
  | a :: b :: l, 1, _ => rfl
  | a :: b :: l, k + 2, h => by
    rw [ordB, Bool.and_eq_true] at h
    have ih := ord_down ah (b :: l) (k + 1) h.2
    show ordB ah (a :: b :: l.take k) = true
    rw [ordB, h.1, Bool.true_and]
    exact ih
def entsB (ah : En → En → Bool) (l : List En) : Bool := l.all enB && ordB ah l && decide (l.length ≤ 40)
theorem ents_bad {ah : En → En → Bool} {l : List En} {j : Nat} {x : En} (hx : l[j]? = some x) (hb : enB x = false) : entsB ah l = false := by
  have : l.all enB = false := by
    refine Bool.eq_false_iff.2 fun h => ?_
    have := List.all_eq_true.1 h x (List.mem_of_getElem? hx)
    rw [hb] at this; exact absurd this (by decide)
  unfold entsB; rw [this]; rfl
theorem ents_ord {ah : En → En → Bool} {l : List En} {j : Nat} {y x : En} (hy : l[j]? = some y) (hx : l[j + 1]? = some x) (hb : ah y x = false) : entsB ah l = false := by
  have : ordB ah l = false := by
    refine Bool.eq_false_iff.2 fun h => ?_
    have h1 := ord_down ah l (j + 2) h
    rw [ord_take ah l j y x hy hx, hb, Bool.and_false] at h1
    exact absurd h1 (by decide)
  unfold entsB; rw [this, Bool.and_false]; rfl
/-- So far they may be. -/
structure EntI (ah : En → En → Bool) (l : List En) (j : Nat) : Prop where
  all : (l.take j).all enB = true
  ord : ordB ah (l.take j) = true
theorem EntI.start (ah : En → En → Bool) (l : List En) : EntI ah l 0 := ⟨rfl, rfl⟩
theorem EntI.first {ah : En → En → Bool} {l : List En} {x : En} (hx : l[0]? = some x) (hb : enB x = true) : EntI ah l 1 := by
  refine ⟨by rw [all_take enB hx, hb]; rfl, ?_⟩
  cases l with
  | nil => rfl
  | cons a l => rfl
theorem EntI.step {ah : En → En → Bool} {l : List En} {j : Nat} {y x : En} (h : EntI ah l (j + 1)) (hy : l[j]? = some y) (hx : l[j + 1]? = some x) (hb : enB x = true) (ha : ah y x = true) : EntI ah l (j + 2) :=
  ⟨by rw [all_take enB hx, h.all, hb]; rfl, by rw [ord_take ah l j y x hy hx, h.ord, ha]; rfl⟩
theorem EntI.done {ah : En → En → Bool} {l : List En} (h : EntI ah l l.length) : entsB ah l = decide (l.length ≤ 40) := by
  have h1 := h.all; have h2 := h.ord
  rw [List.take_length] at h1 h2
  unfold entsB; rw [h1, h2]; rfl
set_option maxHeartbeats 32000000 in
theorem Ent_calls {w : World} {a : Option Addr} {cap : Nat} {l : List En} (h : IsRow 7 enC w a cap l) (hb : ∀ x ∈ l, 0 ≤ x.s ∧ 0 ≤ x.v) (z : Bool) (hz : entsB seqB l = z) :
    Calls Tryd.prog 41 #[.slice a l.length cap, .func (.func 42) #[] #[]] w fun e w' => e = .returned (.bool z) ∧ Frm (fun _ => False) w w' := by
  obtain ⟨L, hL⟩ : ∃ L, l.length = L := ⟨_, rfl⟩
  have HL := hid hL; have HZ := hid hz; have HRW0 := hid h; have HB := hid hb
  have hlc : L ≤ cap := hL ▸ h.le
  have hcs := h.small
  rw [hL]
  clear h hz hL hb
  go_enter Tryd.func41, Tryd.ntmps41
  go_wp2
  go_loopw [9] (fun jv wr => ∃ j : Nat, j ≤ L ∧ jv = .int .i64 j ∧ EntI seqB l j ∧ Frm (fun _ => False) w wr) (fun jv _ => L - (intOf jv).toNat)
  case atStart => exact ⟨0, by omega, rfl, EntI.start _ _, Frm.refl _ _⟩
  case round =>
    obtain ⟨j, hj, rfl, hi, hf⟩ := hrel
    have HI := hid hi; have HFw := hid hf
    clear hi hf
    by_cases hlt : j < L
    · obtain ⟨g, o, rfl, hg, hc⟩ := (HRW0.out.quiet HFw.out).at_ (by rw [HL.out]; omega)
      obtain ⟨⟨xs, xv, xc, xt, xk, xy, xx⟩, hx⟩ : ∃ x, l[j]? = some x := ⟨_, List.getElem?_eq_getElem (by rw [HL.out]; exact hlt)⟩
      have c0 := hc j _ hx 0 (by decide); have c1 := hc j _ hx 1 (by decide); have c2 := hc j _ hx 2 (by decide); have c3 := hc j _ hx 3 (by decide); have c4 := hc j _ hx 4 (by decide); have c5 := hc j _ hx 5 (by decide); have c6 := hc j _ hx 6 (by decide)
      simp only [enC, List.getElem?_cons_succ, List.getElem?_cons_zero, Nat.add_zero] at c0 c1 c2 c3 c4 c5 c6
      have HX := hid hx; have HLT := hid hlt
      obtain ⟨hs0, hv0⟩ : 0 ≤ xs ∧ 0 ≤ xv := HB.out _ (List.mem_of_getElem? hx)
      have hjl : (j : Int) < (L : Int) := by omega
      have hj0 : (0 : Int) ≤ (j : Int) := by omega
      clear hx hlt hj hc
      go_wp2_with fail
      have hfa : Frm (fun _ => False) wr (wr.alloc (.cells #[.int .u32 xs, .int .u32 xv, .int .u8 xc, .int .u32 xt, .int .u8 xk, .int .u8 xy, .int .u16 xx] TEn)).drew := (dbox _ _).trans (frm_drew _)
      have HF := hid (HFw.out.trans hfa); have HRW := hid ((HRW0.out.quiet HFw.out).quiet hfa)
      have HEB := hid (show Blk (wr.alloc (.cells #[.int .u32 xs, .int .u32 xv, .int .u8 xc, .int .u32 xt, .int .u8 xk, .int .u8 xy, .int .u16 xx] TEn)).drew wr.heap.size (enC ⟨xs, xv, xc, xt, xk, xy, xx⟩) TEn from (Blk.new wr (enC ⟨xs, xv, xc, xt, xk, xy, xx⟩) TEn).frm (frm_drew _) (fun h => h))
      obtain ⟨w3, hw3⟩ : ∃ w3, wr.alloc (.cells #[.int .u32 xs, .int .u32 xv, .int .u8 xc, .int .u32 xt, .int .u8 xk, .int .u8 xy, .int .u16 xx] TEn) = w3 := ⟨_, rfl⟩
      obtain ⟨eb, heb⟩ : ∃ eb, wr.heap.size = eb := ⟨_, rfl⟩
      rw [hw3, heb]
      rw [hw3] at HF HRW HEB
      rw [heb] at HEB
      clear hw3 heb hfa c0 c1 c2 c3 c4 c5 c6
      by_cases p1 : xs = 0
      · have HBAD := hid (ents_bad (ah := seqB) HX.out (by unfold enB; rw [decide_eq_false (fun h => h.1 p1)]; rfl))
        have e1 : (xs == 0) = true := beq_iff_eq.2 p1
        subst p1
        refine wp_region_held_drew (S := fun wx => wx.cell? ⟨eb, 0, none⟩ = some (.int .u32 0) ∧ wx.cell? ⟨eb, 1, none⟩ = some (.int .u32 xv) ∧ wx.cell? ⟨eb, 2, none⟩ = some (.int .u8 xc) ∧ wx.cell? ⟨eb, 3, none⟩ = some (.int .u32 xt) ∧ wx.cell? ⟨eb, 4, none⟩ = some (.int .u8 xk) ∧ wx.cell? ⟨eb, 5, none⟩ = some (.int .u8 xy) ∧ wx.cell? ⟨eb, 6, none⟩ = some (.int .u16 xx)) (by kernel_rfl) ?_ (fun hHeld => ?_)
        · exact ⟨HEB.out.cell 0, HEB.out.cell 1, HEB.out.cell 2, HEB.out.cell 3, HEB.out.cell 4, HEB.out.cell 5, HEB.out.cell 6⟩
        refine wpAnyH_take (i := 0) (oi := ⟨some 14, _, _, _, _, _⟩) (v := ?v1) rfl (by kernel_rfl) (by kernel_rfl) (by kernel_rfl) (fun _ _ _ h => h) (Or.inl ⟨by rfl, ?y1⟩) (by assumption) ?r1
        case y1 => (intro wx hSx; (try dsimp only at hSx); go_simp; (try with_reducible rfl))
        try simp only [Act.put, List.setIfInBounds_toArray, List.set_cons_zero, List.set_cons_succ]
        refine wpAnyH_take (i := 1) (oi := ⟨some 15, _, _, _, _, _⟩) (v := ?v2) rfl (by kernel_rfl) (by kernel_rfl) (by kernel_rfl) (fun _ _ _ h => h) (Or.inl ⟨by rfl, ?y2⟩) (by assumption) ?r2
        case y2 => (intro wx hSx; (try dsimp only at hSx); go_simp; (try with_reducible rfl))
        try simp only [Act.put, List.setIfInBounds_toArray, List.set_cons_zero, List.set_cons_succ]
        refine wpAnyH_take (i := 2) (oi := ⟨some 16, _, _, _, _, _⟩) (v := ?v3) rfl (by kernel_rfl) (by kernel_rfl) (by kernel_rfl) (fun _ _ _ h => h) (Or.inl ⟨by rfl, ?y3⟩) (by assumption) ?r3
        case y3 => (intro wx hSx; (try dsimp only at hSx); go_simp; (try with_reducible rfl))
        try simp only [Act.put, List.setIfInBounds_toArray, List.set_cons_zero, List.set_cons_succ]
        refine wpAnyH_take (i := 3) (oi := ⟨some 17, _, _, _, _, _⟩) (v := ?v4) rfl (by kernel_rfl) (by kernel_rfl) (by kernel_rfl) (fun _ _ _ h => h) (Or.inl ⟨by rfl, ?y4⟩) (by assumption) ?r4
        case y4 => (intro wx hSx; (try dsimp only at hSx); go_simp; (try with_reducible rfl))
        try simp only [Act.put, List.setIfInBounds_toArray, List.set_cons_zero, List.set_cons_succ]
        refine wpAnyH_take (i := 4) (oi := ⟨some 18, _, _, _, _, _⟩) (v := undef) rfl (by kernel_rfl) (by kernel_rfl) (by kernel_rfl) (fun _ _ _ h => h) (Or.inr ⟨by rfl, rfl⟩) (by assumption) ?_
        try simp only [Act.put, List.setIfInBounds_toArray, List.set_cons_zero, List.set_cons_succ]
        refine wpAnyH_take (i := 5) (oi := ⟨some 19, _, _, _, _, _⟩) (v := undef) rfl (by kernel_rfl) (by kernel_rfl) (by kernel_rfl) (fun _ _ _ h => h) (Or.inr ⟨by rfl, rfl⟩) (by assumption) ?_
        try simp only [Act.put, List.setIfInBounds_toArray, List.set_cons_zero, List.set_cons_succ]
        refine wpAnyH_take (i := 6) (oi := ⟨some 20, _, _, _, _, _⟩) (v := undef) rfl (by kernel_rfl) (by kernel_rfl) (by kernel_rfl) (fun _ _ _ h => h) (Or.inr ⟨by rfl, rfl⟩) (by assumption) ?_
        try simp only [Act.put, List.setIfInBounds_toArray, List.set_cons_zero, List.set_cons_succ]
        refine wpAnyH_take (i := 7) (oi := ⟨some 21, _, _, _, _, _⟩) (v := ?v5) rfl (by kernel_rfl) (by kernel_rfl) (by kernel_rfl) (fun _ _ _ h => h) (Or.inl ⟨by rfl, ?y5⟩) (by assumption) ?r5
        case y5 => (intro wx hSx; (try dsimp only at hSx); go_simp; (try with_reducible rfl))
        try simp only [Act.put, List.setIfInBounds_toArray, List.set_cons_zero, List.set_cons_succ]
        refine wpAnyH_take (i := 8) (oi := ⟨some 22, _, _, _, _, _⟩) (v := ?v6) rfl (by kernel_rfl) (by kernel_rfl) (by kernel_rfl) (fun _ _ _ h => h) (Or.inl ⟨by rfl, ?y6⟩) (by assumption) ?r6
        case y6 => (intro wx hSx; (try dsimp only at hSx); go_simp; (try with_reducible rfl))
        try simp only [Act.put, List.setIfInBounds_toArray, List.set_cons_zero, List.set_cons_succ]
        refine wpAnyH_take (i := 9) (oi := ⟨some 23, _, _, _, _, _⟩) (v := undef) rfl (by kernel_rfl) (by kernel_rfl) (by kernel_rfl) (fun _ _ _ h => h) (Or.inr ⟨by rfl, rfl⟩) (by assumption) ?_
        try simp only [Act.put, List.setIfInBounds_toArray, List.set_cons_zero, List.set_cons_succ]
        refine wpAnyH_take (i := 10) (oi := ⟨some 24, _, _, _, _, _⟩) (v := undef) rfl (by kernel_rfl) (by kernel_rfl) (by kernel_rfl) (fun _ _ _ h => h) (Or.inr ⟨by rfl, rfl⟩) (by assumption) ?_
        try simp only [Act.put, List.setIfInBounds_toArray, List.set_cons_zero, List.set_cons_succ]
        refine wpAnyH_take (i := 11) (oi := ⟨some 25, _, _, _, _, _⟩) (v := undef) rfl (by kernel_rfl) (by kernel_rfl) (by kernel_rfl) (fun _ _ _ h => h) (Or.inr ⟨by rfl, rfl⟩) (by assumption) ?_
        try simp only [Act.put, List.setIfInBounds_toArray, List.set_cons_zero, List.set_cons_succ]
        refine wpAnyH_take (i := 12) (oi := ⟨some 26, _, _, _, _, _⟩) (v := ?v7) rfl (by kernel_rfl) (by kernel_rfl) (by kernel_rfl) (fun _ _ _ h => h) (Or.inl ⟨by rfl, ?y7⟩) (by assumption) ?r7
        case y7 => (intro wx hSx; (try dsimp only at hSx); go_simp; (try with_reducible rfl))
        try simp only [Act.put, List.setIfInBounds_toArray, List.set_cons_zero, List.set_cons_succ]
        refine wpAnyH_take (i := 13) (oi := ⟨some 27, _, _, _, _, _⟩) (v := ?v8) rfl (by kernel_rfl) (by kernel_rfl) (by kernel_rfl) (fun _ _ _ h => h) (Or.inl ⟨by rfl, ?y8⟩) (by assumption) ?r8
        case y8 => (intro wx hSx; (try dsimp only at hSx); go_simp; (try with_reducible rfl))
        try simp only [Act.put, List.setIfInBounds_toArray, List.set_cons_zero, List.set_cons_succ]
        refine wpAnyH_take (i := 14) (oi := ⟨some 28, _, _, _, _, _⟩) (v := undef) rfl (by kernel_rfl) (by kernel_rfl) (by kernel_rfl) (fun _ _ _ h => h) (Or.inr ⟨by rfl, rfl⟩) (by assumption) ?_
        try simp only [Act.put, List.setIfInBounds_toArray, List.set_cons_zero, List.set_cons_succ]
        refine wpAnyH_take (i := 15) (oi := ⟨some 29, _, _, _, _, _⟩) (v := undef) rfl (by kernel_rfl) (by kernel_rfl) (by kernel_rfl) (fun _ _ _ h => h) (Or.inr ⟨by rfl, rfl⟩) (by assumption) ?_
        try simp only [Act.put, List.setIfInBounds_toArray, List.set_cons_zero, List.set_cons_succ]
        refine wpAnyH_take (i := 16) (oi := ⟨some 30, _, _, _, _, _⟩) (v := undef) rfl (by kernel_rfl) (by kernel_rfl) (by kernel_rfl) (fun _ _ _ h => h) (Or.inr ⟨by rfl, rfl⟩) (by assumption) ?_
        try simp only [Act.put, List.setIfInBounds_toArray, List.set_cons_zero, List.set_cons_succ]
        refine wpAnyH_take (i := 17) (oi := ⟨some 31, _, _, _, _, _⟩) (v := undef) rfl (by kernel_rfl) (by kernel_rfl) (by kernel_rfl) (fun _ _ _ h => h) (Or.inr ⟨by rfl, rfl⟩) (by assumption) ?_
        try simp only [Act.put, List.setIfInBounds_toArray, List.set_cons_zero, List.set_cons_succ]
        refine wpAnyH_take (i := 18) (oi := ⟨some 32, _, _, _, _, _⟩) (v := ?v9) rfl (by kernel_rfl) (by kernel_rfl) (by kernel_rfl) (fun _ _ _ h => h) (Or.inl ⟨by rfl, ?y9⟩) (by assumption) ?r9
        case y9 => (intro wx hSx; (try dsimp only at hSx); go_simp; (try with_reducible rfl))
        try simp only [Act.put, List.setIfInBounds_toArray, List.set_cons_zero, List.set_cons_succ]
        refine wpAnyH_take (i := 19) (oi := ⟨some 33, _, _, _, _, _⟩) (v := ?v10) rfl (by kernel_rfl) (by kernel_rfl) (by kernel_rfl) (fun _ _ _ h => h) (Or.inl ⟨by rfl, ?y10⟩) (by assumption) ?r10
        case y10 => (intro wx hSx; (try dsimp only at hSx); go_simp; (try with_reducible rfl))
        try simp only [Act.put, List.setIfInBounds_toArray, List.set_cons_zero, List.set_cons_succ]
        refine wpAnyH_take (i := 20) (oi := ⟨some 34, _, _, _, _, _⟩) (v := undef) rfl (by kernel_rfl) (by kernel_rfl) (by kernel_rfl) (fun _ _ _ h => h) (Or.inr ⟨by rfl, rfl⟩) (by assumption) ?_
        try simp only [Act.put, List.setIfInBounds_toArray, List.set_cons_zero, List.set_cons_succ]
        refine wpAnyH_take (i := 21) (oi := ⟨some 35, _, _, _, _, _⟩) (v := undef) rfl (by kernel_rfl) (by kernel_rfl) (by kernel_rfl) (fun _ _ _ h => h) (Or.inr ⟨by rfl, rfl⟩) (by assumption) ?_
        try simp only [Act.put, List.setIfInBounds_toArray, List.set_cons_zero, List.set_cons_succ]
        refine wpAnyH_take (i := 22) (oi := ⟨some 36, _, _, _, _, _⟩) (v := undef) rfl (by kernel_rfl) (by kernel_rfl) (by kernel_rfl) (fun _ _ _ h => h) (Or.inr ⟨by rfl, rfl⟩) (by assumption) ?_
        try simp only [Act.put, List.setIfInBounds_toArray, List.set_cons_zero, List.set_cons_succ]
        refine wpAnyH_take (i := 23) (oi := ⟨some 37, _, _, _, _, _⟩) (v := undef) rfl (by kernel_rfl) (by kernel_rfl) (by kernel_rfl) (fun _ _ _ h => h) (Or.inr ⟨by rfl, rfl⟩) (by assumption) ?_
        try simp only [Act.put, List.setIfInBounds_toArray, List.set_cons_zero, List.set_cons_succ]
        refine wpAnyH_take (i := 24) (oi := ⟨some 38, _, _, _, _, _⟩) (v := undef) rfl (by kernel_rfl) (by kernel_rfl) (by kernel_rfl) (fun _ _ _ h => h) (Or.inr ⟨by rfl, rfl⟩) (by assumption) ?_
        try simp only [Act.put, List.setIfInBounds_toArray, List.set_cons_zero, List.set_cons_succ]
        refine wpAnyH_take (i := 25) (oi := ⟨some 39, _, _, _, _, _⟩) (v := undef) rfl (by kernel_rfl) (by kernel_rfl) (by kernel_rfl) (fun _ _ _ h => h) (Or.inr ⟨by rfl, rfl⟩) (by assumption) ?_
        try simp only [Act.put, List.setIfInBounds_toArray, List.set_cons_zero, List.set_cons_succ]
        refine wpAnyH_take (i := 26) (oi := ⟨some 40, _, _, _, _, _⟩) (v := undef) rfl (by kernel_rfl) (by kernel_rfl) (by kernel_rfl) (fun _ _ _ h => h) (Or.inr ⟨by rfl, rfl⟩) (by assumption) ?_
        try simp only [Act.put, List.setIfInBounds_toArray, List.set_cons_zero, List.set_cons_succ]
        refine wpAnyH_take (i := 27) (oi := ⟨some 41, _, _, _, _, _⟩) (v := undef) rfl (by kernel_rfl) (by kernel_rfl) (by kernel_rfl) (fun _ _ _ h => h) (Or.inr ⟨by rfl, rfl⟩) (by assumption) ?_
        try simp only [Act.put, List.setIfInBounds_toArray, List.set_cons_zero, List.set_cons_succ]
        refine wpAnyH_take (i := 28) (oi := ⟨some 42, _, _, _, _, _⟩) (v := undef) rfl (by kernel_rfl) (by kernel_rfl) (by kernel_rfl) (fun _ _ _ h => h) (Or.inr ⟨by rfl, rfl⟩) (by assumption) ?_
        try simp only [Act.put, List.setIfInBounds_toArray, List.set_cons_zero, List.set_cons_succ]
        refine wpAnyH_take (i := 29) (oi := ⟨some 43, _, _, _, _, _⟩) (v := undef) rfl (by kernel_rfl) (by kernel_rfl) (by kernel_rfl) (fun _ _ _ h => h) (Or.inr ⟨by rfl, rfl⟩) (by assumption) ?_
        try simp only [Act.put, List.setIfInBounds_toArray, List.set_cons_zero, List.set_cons_succ]
        refine wpAnyH_take (i := 30) (oi := ⟨some 44, _, _, _, _, _⟩) (v := undef) rfl (by kernel_rfl) (by kernel_rfl) (by kernel_rfl) (fun _ _ _ h => h) (Or.inr ⟨by rfl, rfl⟩) (by assumption) ?_
        try simp only [Act.put, List.setIfInBounds_toArray, List.set_cons_zero, List.set_cons_succ]
        refine wpAnyH_take (i := 31) (oi := ⟨some 45, _, _, _, _, _⟩) (v := undef) rfl (by kernel_rfl) (by kernel_rfl) (by kernel_rfl) (fun _ _ _ h => h) (Or.inr ⟨by rfl, rfl⟩) (by assumption) ?_
        try simp only [Act.put, List.setIfInBounds_toArray, List.set_cons_zero, List.set_cons_succ]
        refine wpAnyH_take (i := 32) (oi := ⟨some 46, _, _, _, _, _⟩) (v := undef) rfl (by kernel_rfl) (by kernel_rfl) (by kernel_rfl) (fun _ _ _ h => h) (Or.inr ⟨by rfl, rfl⟩) (by assumption) ?_
        try simp only [Act.put, List.setIfInBounds_toArray, List.set_cons_zero, List.set_cons_succ]
        refine wpAnyH_take (i := 33) (oi := ⟨some 47, _, _, _, _, _⟩) (v := ?v11) rfl (by kernel_rfl) (by kernel_rfl) (by kernel_rfl) (fun _ _ _ h => h) (Or.inl ⟨by rfl, ?y11⟩) (by assumption) ?r11
        case y11 => (intro wx hSx; (try dsimp only at hSx); go_simp; (try with_reducible rfl))
        try simp only [Act.put, List.setIfInBounds_toArray, List.set_cons_zero, List.set_cons_succ]
        refine wpAnyH_done (by kernel_rfl) ?_ _
        go_wp2
        go_ret
        exact ⟨ret_bool (HBAD.out.symm.trans HZ.out), HF.out⟩
      · have e1 : (xs == 0) = false := beq_eq_false_iff_ne.2 p1
        by_cases p2 : 1073741824 < xs
        · have HBAD := hid (ents_bad (ah := seqB) HX.out (by unfold enB; rw [decide_eq_false (fun h => by have h3 : xs ≤ 1073741824 := h.2.1; omega)]; rfl))
          refine wp_region_held_drew (S := fun wx => wx.cell? ⟨eb, 0, none⟩ = some (.int .u32 xs) ∧ wx.cell? ⟨eb, 1, none⟩ = some (.int .u32 xv) ∧ wx.cell? ⟨eb, 2, none⟩ = some (.int .u8 xc) ∧ wx.cell? ⟨eb, 3, none⟩ = some (.int .u32 xt) ∧ wx.cell? ⟨eb, 4, none⟩ = some (.int .u8 xk) ∧ wx.cell? ⟨eb, 5, none⟩ = some (.int .u8 xy) ∧ wx.cell? ⟨eb, 6, none⟩ = some (.int .u16 xx)) (by kernel_rfl) ?_ (fun hHeld => ?_)
          · exact ⟨HEB.out.cell 0, HEB.out.cell 1, HEB.out.cell 2, HEB.out.cell 3, HEB.out.cell 4, HEB.out.cell 5, HEB.out.cell 6⟩
          refine wpAnyH_take (i := 0) (oi := ⟨some 14, _, _, _, _, _⟩) (v := ?v12) rfl (by kernel_rfl) (by kernel_rfl) (by kernel_rfl) (fun _ _ _ h => h) (Or.inl ⟨by rfl, ?y12⟩) (by assumption) ?r12
          case y12 => (intro wx hSx; (try dsimp only at hSx); go_simp; (try with_reducible rfl))
          try simp only [Act.put, List.setIfInBounds_toArray, List.set_cons_zero, List.set_cons_succ]
          refine wpAnyH_take (i := 1) (oi := ⟨some 15, _, _, _, _, _⟩) (v := ?v13) rfl (by kernel_rfl) (by kernel_rfl) (by kernel_rfl) (fun _ _ _ h => h) (Or.inl ⟨by rfl, ?y13⟩) (by assumption) ?r13
          case y13 => (intro wx hSx; (try dsimp only at hSx); go_simp; (try with_reducible rfl))
          try simp only [Act.put, List.setIfInBounds_toArray, List.set_cons_zero, List.set_cons_succ]
          refine wpAnyH_take (i := 2) (oi := ⟨some 16, _, _, _, _, _⟩) (v := ?v14) rfl (by kernel_rfl) (by kernel_rfl) (by kernel_rfl) (fun _ _ _ h => h) (Or.inl ⟨by rfl, ?y14⟩) (by assumption) ?r14
          case y14 => (intro wx hSx; (try dsimp only at hSx); go_simp; (try with_reducible rfl))
          try simp only [Act.put, List.setIfInBounds_toArray, List.set_cons_zero, List.set_cons_succ]
          refine wpAnyH_take (i := 3) (oi := ⟨some 17, _, _, _, _, _⟩) (v := ?v15) rfl (by kernel_rfl) (by kernel_rfl) (by kernel_rfl) (fun _ _ _ h => h) (Or.inl ⟨by rfl, ?y15⟩) (by assumption) ?r15
          case y15 => (intro wx hSx; (try dsimp only at hSx); go_simp; (try with_reducible rfl))
          try simp only [Act.put, List.setIfInBounds_toArray, List.set_cons_zero, List.set_cons_succ]
          refine wpAnyH_take (i := 4) (oi := ⟨some 18, _, _, _, _, _⟩) (v := ?v16) rfl (by kernel_rfl) (by kernel_rfl) (by kernel_rfl) (fun _ _ _ h => h) (Or.inl ⟨by rfl, ?y16⟩) (by assumption) ?r16
          case y16 => (intro wx hSx; (try dsimp only at hSx); go_simp; (try with_reducible rfl))
          try simp only [Act.put, List.setIfInBounds_toArray, List.set_cons_zero, List.set_cons_succ]
          refine wpAnyH_take (i := 5) (oi := ⟨some 19, _, _, _, _, _⟩) (v := ?v17) rfl (by kernel_rfl) (by kernel_rfl) (by kernel_rfl) (fun _ _ _ h => h) (Or.inl ⟨by rfl, ?y17⟩) (by assumption) ?r17
          case y17 => (intro wx hSx; (try dsimp only at hSx); go_simp; (try with_reducible rfl))
          try simp only [Act.put, List.setIfInBounds_toArray, List.set_cons_zero, List.set_cons_succ]
          refine wpAnyH_take (i := 6) (oi := ⟨some 20, _, _, _, _, _⟩) (v := ?v18) rfl (by kernel_rfl) (by kernel_rfl) (by kernel_rfl) (fun _ _ _ h => h) (Or.inl ⟨by rfl, ?y18⟩) (by assumption) ?r18
          case y18 => (intro wx hSx; (try dsimp only at hSx); go_simp; (try with_reducible rfl))
          try simp only [Act.put, List.setIfInBounds_toArray, List.set_cons_zero, List.set_cons_succ]
          refine wpAnyH_take (i := 7) (oi := ⟨some 21, _, _, _, _, _⟩) (v := ?v19) rfl (by kernel_rfl) (by kernel_rfl) (by kernel_rfl) (fun _ _ _ h => h) (Or.inl ⟨by rfl, ?y19⟩) (by assumption) ?r19
          case y19 => (intro wx hSx; (try dsimp only at hSx); go_simp; (try with_reducible rfl))
          try simp only [Act.put, List.setIfInBounds_toArray, List.set_cons_zero, List.set_cons_succ]
          refine wpAnyH_take (i := 8) (oi := ⟨some 22, _, _, _, _, _⟩) (v := ?v20) rfl (by kernel_rfl) (by kernel_rfl) (by kernel_rfl) (fun _ _ _ h => h) (Or.inl ⟨by rfl, ?y20⟩) (by assumption) ?r20
          case y20 => (intro wx hSx; (try dsimp only at hSx); go_simp; (try with_reducible rfl))
          try simp only [Act.put, List.setIfInBounds_toArray, List.set_cons_zero, List.set_cons_succ]
          refine wpAnyH_take (i := 9) (oi := ⟨some 23, _, _, _, _, _⟩) (v := undef) rfl (by kernel_rfl) (by kernel_rfl) (by kernel_rfl) (fun _ _ _ h => h) (Or.inr ⟨by rfl, rfl⟩) (by assumption) ?_
          try simp only [Act.put, List.setIfInBounds_toArray, List.set_cons_zero, List.set_cons_succ]
          refine wpAnyH_take (i := 10) (oi := ⟨some 24, _, _, _, _, _⟩) (v := undef) rfl (by kernel_rfl) (by kernel_rfl) (by kernel_rfl) (fun _ _ _ h => h) (Or.inr ⟨by rfl, rfl⟩) (by assumption) ?_
          try simp only [Act.put, List.setIfInBounds_toArray, List.set_cons_zero, List.set_cons_succ]
          refine wpAnyH_take (i := 11) (oi := ⟨some 25, _, _, _, _, _⟩) (v := undef) rfl (by kernel_rfl) (by kernel_rfl) (by kernel_rfl) (fun _ _ _ h => h) (Or.inr ⟨by rfl, rfl⟩) (by assumption) ?_
          try simp only [Act.put, List.setIfInBounds_toArray, List.set_cons_zero, List.set_cons_succ]
          refine wpAnyH_take (i := 12) (oi := ⟨some 26, _, _, _, _, _⟩) (v := ?v21) rfl (by kernel_rfl) (by kernel_rfl) (by kernel_rfl) (fun _ _ _ h => h) (Or.inl ⟨by rfl, ?y21⟩) (by assumption) ?r21
          case y21 => (intro wx hSx; (try dsimp only at hSx); go_simp; (try with_reducible rfl))
          try simp only [Act.put, List.setIfInBounds_toArray, List.set_cons_zero, List.set_cons_succ]
          refine wpAnyH_take (i := 13) (oi := ⟨some 27, _, _, _, _, _⟩) (v := ?v22) rfl (by kernel_rfl) (by kernel_rfl) (by kernel_rfl) (fun _ _ _ h => h) (Or.inl ⟨by rfl, ?y22⟩) (by assumption) ?r22
          case y22 => (intro wx hSx; (try dsimp only at hSx); go_simp; (try with_reducible rfl))
          try simp only [Act.put, List.setIfInBounds_toArray, List.set_cons_zero, List.set_cons_succ]
          refine wpAnyH_take (i := 14) (oi := ⟨some 28, _, _, _, _, _⟩) (v := undef) rfl (by kernel_rfl) (by kernel_rfl) (by kernel_rfl) (fun _ _ _ h => h) (Or.inr ⟨by rfl, rfl⟩) (by assumption) ?_
          try simp only [Act.put, List.setIfInBounds_toArray, List.set_cons_zero, List.set_cons_succ]
          refine wpAnyH_take (i := 15) (oi := ⟨some 29, _, _, _, _, _⟩) (v := undef) rfl (by kernel_rfl) (by kernel_rfl) (by kernel_rfl) (fun _ _ _ h => h) (Or.inr ⟨by rfl, rfl⟩) (by assumption) ?_
          try simp only [Act.put, List.setIfInBounds_toArray, List.set_cons_zero, List.set_cons_succ]
          refine wpAnyH_take (i := 16) (oi := ⟨some 30, _, _, _, _, _⟩) (v := undef) rfl (by kernel_rfl) (by kernel_rfl) (by kernel_rfl) (fun _ _ _ h => h) (Or.inr ⟨by rfl, rfl⟩) (by assumption) ?_
          try simp only [Act.put, List.setIfInBounds_toArray, List.set_cons_zero, List.set_cons_succ]
          refine wpAnyH_take (i := 17) (oi := ⟨some 31, _, _, _, _, _⟩) (v := undef) rfl (by kernel_rfl) (by kernel_rfl) (by kernel_rfl) (fun _ _ _ h => h) (Or.inr ⟨by rfl, rfl⟩) (by assumption) ?_
          try simp only [Act.put, List.setIfInBounds_toArray, List.set_cons_zero, List.set_cons_succ]
          refine wpAnyH_take (i := 18) (oi := ⟨some 32, _, _, _, _, _⟩) (v := ?v23) rfl (by kernel_rfl) (by kernel_rfl) (by kernel_rfl) (fun _ _ _ h => h) (Or.inl ⟨by rfl, ?y23⟩) (by assumption) ?r23
          case y23 => (intro wx hSx; (try dsimp only at hSx); go_simp; (try with_reducible rfl))
          try simp only [Act.put, List.setIfInBounds_toArray, List.set_cons_zero, List.set_cons_succ]
          refine wpAnyH_take (i := 19) (oi := ⟨some 33, _, _, _, _, _⟩) (v := ?v24) rfl (by kernel_rfl) (by kernel_rfl) (by kernel_rfl) (fun _ _ _ h => h) (Or.inl ⟨by rfl, ?y24⟩) (by assumption) ?r24
          case y24 => (intro wx hSx; (try dsimp only at hSx); go_simp; (try with_reducible rfl))
          try simp only [Act.put, List.setIfInBounds_toArray, List.set_cons_zero, List.set_cons_succ]
          refine wpAnyH_take (i := 20) (oi := ⟨some 34, _, _, _, _, _⟩) (v := undef) rfl (by kernel_rfl) (by kernel_rfl) (by kernel_rfl) (fun _ _ _ h => h) (Or.inr ⟨by rfl, rfl⟩) (by assumption) ?_
          try simp only [Act.put, List.setIfInBounds_toArray, List.set_cons_zero, List.set_cons_succ]
          refine wpAnyH_take (i := 21) (oi := ⟨some 35, _, _, _, _, _⟩) (v := undef) rfl (by kernel_rfl) (by kernel_rfl) (by kernel_rfl) (fun _ _ _ h => h) (Or.inr ⟨by rfl, rfl⟩) (by assumption) ?_
          try simp only [Act.put, List.setIfInBounds_toArray, List.set_cons_zero, List.set_cons_succ]
          refine wpAnyH_take (i := 22) (oi := ⟨some 36, _, _, _, _, _⟩) (v := undef) rfl (by kernel_rfl) (by kernel_rfl) (by kernel_rfl) (fun _ _ _ h => h) (Or.inr ⟨by rfl, rfl⟩) (by assumption) ?_
          try simp only [Act.put, List.setIfInBounds_toArray, List.set_cons_zero, List.set_cons_succ]
          refine wpAnyH_take (i := 23) (oi := ⟨some 37, _, _, _, _, _⟩) (v := undef) rfl (by kernel_rfl) (by kernel_rfl) (by kernel_rfl) (fun _ _ _ h => h) (Or.inr ⟨by rfl, rfl⟩) (by assumption) ?_
          try simp only [Act.put, List.setIfInBounds_toArray, List.set_cons_zero, List.set_cons_succ]
          refine wpAnyH_take (i := 24) (oi := ⟨some 38, _, _, _, _, _⟩) (v := undef) rfl (by kernel_rfl) (by kernel_rfl) (by kernel_rfl) (fun _ _ _ h => h) (Or.inr ⟨by rfl, rfl⟩) (by assumption) ?_
          try simp only [Act.put, List.setIfInBounds_toArray, List.set_cons_zero, List.set_cons_succ]
          refine wpAnyH_take (i := 25) (oi := ⟨some 39, _, _, _, _, _⟩) (v := undef) rfl (by kernel_rfl) (by kernel_rfl) (by kernel_rfl) (fun _ _ _ h => h) (Or.inr ⟨by rfl, rfl⟩) (by assumption) ?_
          try simp only [Act.put, List.setIfInBounds_toArray, List.set_cons_zero, List.set_cons_succ]
          refine wpAnyH_take (i := 26) (oi := ⟨some 40, _, _, _, _, _⟩) (v := undef) rfl (by kernel_rfl) (by kernel_rfl) (by kernel_rfl) (fun _ _ _ h => h) (Or.inr ⟨by rfl, rfl⟩) (by assumption) ?_
          try simp only [Act.put, List.setIfInBounds_toArray, List.set_cons_zero, List.set_cons_succ]
          refine wpAnyH_take (i := 27) (oi := ⟨some 41, _, _, _, _, _⟩) (v := undef) rfl (by kernel_rfl) (by kernel_rfl) (by kernel_rfl) (fun _ _ _ h => h) (Or.inr ⟨by rfl, rfl⟩) (by assumption) ?_
          try simp only [Act.put, List.setIfInBounds_toArray, List.set_cons_zero, List.set_cons_succ]
          refine wpAnyH_take (i := 28) (oi := ⟨some 42, _, _, _, _, _⟩) (v := undef) rfl (by kernel_rfl) (by kernel_rfl) (by kernel_rfl) (fun _ _ _ h => h) (Or.inr ⟨by rfl, rfl⟩) (by assumption) ?_
          try simp only [Act.put, List.setIfInBounds_toArray, List.set_cons_zero, List.set_cons_succ]
          refine wpAnyH_take (i := 29) (oi := ⟨some 43, _, _, _, _, _⟩) (v := undef) rfl (by kernel_rfl) (by kernel_rfl) (by kernel_rfl) (fun _ _ _ h => h) (Or.inr ⟨by rfl, rfl⟩) (by assumption) ?_
          try simp only [Act.put, List.setIfInBounds_toArray, List.set_cons_zero, List.set_cons_succ]
          refine wpAnyH_take (i := 30) (oi := ⟨some 44, _, _, _, _, _⟩) (v := undef) rfl (by kernel_rfl) (by kernel_rfl) (by kernel_rfl) (fun _ _ _ h => h) (Or.inr ⟨by rfl, rfl⟩) (by assumption) ?_
          try simp only [Act.put, List.setIfInBounds_toArray, List.set_cons_zero, List.set_cons_succ]
          refine wpAnyH_take (i := 31) (oi := ⟨some 45, _, _, _, _, _⟩) (v := undef) rfl (by kernel_rfl) (by kernel_rfl) (by kernel_rfl) (fun _ _ _ h => h) (Or.inr ⟨by rfl, rfl⟩) (by assumption) ?_
          try simp only [Act.put, List.setIfInBounds_toArray, List.set_cons_zero, List.set_cons_succ]
          refine wpAnyH_take (i := 32) (oi := ⟨some 46, _, _, _, _, _⟩) (v := undef) rfl (by kernel_rfl) (by kernel_rfl) (by kernel_rfl) (fun _ _ _ h => h) (Or.inr ⟨by rfl, rfl⟩) (by assumption) ?_
          try simp only [Act.put, List.setIfInBounds_toArray, List.set_cons_zero, List.set_cons_succ]
          refine wpAnyH_take (i := 33) (oi := ⟨some 47, _, _, _, _, _⟩) (v := ?v25) rfl (by kernel_rfl) (by kernel_rfl) (by kernel_rfl) (fun _ _ _ h => h) (Or.inl ⟨by rfl, ?y25⟩) (by assumption) ?r25
          case y25 => (intro wx hSx; (try dsimp only at hSx); go_simp; (try with_reducible rfl))
          try simp only [Act.put, List.setIfInBounds_toArray, List.set_cons_zero, List.set_cons_succ]
          refine wpAnyH_done (by kernel_rfl) ?_ _
          go_wp2
          go_ret
          exact ⟨ret_bool (HBAD.out.symm.trans HZ.out), HF.out⟩
        · by_cases p3 : 1048576 < xv
          · have HBAD := hid (ents_bad (ah := seqB) HX.out (by unfold enB; rw [decide_eq_false (fun h => by have h3 : xv ≤ 1048576 := h.2.2; omega)]; rfl))
            refine wp_region_held_drew (S := fun wx => wx.cell? ⟨eb, 0, none⟩ = some (.int .u32 xs) ∧ wx.cell? ⟨eb, 1, none⟩ = some (.int .u32 xv) ∧ wx.cell? ⟨eb, 2, none⟩ = some (.int .u8 xc) ∧ wx.cell? ⟨eb, 3, none⟩ = some (.int .u32 xt) ∧ wx.cell? ⟨eb, 4, none⟩ = some (.int .u8 xk) ∧ wx.cell? ⟨eb, 5, none⟩ = some (.int .u8 xy) ∧ wx.cell? ⟨eb, 6, none⟩ = some (.int .u16 xx)) (by kernel_rfl) ?_ (fun hHeld => ?_)
            · exact ⟨HEB.out.cell 0, HEB.out.cell 1, HEB.out.cell 2, HEB.out.cell 3, HEB.out.cell 4, HEB.out.cell 5, HEB.out.cell 6⟩
            refine wpAnyH_take (i := 0) (oi := ⟨some 14, _, _, _, _, _⟩) (v := ?v26) rfl (by kernel_rfl) (by kernel_rfl) (by kernel_rfl) (fun _ _ _ h => h) (Or.inl ⟨by rfl, ?y26⟩) (by assumption) ?r26
            case y26 => (intro wx hSx; (try dsimp only at hSx); go_simp; (try with_reducible rfl))
            try simp only [Act.put, List.setIfInBounds_toArray, List.set_cons_zero, List.set_cons_succ]
            refine wpAnyH_take (i := 1) (oi := ⟨some 15, _, _, _, _, _⟩) (v := ?v27) rfl (by kernel_rfl) (by kernel_rfl) (by kernel_rfl) (fun _ _ _ h => h) (Or.inl ⟨by rfl, ?y27⟩) (by assumption) ?r27
            case y27 => (intro wx hSx; (try dsimp only at hSx); go_simp; (try with_reducible rfl))
            try simp only [Act.put, List.setIfInBounds_toArray, List.set_cons_zero, List.set_cons_succ]
            refine wpAnyH_take (i := 2) (oi := ⟨some 16, _, _, _, _, _⟩) (v := ?v28) rfl (by kernel_rfl) (by kernel_rfl) (by kernel_rfl) (fun _ _ _ h => h) (Or.inl ⟨by rfl, ?y28⟩) (by assumption) ?r28
            case y28 => (intro wx hSx; (try dsimp only at hSx); go_simp; (try with_reducible rfl))
            try simp only [Act.put, List.setIfInBounds_toArray, List.set_cons_zero, List.set_cons_succ]
            refine wpAnyH_take (i := 3) (oi := ⟨some 17, _, _, _, _, _⟩) (v := ?v29) rfl (by kernel_rfl) (by kernel_rfl) (by kernel_rfl) (fun _ _ _ h => h) (Or.inl ⟨by rfl, ?y29⟩) (by assumption) ?r29
            case y29 => (intro wx hSx; (try dsimp only at hSx); go_simp; (try with_reducible rfl))
            try simp only [Act.put, List.setIfInBounds_toArray, List.set_cons_zero, List.set_cons_succ]
            refine wpAnyH_take (i := 4) (oi := ⟨some 18, _, _, _, _, _⟩) (v := ?v30) rfl (by kernel_rfl) (by kernel_rfl) (by kernel_rfl) (fun _ _ _ h => h) (Or.inl ⟨by rfl, ?y30⟩) (by assumption) ?r30
            case y30 => (intro wx hSx; (try dsimp only at hSx); go_simp; (try with_reducible rfl))
            try simp only [Act.put, List.setIfInBounds_toArray, List.set_cons_zero, List.set_cons_succ]
            refine wpAnyH_take (i := 5) (oi := ⟨some 19, _, _, _, _, _⟩) (v := ?v31) rfl (by kernel_rfl) (by kernel_rfl) (by kernel_rfl) (fun _ _ _ h => h) (Or.inl ⟨by rfl, ?y31⟩) (by assumption) ?r31
            case y31 => (intro wx hSx; (try dsimp only at hSx); go_simp; (try with_reducible rfl))
            try simp only [Act.put, List.setIfInBounds_toArray, List.set_cons_zero, List.set_cons_succ]
            refine wpAnyH_take (i := 6) (oi := ⟨some 20, _, _, _, _, _⟩) (v := ?v32) rfl (by kernel_rfl) (by kernel_rfl) (by kernel_rfl) (fun _ _ _ h => h) (Or.inl ⟨by rfl, ?y32⟩) (by assumption) ?r32
            case y32 => (intro wx hSx; (try dsimp only at hSx); go_simp; (try with_reducible rfl))
            try simp only [Act.put, List.setIfInBounds_toArray, List.set_cons_zero, List.set_cons_succ]
            refine wpAnyH_take (i := 7) (oi := ⟨some 21, _, _, _, _, _⟩) (v := ?v33) rfl (by kernel_rfl) (by kernel_rfl) (by kernel_rfl) (fun _ _ _ h => h) (Or.inl ⟨by rfl, ?y33⟩) (by assumption) ?r33
            case y33 => (intro wx hSx; (try dsimp only at hSx); go_simp; (try with_reducible rfl))
            try simp only [Act.put, List.setIfInBounds_toArray, List.set_cons_zero, List.set_cons_succ]
            refine wpAnyH_take (i := 8) (oi := ⟨some 22, _, _, _, _, _⟩) (v := ?v34) rfl (by kernel_rfl) (by kernel_rfl) (by kernel_rfl) (fun _ _ _ h => h) (Or.inl ⟨by rfl, ?y34⟩) (by assumption) ?r34
            case y34 => (intro wx hSx; (try dsimp only at hSx); go_simp; (try with_reducible rfl))
            try simp only [Act.put, List.setIfInBounds_toArray, List.set_cons_zero, List.set_cons_succ]
            refine wpAnyH_take (i := 9) (oi := ⟨some 23, _, _, _, _, _⟩) (v := ?v35) rfl (by kernel_rfl) (by kernel_rfl) (by kernel_rfl) (fun _ _ _ h => h) (Or.inl ⟨by rfl, ?y35⟩) (by assumption) ?r35
            case y35 => (intro wx hSx; (try dsimp only at hSx); go_simp; (try with_reducible rfl))
            try simp only [Act.put, List.setIfInBounds_toArray, List.set_cons_zero, List.set_cons_succ]
            refine wpAnyH_take (i := 10) (oi := ⟨some 24, _, _, _, _, _⟩) (v := ?v36) rfl (by kernel_rfl) (by kernel_rfl) (by kernel_rfl) (fun _ _ _ h => h) (Or.inl ⟨by rfl, ?y36⟩) (by assumption) ?r36
            case y36 => (intro wx hSx; (try dsimp only at hSx); go_simp; (try with_reducible rfl))
            try simp only [Act.put, List.setIfInBounds_toArray, List.set_cons_zero, List.set_cons_succ]
            refine wpAnyH_take (i := 11) (oi := ⟨some 25, _, _, _, _, _⟩) (v := ?v37) rfl (by kernel_rfl) (by kernel_rfl) (by kernel_rfl) (fun _ _ _ h => h) (Or.inl ⟨by rfl, ?y37⟩) (by assumption) ?r37
            case y37 => (intro wx hSx; (try dsimp only at hSx); go_simp; (try with_reducible rfl))
            try simp only [Act.put, List.setIfInBounds_toArray, List.set_cons_zero, List.set_cons_succ]
            refine wpAnyH_take (i := 12) (oi := ⟨some 26, _, _, _, _, _⟩) (v := ?v38) rfl (by kernel_rfl) (by kernel_rfl) (by kernel_rfl) (fun _ _ _ h => h) (Or.inl ⟨by rfl, ?y38⟩) (by assumption) ?r38
            case y38 => (intro wx hSx; (try dsimp only at hSx); go_simp; (try with_reducible rfl))
            try simp only [Act.put, List.setIfInBounds_toArray, List.set_cons_zero, List.set_cons_succ]
            refine wpAnyH_take (i := 13) (oi := ⟨some 27, _, _, _, _, _⟩) (v := ?v39) rfl (by kernel_rfl) (by kernel_rfl) (by kernel_rfl) (fun _ _ _ h => h) (Or.inl ⟨by rfl, ?y39⟩) (by assumption) ?r39
            case y39 => (intro wx hSx; (try dsimp only at hSx); go_simp; (try with_reducible rfl))
            try simp only [Act.put, List.setIfInBounds_toArray, List.set_cons_zero, List.set_cons_succ]
            refine wpAnyH_take (i := 14) (oi := ⟨some 28, _, _, _, _, _⟩) (v := undef) rfl (by kernel_rfl) (by kernel_rfl) (by kernel_rfl) (fun _ _ _ h => h) (Or.inr ⟨by rfl, rfl⟩) (by assumption) ?_
            try simp only [Act.put, List.setIfInBounds_toArray, List.set_cons_zero, List.set_cons_succ]
            refine wpAnyH_take (i := 15) (oi := ⟨some 29, _, _, _, _, _⟩) (v := undef) rfl (by kernel_rfl) (by kernel_rfl) (by kernel_rfl) (fun _ _ _ h => h) (Or.inr ⟨by rfl, rfl⟩) (by assumption) ?_
            try simp only [Act.put, List.setIfInBounds_toArray, List.set_cons_zero, List.set_cons_succ]
            refine wpAnyH_take (i := 16) (oi := ⟨some 30, _, _, _, _, _⟩) (v := undef) rfl (by kernel_rfl) (by kernel_rfl) (by kernel_rfl) (fun _ _ _ h => h) (Or.inr ⟨by rfl, rfl⟩) (by assumption) ?_
            try simp only [Act.put, List.setIfInBounds_toArray, List.set_cons_zero, List.set_cons_succ]
            refine wpAnyH_take (i := 17) (oi := ⟨some 31, _, _, _, _, _⟩) (v := undef) rfl (by kernel_rfl) (by kernel_rfl) (by kernel_rfl) (fun _ _ _ h => h) (Or.inr ⟨by rfl, rfl⟩) (by assumption) ?_
            try simp only [Act.put, List.setIfInBounds_toArray, List.set_cons_zero, List.set_cons_succ]
            refine wpAnyH_take (i := 18) (oi := ⟨some 32, _, _, _, _, _⟩) (v := ?v40) rfl (by kernel_rfl) (by kernel_rfl) (by kernel_rfl) (fun _ _ _ h => h) (Or.inl ⟨by rfl, ?y40⟩) (by assumption) ?r40
            case y40 => (intro wx hSx; (try dsimp only at hSx); go_simp; (try with_reducible rfl))
            try simp only [Act.put, List.setIfInBounds_toArray, List.set_cons_zero, List.set_cons_succ]
            refine wpAnyH_take (i := 19) (oi := ⟨some 33, _, _, _, _, _⟩) (v := ?v41) rfl (by kernel_rfl) (by kernel_rfl) (by kernel_rfl) (fun _ _ _ h => h) (Or.inl ⟨by rfl, ?y41⟩) (by assumption) ?r41
            case y41 => (intro wx hSx; (try dsimp only at hSx); go_simp; (try with_reducible rfl))
            try simp only [Act.put, List.setIfInBounds_toArray, List.set_cons_zero, List.set_cons_succ]
            refine wpAnyH_take (i := 20) (oi := ⟨some 34, _, _, _, _, _⟩) (v := undef) rfl (by kernel_rfl) (by kernel_rfl) (by kernel_rfl) (fun _ _ _ h => h) (Or.inr ⟨by rfl, rfl⟩) (by assumption) ?_
            try simp only [Act.put, List.setIfInBounds_toArray, List.set_cons_zero, List.set_cons_succ]
            refine wpAnyH_take (i := 21) (oi := ⟨some 35, _, _, _, _, _⟩) (v := undef) rfl (by kernel_rfl) (by kernel_rfl) (by kernel_rfl) (fun _ _ _ h => h) (Or.inr ⟨by rfl, rfl⟩) (by assumption) ?_
            try simp only [Act.put, List.setIfInBounds_toArray, List.set_cons_zero, List.set_cons_succ]
            refine wpAnyH_take (i := 22) (oi := ⟨some 36, _, _, _, _, _⟩) (v := undef) rfl (by kernel_rfl) (by kernel_rfl) (by kernel_rfl) (fun _ _ _ h => h) (Or.inr ⟨by rfl, rfl⟩) (by assumption) ?_
            try simp only [Act.put, List.setIfInBounds_toArray, List.set_cons_zero, List.set_cons_succ]
            refine wpAnyH_take (i := 23) (oi := ⟨some 37, _, _, _, _, _⟩) (v := undef) rfl (by kernel_rfl) (by kernel_rfl) (by kernel_rfl) (fun _ _ _ h => h) (Or.inr ⟨by rfl, rfl⟩) (by assumption) ?_
            try simp only [Act.put, List.setIfInBounds_toArray, List.set_cons_zero, List.set_cons_succ]
            refine wpAnyH_take (i := 24) (oi := ⟨some 38, _, _, _, _, _⟩) (v := undef) rfl (by kernel_rfl) (by kernel_rfl) (by kernel_rfl) (fun _ _ _ h => h) (Or.inr ⟨by rfl, rfl⟩) (by assumption) ?_
            try simp only [Act.put, List.setIfInBounds_toArray, List.set_cons_zero, List.set_cons_succ]
            refine wpAnyH_take (i := 25) (oi := ⟨some 39, _, _, _, _, _⟩) (v := undef) rfl (by kernel_rfl) (by kernel_rfl) (by kernel_rfl) (fun _ _ _ h => h) (Or.inr ⟨by rfl, rfl⟩) (by assumption) ?_
            try simp only [Act.put, List.setIfInBounds_toArray, List.set_cons_zero, List.set_cons_succ]
            refine wpAnyH_take (i := 26) (oi := ⟨some 40, _, _, _, _, _⟩) (v := undef) rfl (by kernel_rfl) (by kernel_rfl) (by kernel_rfl) (fun _ _ _ h => h) (Or.inr ⟨by rfl, rfl⟩) (by assumption) ?_
            try simp only [Act.put, List.setIfInBounds_toArray, List.set_cons_zero, List.set_cons_succ]
            refine wpAnyH_take (i := 27) (oi := ⟨some 41, _, _, _, _, _⟩) (v := undef) rfl (by kernel_rfl) (by kernel_rfl) (by kernel_rfl) (fun _ _ _ h => h) (Or.inr ⟨by rfl, rfl⟩) (by assumption) ?_
            try simp only [Act.put, List.setIfInBounds_toArray, List.set_cons_zero, List.set_cons_succ]
            refine wpAnyH_take (i := 28) (oi := ⟨some 42, _, _, _, _, _⟩) (v := undef) rfl (by kernel_rfl) (by kernel_rfl) (by kernel_rfl) (fun _ _ _ h => h) (Or.inr ⟨by rfl, rfl⟩) (by assumption) ?_
            try simp only [Act.put, List.setIfInBounds_toArray, List.set_cons_zero, List.set_cons_succ]
            refine wpAnyH_take (i := 29) (oi := ⟨some 43, _, _, _, _, _⟩) (v := undef) rfl (by kernel_rfl) (by kernel_rfl) (by kernel_rfl) (fun _ _ _ h => h) (Or.inr ⟨by rfl, rfl⟩) (by assumption) ?_
            try simp only [Act.put, List.setIfInBounds_toArray, List.set_cons_zero, List.set_cons_succ]
            refine wpAnyH_take (i := 30) (oi := ⟨some 44, _, _, _, _, _⟩) (v := undef) rfl (by kernel_rfl) (by kernel_rfl) (by kernel_rfl) (fun _ _ _ h => h) (Or.inr ⟨by rfl, rfl⟩) (by assumption) ?_
            try simp only [Act.put, List.setIfInBounds_toArray, List.set_cons_zero, List.set_cons_succ]
            refine wpAnyH_take (i := 31) (oi := ⟨some 45, _, _, _, _, _⟩) (v := undef) rfl (by kernel_rfl) (by kernel_rfl) (by kernel_rfl) (fun _ _ _ h => h) (Or.inr ⟨by rfl, rfl⟩) (by assumption) ?_
            try simp only [Act.put, List.setIfInBounds_toArray, List.set_cons_zero, List.set_cons_succ]
            refine wpAnyH_take (i := 32) (oi := ⟨some 46, _, _, _, _, _⟩) (v := undef) rfl (by kernel_rfl) (by kernel_rfl) (by kernel_rfl) (fun _ _ _ h => h) (Or.inr ⟨by rfl, rfl⟩) (by assumption) ?_
            try simp only [Act.put, List.setIfInBounds_toArray, List.set_cons_zero, List.set_cons_succ]
            refine wpAnyH_take (i := 33) (oi := ⟨some 47, _, _, _, _, _⟩) (v := ?v42) rfl (by kernel_rfl) (by kernel_rfl) (by kernel_rfl) (fun _ _ _ h => h) (Or.inl ⟨by rfl, ?y42⟩) (by assumption) ?r42
            case y42 => (intro wx hSx; (try dsimp only at hSx); go_simp; (try with_reducible rfl))
            try simp only [Act.put, List.setIfInBounds_toArray, List.set_cons_zero, List.set_cons_succ]
            refine wpAnyH_done (by kernel_rfl) ?_ _
            go_wp2
            go_ret
            exact ⟨ret_bool (HBAD.out.symm.trans HZ.out), HF.out⟩
          · cases hrq : reqB ⟨xs, xv, xc, xt, xk, xy, xx⟩
            · have HRQ := hid (show (isNull xc xt xk xy xx || isReal xc xt xk xy xx) = false from hrq)
              have HBAD := hid (ents_bad (ah := seqB) HX.out (by unfold enB; rw [hrq, Bool.and_false]))
              clear hrq
              refine wp_region_held_drew (S := fun wx => wx.cell? ⟨eb, 0, none⟩ = some (.int .u32 xs) ∧ wx.cell? ⟨eb, 1, none⟩ = some (.int .u32 xv) ∧ wx.cell? ⟨eb, 2, none⟩ = some (.int .u8 xc) ∧ wx.cell? ⟨eb, 3, none⟩ = some (.int .u32 xt) ∧ wx.cell? ⟨eb, 4, none⟩ = some (.int .u8 xk) ∧ wx.cell? ⟨eb, 5, none⟩ = some (.int .u8 xy) ∧ wx.cell? ⟨eb, 6, none⟩ = some (.int .u16 xx)) (by kernel_rfl) ?_ (fun hHeld => ?_)
              · exact ⟨HEB.out.cell 0, HEB.out.cell 1, HEB.out.cell 2, HEB.out.cell 3, HEB.out.cell 4, HEB.out.cell 5, HEB.out.cell 6⟩
              refine wpAnyH_take (i := 0) (oi := ⟨some 14, _, _, _, _, _⟩) (v := ?v43) rfl (by kernel_rfl) (by kernel_rfl) (by kernel_rfl) (fun _ _ _ h => h) (Or.inl ⟨by rfl, ?y43⟩) (by assumption) ?r43
              case y43 => (intro wx hSx; (try dsimp only at hSx); go_simp; (try with_reducible rfl))
              try simp only [Act.put, List.setIfInBounds_toArray, List.set_cons_zero, List.set_cons_succ]
              refine wpAnyH_take (i := 1) (oi := ⟨some 15, _, _, _, _, _⟩) (v := ?v44) rfl (by kernel_rfl) (by kernel_rfl) (by kernel_rfl) (fun _ _ _ h => h) (Or.inl ⟨by rfl, ?y44⟩) (by assumption) ?r44
              case y44 => (intro wx hSx; (try dsimp only at hSx); go_simp; (try with_reducible rfl))
              try simp only [Act.put, List.setIfInBounds_toArray, List.set_cons_zero, List.set_cons_succ]
              refine wpAnyH_take (i := 2) (oi := ⟨some 16, _, _, _, _, _⟩) (v := ?v45) rfl (by kernel_rfl) (by kernel_rfl) (by kernel_rfl) (fun _ _ _ h => h) (Or.inl ⟨by rfl, ?y45⟩) (by assumption) ?r45
              case y45 => (intro wx hSx; (try dsimp only at hSx); go_simp; (try with_reducible rfl))
              try simp only [Act.put, List.setIfInBounds_toArray, List.set_cons_zero, List.set_cons_succ]
              refine wpAnyH_take (i := 3) (oi := ⟨some 17, _, _, _, _, _⟩) (v := ?v46) rfl (by kernel_rfl) (by kernel_rfl) (by kernel_rfl) (fun _ _ _ h => h) (Or.inl ⟨by rfl, ?y46⟩) (by assumption) ?r46
              case y46 => (intro wx hSx; (try dsimp only at hSx); go_simp; (try with_reducible rfl))
              try simp only [Act.put, List.setIfInBounds_toArray, List.set_cons_zero, List.set_cons_succ]
              refine wpAnyH_take (i := 4) (oi := ⟨some 18, _, _, _, _, _⟩) (v := ?v47) rfl (by kernel_rfl) (by kernel_rfl) (by kernel_rfl) (fun _ _ _ h => h) (Or.inl ⟨by rfl, ?y47⟩) (by assumption) ?r47
              case y47 => (intro wx hSx; (try dsimp only at hSx); go_simp; (try with_reducible rfl))
              try simp only [Act.put, List.setIfInBounds_toArray, List.set_cons_zero, List.set_cons_succ]
              refine wpAnyH_take (i := 5) (oi := ⟨some 19, _, _, _, _, _⟩) (v := ?v48) rfl (by kernel_rfl) (by kernel_rfl) (by kernel_rfl) (fun _ _ _ h => h) (Or.inl ⟨by rfl, ?y48⟩) (by assumption) ?r48
              case y48 => (intro wx hSx; (try dsimp only at hSx); go_simp; (try with_reducible rfl))
              try simp only [Act.put, List.setIfInBounds_toArray, List.set_cons_zero, List.set_cons_succ]
              refine wpAnyH_take (i := 6) (oi := ⟨some 20, _, _, _, _, _⟩) (v := ?v49) rfl (by kernel_rfl) (by kernel_rfl) (by kernel_rfl) (fun _ _ _ h => h) (Or.inl ⟨by rfl, ?y49⟩) (by assumption) ?r49
              case y49 => (intro wx hSx; (try dsimp only at hSx); go_simp; (try with_reducible rfl))
              try simp only [Act.put, List.setIfInBounds_toArray, List.set_cons_zero, List.set_cons_succ]
              refine wpAnyH_take (i := 7) (oi := ⟨some 21, _, _, _, _, _⟩) (v := ?v50) rfl (by kernel_rfl) (by kernel_rfl) (by kernel_rfl) (fun _ _ _ h => h) (Or.inl ⟨by rfl, ?y50⟩) (by assumption) ?r50
              case y50 => (intro wx hSx; (try dsimp only at hSx); go_simp; (try with_reducible rfl))
              try simp only [Act.put, List.setIfInBounds_toArray, List.set_cons_zero, List.set_cons_succ]
              refine wpAnyH_take (i := 8) (oi := ⟨some 22, _, _, _, _, _⟩) (v := ?v51) rfl (by kernel_rfl) (by kernel_rfl) (by kernel_rfl) (fun _ _ _ h => h) (Or.inl ⟨by rfl, ?y51⟩) (by assumption) ?r51
              case y51 => (intro wx hSx; (try dsimp only at hSx); go_simp; (try with_reducible rfl))
              try simp only [Act.put, List.setIfInBounds_toArray, List.set_cons_zero, List.set_cons_succ]
              refine wpAnyH_take (i := 9) (oi := ⟨some 23, _, _, _, _, _⟩) (v := ?v52) rfl (by kernel_rfl) (by kernel_rfl) (by kernel_rfl) (fun _ _ _ h => h) (Or.inl ⟨by rfl, ?y52⟩) (by assumption) ?r52
              case y52 => (intro wx hSx; (try dsimp only at hSx); go_simp; (try with_reducible rfl))
              try simp only [Act.put, List.setIfInBounds_toArray, List.set_cons_zero, List.set_cons_succ]
              refine wpAnyH_take (i := 10) (oi := ⟨some 24, _, _, _, _, _⟩) (v := ?v53) rfl (by kernel_rfl) (by kernel_rfl) (by kernel_rfl) (fun _ _ _ h => h) (Or.inl ⟨by rfl, ?y53⟩) (by assumption) ?r53
              case y53 => (intro wx hSx; (try dsimp only at hSx); go_simp; (try with_reducible rfl))
              try simp only [Act.put, List.setIfInBounds_toArray, List.set_cons_zero, List.set_cons_succ]
              refine wpAnyH_take (i := 11) (oi := ⟨some 25, _, _, _, _, _⟩) (v := ?v54) rfl (by kernel_rfl) (by kernel_rfl) (by kernel_rfl) (fun _ _ _ h => h) (Or.inl ⟨by rfl, ?y54⟩) (by assumption) ?r54
              case y54 => (intro wx hSx; (try dsimp only at hSx); go_simp; (try with_reducible rfl))
              try simp only [Act.put, List.setIfInBounds_toArray, List.set_cons_zero, List.set_cons_succ]
              refine wpAnyH_take (i := 12) (oi := ⟨some 26, _, _, _, _, _⟩) (v := ?v55) rfl (by kernel_rfl) (by kernel_rfl) (by kernel_rfl) (fun _ _ _ h => h) (Or.inl ⟨by rfl, ?y55⟩) (by assumption) ?r55
              case y55 => (intro wx hSx; (try dsimp only at hSx); go_simp; (try with_reducible rfl))
              try simp only [Act.put, List.setIfInBounds_toArray, List.set_cons_zero, List.set_cons_succ]
              refine wpAnyH_take (i := 13) (oi := ⟨some 27, _, _, _, _, _⟩) (v := ?v56) rfl (by kernel_rfl) (by kernel_rfl) (by kernel_rfl) (fun _ _ _ h => h) (Or.inl ⟨by rfl, ?y56⟩) (by assumption) ?r56
              case y56 => (intro wx hSx; (try dsimp only at hSx); go_simp; (try with_reducible rfl))
              try simp only [Act.put, List.setIfInBounds_toArray, List.set_cons_zero, List.set_cons_succ]
              refine wpAnyH_take (i := 14) (oi := ⟨some 28, _, _, _, _, _⟩) (v := ?v57) rfl (by kernel_rfl) (by kernel_rfl) (by kernel_rfl) (fun _ _ _ h => h) (Or.inl ⟨by rfl, ?y57⟩) (by assumption) ?r57
              case y57 => (intro wx hSx; (try dsimp only at hSx); go_simp; (try with_reducible rfl))
              try simp only [Act.put, List.setIfInBounds_toArray, List.set_cons_zero, List.set_cons_succ]
              refine wpAnyH_take (i := 15) (oi := ⟨some 29, _, _, _, _, _⟩) (v := ?v58) rfl (by kernel_rfl) (by kernel_rfl) (by kernel_rfl) (fun _ _ _ h => h) (Or.inl ⟨by rfl, ?y58⟩) (by assumption) ?r58
              case y58 => (intro wx hSx; (try dsimp only at hSx); go_simp; (try with_reducible rfl))
              try simp only [Act.put, List.setIfInBounds_toArray, List.set_cons_zero, List.set_cons_succ]
              refine wpAnyH_ready (rs := [16]) (by kernel_rfl) (by simp) ?_
              refine AllReadyH.cons (o := ⟨some 30, _, _, _, _, _⟩) rfl (fun K hK => ?_) AllReadyH.nil
              go_simp
              go_wp2_with ((go_at_call 47; (with_reducible refine (MIsReq_calls _ xc xt xk xy xx false HRQ.out).mono ?_); rintro e w5 ⟨rfl, f'⟩; have n1 := hid (HEB.out.frm f' (fun h => h)); have n2 := hid (HF.out.trans f'); have n3 := hid (HRW.out.quiet f'); clear HEB HF HRW f'; have HEB := n1; have HF := n2; have HRW := n3; clear n1 n2 n3))
              refine hK.out _ _ ?_ (fun hHeld2 => ?_)
              · ((try dsimp only); (first | go_keep | exact ⟨HEB.out.cell 0, HEB.out.cell 1, HEB.out.cell 2, HEB.out.cell 3, HEB.out.cell 4, HEB.out.cell 5, HEB.out.cell 6⟩))
              clear hK K hHeld; have hHeld := hHeld2; clear hHeld2
              try simp only [Act.put, List.setIfInBounds_toArray, List.set_cons_zero, List.set_cons_succ]
              refine wpAnyH_take (i := 17) (oi := ⟨some 31, _, _, _, _, _⟩) (v := ?v59) rfl (by kernel_rfl) (by kernel_rfl) (by kernel_rfl) (fun _ _ _ h => h) (Or.inl ⟨by rfl, ?y59⟩) (by assumption) ?r59
              case y59 => (intro wx hSx; (try dsimp only at hSx); go_simp; (try with_reducible rfl))
              try simp only [Act.put, List.setIfInBounds_toArray, List.set_cons_zero, List.set_cons_succ]
              refine wpAnyH_take (i := 18) (oi := ⟨some 32, _, _, _, _, _⟩) (v := ?v60) rfl (by kernel_rfl) (by kernel_rfl) (by kernel_rfl) (fun _ _ _ h => h) (Or.inl ⟨by rfl, ?y60⟩) (by assumption) ?r60
              case y60 => (intro wx hSx; (try dsimp only at hSx); go_simp; (try with_reducible rfl))
              try simp only [Act.put, List.setIfInBounds_toArray, List.set_cons_zero, List.set_cons_succ]
              refine wpAnyH_take (i := 19) (oi := ⟨some 33, _, _, _, _, _⟩) (v := ?v61) rfl (by kernel_rfl) (by kernel_rfl) (by kernel_rfl) (fun _ _ _ h => h) (Or.inl ⟨by rfl, ?y61⟩) (by assumption) ?r61
              case y61 => (intro wx hSx; (try dsimp only at hSx); go_simp; (try with_reducible rfl))
              try simp only [Act.put, List.setIfInBounds_toArray, List.set_cons_zero, List.set_cons_succ]
              refine wpAnyH_take (i := 20) (oi := ⟨some 34, _, _, _, _, _⟩) (v := undef) rfl (by kernel_rfl) (by kernel_rfl) (by kernel_rfl) (fun _ _ _ h => h) (Or.inr ⟨by rfl, rfl⟩) (by assumption) ?_
              try simp only [Act.put, List.setIfInBounds_toArray, List.set_cons_zero, List.set_cons_succ]
              refine wpAnyH_take (i := 21) (oi := ⟨some 35, _, _, _, _, _⟩) (v := undef) rfl (by kernel_rfl) (by kernel_rfl) (by kernel_rfl) (fun _ _ _ h => h) (Or.inr ⟨by rfl, rfl⟩) (by assumption) ?_
              try simp only [Act.put, List.setIfInBounds_toArray, List.set_cons_zero, List.set_cons_succ]
              refine wpAnyH_take (i := 22) (oi := ⟨some 36, _, _, _, _, _⟩) (v := undef) rfl (by kernel_rfl) (by kernel_rfl) (by kernel_rfl) (fun _ _ _ h => h) (Or.inr ⟨by rfl, rfl⟩) (by assumption) ?_
              try simp only [Act.put, List.setIfInBounds_toArray, List.set_cons_zero, List.set_cons_succ]
              refine wpAnyH_take (i := 23) (oi := ⟨some 37, _, _, _, _, _⟩) (v := undef) rfl (by kernel_rfl) (by kernel_rfl) (by kernel_rfl) (fun _ _ _ h => h) (Or.inr ⟨by rfl, rfl⟩) (by assumption) ?_
              try simp only [Act.put, List.setIfInBounds_toArray, List.set_cons_zero, List.set_cons_succ]
              refine wpAnyH_take (i := 24) (oi := ⟨some 38, _, _, _, _, _⟩) (v := undef) rfl (by kernel_rfl) (by kernel_rfl) (by kernel_rfl) (fun _ _ _ h => h) (Or.inr ⟨by rfl, rfl⟩) (by assumption) ?_
              try simp only [Act.put, List.setIfInBounds_toArray, List.set_cons_zero, List.set_cons_succ]
              refine wpAnyH_take (i := 25) (oi := ⟨some 39, _, _, _, _, _⟩) (v := undef) rfl (by kernel_rfl) (by kernel_rfl) (by kernel_rfl) (fun _ _ _ h => h) (Or.inr ⟨by rfl, rfl⟩) (by assumption) ?_
              try simp only [Act.put, List.setIfInBounds_toArray, List.set_cons_zero, List.set_cons_succ]
              refine wpAnyH_take (i := 26) (oi := ⟨some 40, _, _, _, _, _⟩) (v := undef) rfl (by kernel_rfl) (by kernel_rfl) (by kernel_rfl) (fun _ _ _ h => h) (Or.inr ⟨by rfl, rfl⟩) (by assumption) ?_
              try simp only [Act.put, List.setIfInBounds_toArray, List.set_cons_zero, List.set_cons_succ]
              refine wpAnyH_take (i := 27) (oi := ⟨some 41, _, _, _, _, _⟩) (v := undef) rfl (by kernel_rfl) (by kernel_rfl) (by kernel_rfl) (fun _ _ _ h => h) (Or.inr ⟨by rfl, rfl⟩) (by assumption) ?_
              try simp only [Act.put, List.setIfInBounds_toArray, List.set_cons_zero, List.set_cons_succ]
              refine wpAnyH_take (i := 28) (oi := ⟨some 42, _, _, _, _, _⟩) (v := undef) rfl (by kernel_rfl) (by kernel_rfl) (by kernel_rfl) (fun _ _ _ h => h) (Or.inr ⟨by rfl, rfl⟩) (by assumption) ?_
              try simp only [Act.put, List.setIfInBounds_toArray, List.set_cons_zero, List.set_cons_succ]
              refine wpAnyH_take (i := 29) (oi := ⟨some 43, _, _, _, _, _⟩) (v := undef) rfl (by kernel_rfl) (by kernel_rfl) (by kernel_rfl) (fun _ _ _ h => h) (Or.inr ⟨by rfl, rfl⟩) (by assumption) ?_
              try simp only [Act.put, List.setIfInBounds_toArray, List.set_cons_zero, List.set_cons_succ]
              refine wpAnyH_take (i := 30) (oi := ⟨some 44, _, _, _, _, _⟩) (v := undef) rfl (by kernel_rfl) (by kernel_rfl) (by kernel_rfl) (fun _ _ _ h => h) (Or.inr ⟨by rfl, rfl⟩) (by assumption) ?_
              try simp only [Act.put, List.setIfInBounds_toArray, List.set_cons_zero, List.set_cons_succ]
              refine wpAnyH_take (i := 31) (oi := ⟨some 45, _, _, _, _, _⟩) (v := undef) rfl (by kernel_rfl) (by kernel_rfl) (by kernel_rfl) (fun _ _ _ h => h) (Or.inr ⟨by rfl, rfl⟩) (by assumption) ?_
              try simp only [Act.put, List.setIfInBounds_toArray, List.set_cons_zero, List.set_cons_succ]
              refine wpAnyH_take (i := 32) (oi := ⟨some 46, _, _, _, _, _⟩) (v := undef) rfl (by kernel_rfl) (by kernel_rfl) (by kernel_rfl) (fun _ _ _ h => h) (Or.inr ⟨by rfl, rfl⟩) (by assumption) ?_
              try simp only [Act.put, List.setIfInBounds_toArray, List.set_cons_zero, List.set_cons_succ]
              refine wpAnyH_take (i := 33) (oi := ⟨some 47, _, _, _, _, _⟩) (v := ?v62) rfl (by kernel_rfl) (by kernel_rfl) (by kernel_rfl) (fun _ _ _ h => h) (Or.inl ⟨by rfl, ?y62⟩) (by assumption) ?r62
              case y62 => (intro wx hSx; (try dsimp only at hSx); go_simp; (try with_reducible rfl))
              try simp only [Act.put, List.setIfInBounds_toArray, List.set_cons_zero, List.set_cons_succ]
              refine wpAnyH_done (by kernel_rfl) ?_ _
              go_wp2
              go_ret
              exact ⟨ret_bool (HBAD.out.symm.trans HZ.out), HF.out⟩
            · have HRQ := hid (show (isNull xc xt xk xy xx || isReal xc xt xk xy xx) = true from hrq)
              have HOK := hid (show enB ⟨xs, xv, xc, xt, xk, xy, xx⟩ = true by unfold enB; rw [hrq, Bool.and_true]; exact decide_eq_true ⟨p1, by show xs ≤ 1073741824; omega, by show xv ≤ 1048576; omega⟩)
              clear hrq
              by_cases p4 : j = 0
              · subst p4
                have HI2 := hid (EntI.first (ah := seqB) HX.out HOK.out)
                refine wp_region_held_drew (S := fun wx => wx.cell? ⟨eb, 0, none⟩ = some (.int .u32 xs) ∧ wx.cell? ⟨eb, 1, none⟩ = some (.int .u32 xv) ∧ wx.cell? ⟨eb, 2, none⟩ = some (.int .u8 xc) ∧ wx.cell? ⟨eb, 3, none⟩ = some (.int .u32 xt) ∧ wx.cell? ⟨eb, 4, none⟩ = some (.int .u8 xk) ∧ wx.cell? ⟨eb, 5, none⟩ = some (.int .u8 xy) ∧ wx.cell? ⟨eb, 6, none⟩ = some (.int .u16 xx)) (by kernel_rfl) ?_ (fun hHeld => ?_)
                · exact ⟨HEB.out.cell 0, HEB.out.cell 1, HEB.out.cell 2, HEB.out.cell 3, HEB.out.cell 4, HEB.out.cell 5, HEB.out.cell 6⟩
                refine wpAnyH_take (i := 0) (oi := ⟨some 14, _, _, _, _, _⟩) (v := ?v63) rfl (by kernel_rfl) (by kernel_rfl) (by kernel_rfl) (fun _ _ _ h => h) (Or.inl ⟨by rfl, ?y63⟩) (by assumption) ?r63
                case y63 => (intro wx hSx; (try dsimp only at hSx); go_simp; (try with_reducible rfl))
                try simp only [Act.put, List.setIfInBounds_toArray, List.set_cons_zero, List.set_cons_succ]
                refine wpAnyH_take (i := 1) (oi := ⟨some 15, _, _, _, _, _⟩) (v := ?v64) rfl (by kernel_rfl) (by kernel_rfl) (by kernel_rfl) (fun _ _ _ h => h) (Or.inl ⟨by rfl, ?y64⟩) (by assumption) ?r64
                case y64 => (intro wx hSx; (try dsimp only at hSx); go_simp; (try with_reducible rfl))
                try simp only [Act.put, List.setIfInBounds_toArray, List.set_cons_zero, List.set_cons_succ]
                refine wpAnyH_take (i := 2) (oi := ⟨some 16, _, _, _, _, _⟩) (v := ?v65) rfl (by kernel_rfl) (by kernel_rfl) (by kernel_rfl) (fun _ _ _ h => h) (Or.inl ⟨by rfl, ?y65⟩) (by assumption) ?r65
                case y65 => (intro wx hSx; (try dsimp only at hSx); go_simp; (try with_reducible rfl))
                try simp only [Act.put, List.setIfInBounds_toArray, List.set_cons_zero, List.set_cons_succ]
                refine wpAnyH_take (i := 3) (oi := ⟨some 17, _, _, _, _, _⟩) (v := ?v66) rfl (by kernel_rfl) (by kernel_rfl) (by kernel_rfl) (fun _ _ _ h => h) (Or.inl ⟨by rfl, ?y66⟩) (by assumption) ?r66
                case y66 => (intro wx hSx; (try dsimp only at hSx); go_simp; (try with_reducible rfl))
                try simp only [Act.put, List.setIfInBounds_toArray, List.set_cons_zero, List.set_cons_succ]
                refine wpAnyH_take (i := 4) (oi := ⟨some 18, _, _, _, _, _⟩) (v := ?v67) rfl (by kernel_rfl) (by kernel_rfl) (by kernel_rfl) (fun _ _ _ h => h) (Or.inl ⟨by rfl, ?y67⟩) (by assumption) ?r67
                case y67 => (intro wx hSx; (try dsimp only at hSx); go_simp; (try with_reducible rfl))
                try simp only [Act.put, List.setIfInBounds_toArray, List.set_cons_zero, List.set_cons_succ]
                refine wpAnyH_take (i := 5) (oi := ⟨some 19, _, _, _, _, _⟩) (v := ?v68) rfl (by kernel_rfl) (by kernel_rfl) (by kernel_rfl) (fun _ _ _ h => h) (Or.inl ⟨by rfl, ?y68⟩) (by assumption) ?r68
                case y68 => (intro wx hSx; (try dsimp only at hSx); go_simp; (try with_reducible rfl))
                try simp only [Act.put, List.setIfInBounds_toArray, List.set_cons_zero, List.set_cons_succ]
                refine wpAnyH_take (i := 6) (oi := ⟨some 20, _, _, _, _, _⟩) (v := ?v69) rfl (by kernel_rfl) (by kernel_rfl) (by kernel_rfl) (fun _ _ _ h => h) (Or.inl ⟨by rfl, ?y69⟩) (by assumption) ?r69
                case y69 => (intro wx hSx; (try dsimp only at hSx); go_simp; (try with_reducible rfl))
                try simp only [Act.put, List.setIfInBounds_toArray, List.set_cons_zero, List.set_cons_succ]
                refine wpAnyH_take (i := 7) (oi := ⟨some 21, _, _, _, _, _⟩) (v := ?v70) rfl (by kernel_rfl) (by kernel_rfl) (by kernel_rfl) (fun _ _ _ h => h) (Or.inl ⟨by rfl, ?y70⟩) (by assumption) ?r70
                case y70 => (intro wx hSx; (try dsimp only at hSx); go_simp; (try with_reducible rfl))
                try simp only [Act.put, List.setIfInBounds_toArray, List.set_cons_zero, List.set_cons_succ]
                refine wpAnyH_take (i := 8) (oi := ⟨some 22, _, _, _, _, _⟩) (v := ?v71) rfl (by kernel_rfl) (by kernel_rfl) (by kernel_rfl) (fun _ _ _ h => h) (Or.inl ⟨by rfl, ?y71⟩) (by assumption) ?r71
                case y71 => (intro wx hSx; (try dsimp only at hSx); go_simp; (try with_reducible rfl))
                try simp only [Act.put, List.setIfInBounds_toArray, List.set_cons_zero, List.set_cons_succ]
                refine wpAnyH_take (i := 9) (oi := ⟨some 23, _, _, _, _, _⟩) (v := ?v72) rfl (by kernel_rfl) (by kernel_rfl) (by kernel_rfl) (fun _ _ _ h => h) (Or.inl ⟨by rfl, ?y72⟩) (by assumption) ?r72
                case y72 => (intro wx hSx; (try dsimp only at hSx); go_simp; (try with_reducible rfl))
                try simp only [Act.put, List.setIfInBounds_toArray, List.set_cons_zero, List.set_cons_succ]
                refine wpAnyH_take (i := 10) (oi := ⟨some 24, _, _, _, _, _⟩) (v := ?v73) rfl (by kernel_rfl) (by kernel_rfl) (by kernel_rfl) (fun _ _ _ h => h) (Or.inl ⟨by rfl, ?y73⟩) (by assumption) ?r73
                case y73 => (intro wx hSx; (try dsimp only at hSx); go_simp; (try with_reducible rfl))
                try simp only [Act.put, List.setIfInBounds_toArray, List.set_cons_zero, List.set_cons_succ]
                refine wpAnyH_take (i := 11) (oi := ⟨some 25, _, _, _, _, _⟩) (v := ?v74) rfl (by kernel_rfl) (by kernel_rfl) (by kernel_rfl) (fun _ _ _ h => h) (Or.inl ⟨by rfl, ?y74⟩) (by assumption) ?r74
                case y74 => (intro wx hSx; (try dsimp only at hSx); go_simp; (try with_reducible rfl))
                try simp only [Act.put, List.setIfInBounds_toArray, List.set_cons_zero, List.set_cons_succ]
                refine wpAnyH_take (i := 12) (oi := ⟨some 26, _, _, _, _, _⟩) (v := ?v75) rfl (by kernel_rfl) (by kernel_rfl) (by kernel_rfl) (fun _ _ _ h => h) (Or.inl ⟨by rfl, ?y75⟩) (by assumption) ?r75
                case y75 => (intro wx hSx; (try dsimp only at hSx); go_simp; (try with_reducible rfl))
                try simp only [Act.put, List.setIfInBounds_toArray, List.set_cons_zero, List.set_cons_succ]
                refine wpAnyH_take (i := 13) (oi := ⟨some 27, _, _, _, _, _⟩) (v := ?v76) rfl (by kernel_rfl) (by kernel_rfl) (by kernel_rfl) (fun _ _ _ h => h) (Or.inl ⟨by rfl, ?y76⟩) (by assumption) ?r76
                case y76 => (intro wx hSx; (try dsimp only at hSx); go_simp; (try with_reducible rfl))
                try simp only [Act.put, List.setIfInBounds_toArray, List.set_cons_zero, List.set_cons_succ]
                refine wpAnyH_take (i := 14) (oi := ⟨some 28, _, _, _, _, _⟩) (v := ?v77) rfl (by kernel_rfl) (by kernel_rfl) (by kernel_rfl) (fun _ _ _ h => h) (Or.inl ⟨by rfl, ?y77⟩) (by assumption) ?r77
                case y77 => (intro wx hSx; (try dsimp only at hSx); go_simp; (try with_reducible rfl))
                try simp only [Act.put, List.setIfInBounds_toArray, List.set_cons_zero, List.set_cons_succ]
                refine wpAnyH_take (i := 15) (oi := ⟨some 29, _, _, _, _, _⟩) (v := ?v78) rfl (by kernel_rfl) (by kernel_rfl) (by kernel_rfl) (fun _ _ _ h => h) (Or.inl ⟨by rfl, ?y78⟩) (by assumption) ?r78
                case y78 => (intro wx hSx; (try dsimp only at hSx); go_simp; (try with_reducible rfl))
                try simp only [Act.put, List.setIfInBounds_toArray, List.set_cons_zero, List.set_cons_succ]
                refine wpAnyH_ready (rs := [16]) (by kernel_rfl) (by simp) ?_
                refine AllReadyH.cons (o := ⟨some 30, _, _, _, _, _⟩) rfl (fun K hK => ?_) AllReadyH.nil
                go_simp
                go_wp2_with ((go_at_call 47; (with_reducible refine (MIsReq_calls _ xc xt xk xy xx true HRQ.out).mono ?_); rintro e w5 ⟨rfl, f'⟩; have n1 := hid (HEB.out.frm f' (fun h => h)); have n2 := hid (HF.out.trans f'); have n3 := hid (HRW.out.quiet f'); clear HEB HF HRW f'; have HEB := n1; have HF := n2; have HRW := n3; clear n1 n2 n3))
                refine hK.out _ _ ?_ (fun hHeld2 => ?_)
                · ((try dsimp only); (first | go_keep | exact ⟨HEB.out.cell 0, HEB.out.cell 1, HEB.out.cell 2, HEB.out.cell 3, HEB.out.cell 4, HEB.out.cell 5, HEB.out.cell 6⟩))
                clear hK K hHeld; have hHeld := hHeld2; clear hHeld2
                try simp only [Act.put, List.setIfInBounds_toArray, List.set_cons_zero, List.set_cons_succ]
                refine wpAnyH_take (i := 17) (oi := ⟨some 31, _, _, _, _, _⟩) (v := ?v79) rfl (by kernel_rfl) (by kernel_rfl) (by kernel_rfl) (fun _ _ _ h => h) (Or.inl ⟨by rfl, ?y79⟩) (by assumption) ?r79
                case y79 => (intro wx hSx; (try dsimp only at hSx); go_simp; (try with_reducible rfl))
                try simp only [Act.put, List.setIfInBounds_toArray, List.set_cons_zero, List.set_cons_succ]
                refine wpAnyH_take (i := 18) (oi := ⟨some 32, _, _, _, _, _⟩) (v := ?v80) rfl (by kernel_rfl) (by kernel_rfl) (by kernel_rfl) (fun _ _ _ h => h) (Or.inl ⟨by rfl, ?y80⟩) (by assumption) ?r80
                case y80 => (intro wx hSx; (try dsimp only at hSx); go_simp; (try with_reducible rfl))
                try simp only [Act.put, List.setIfInBounds_toArray, List.set_cons_zero, List.set_cons_succ]
                refine wpAnyH_take (i := 19) (oi := ⟨some 33, _, _, _, _, _⟩) (v := ?v81) rfl (by kernel_rfl) (by kernel_rfl) (by kernel_rfl) (fun _ _ _ h => h) (Or.inl ⟨by rfl, ?y81⟩) (by assumption) ?r81
                case y81 => (intro wx hSx; (try dsimp only at hSx); go_simp; (try with_reducible rfl))
                try simp only [Act.put, List.setIfInBounds_toArray, List.set_cons_zero, List.set_cons_succ]
                refine wpAnyH_take (i := 20) (oi := ⟨some 34, _, _, _, _, _⟩) (v := ?v82) rfl (by kernel_rfl) (by kernel_rfl) (by kernel_rfl) (fun _ _ _ h => h) (Or.inl ⟨by rfl, ?y82⟩) (by assumption) ?r82
                case y82 => (intro wx hSx; (try dsimp only at hSx); go_simp; (try with_reducible rfl))
                try simp only [Act.put, List.setIfInBounds_toArray, List.set_cons_zero, List.set_cons_succ]
                refine wpAnyH_take (i := 21) (oi := ⟨some 35, _, _, _, _, _⟩) (v := ?v83) rfl (by kernel_rfl) (by kernel_rfl) (by kernel_rfl) (fun _ _ _ h => h) (Or.inl ⟨by rfl, ?y83⟩) (by assumption) ?r83
                case y83 => (intro wx hSx; (try dsimp only at hSx); go_simp; (try with_reducible rfl))
                try simp only [Act.put, List.setIfInBounds_toArray, List.set_cons_zero, List.set_cons_succ]
                refine wpAnyH_take (i := 22) (oi := ⟨some 36, _, _, _, _, _⟩) (v := ?v84) rfl (by kernel_rfl) (by kernel_rfl) (by kernel_rfl) (fun _ _ _ h => h) (Or.inl ⟨by rfl, ?y84⟩) (by assumption) ?r84
                case y84 => (intro wx hSx; (try dsimp only at hSx); go_simp; (try with_reducible rfl))
                try simp only [Act.put, List.setIfInBounds_toArray, List.set_cons_zero, List.set_cons_succ]
                refine wpAnyH_take (i := 23) (oi := ⟨some 37, _, _, _, _, _⟩) (v := undef) rfl (by kernel_rfl) (by kernel_rfl) (by kernel_rfl) (fun _ _ _ h => h) (Or.inr ⟨by rfl, rfl⟩) (by assumption) ?_
                try simp only [Act.put, List.setIfInBounds_toArray, List.set_cons_zero, List.set_cons_succ]
                refine wpAnyH_take (i := 24) (oi := ⟨some 38, _, _, _, _, _⟩) (v := undef) rfl (by kernel_rfl) (by kernel_rfl) (by kernel_rfl) (fun _ _ _ h => h) (Or.inr ⟨by rfl, rfl⟩) (by assumption) ?_
                try simp only [Act.put, List.setIfInBounds_toArray, List.set_cons_zero, List.set_cons_succ]
                refine wpAnyH_take (i := 25) (oi := ⟨some 39, _, _, _, _, _⟩) (v := undef) rfl (by kernel_rfl) (by kernel_rfl) (by kernel_rfl) (fun _ _ _ h => h) (Or.inr ⟨by rfl, rfl⟩) (by assumption) ?_
                try simp only [Act.put, List.setIfInBounds_toArray, List.set_cons_zero, List.set_cons_succ]
                refine wpAnyH_take (i := 26) (oi := ⟨some 40, _, _, _, _, _⟩) (v := undef) rfl (by kernel_rfl) (by kernel_rfl) (by kernel_rfl) (fun _ _ _ h => h) (Or.inr ⟨by rfl, rfl⟩) (by assumption) ?_
                try simp only [Act.put, List.setIfInBounds_toArray, List.set_cons_zero, List.set_cons_succ]
                refine wpAnyH_take (i := 27) (oi := ⟨some 41, _, _, _, _, _⟩) (v := undef) rfl (by kernel_rfl) (by kernel_rfl) (by kernel_rfl) (fun _ _ _ h => h) (Or.inr ⟨by rfl, rfl⟩) (by assumption) ?_
                try simp only [Act.put, List.setIfInBounds_toArray, List.set_cons_zero, List.set_cons_succ]
                refine wpAnyH_take (i := 28) (oi := ⟨some 42, _, _, _, _, _⟩) (v := undef) rfl (by kernel_rfl) (by kernel_rfl) (by kernel_rfl) (fun _ _ _ h => h) (Or.inr ⟨by rfl, rfl⟩) (by assumption) ?_
                try simp only [Act.put, List.setIfInBounds_toArray, List.set_cons_zero, List.set_cons_succ]
                refine wpAnyH_take (i := 29) (oi := ⟨some 43, _, _, _, _, _⟩) (v := undef) rfl (by kernel_rfl) (by kernel_rfl) (by kernel_rfl) (fun _ _ _ h => h) (Or.inr ⟨by rfl, rfl⟩) (by assumption) ?_
                try simp only [Act.put, List.setIfInBounds_toArray, List.set_cons_zero, List.set_cons_succ]
                refine wpAnyH_take (i := 30) (oi := ⟨some 44, _, _, _, _, _⟩) (v := undef) rfl (by kernel_rfl) (by kernel_rfl) (by kernel_rfl) (fun _ _ _ h => h) (Or.inr ⟨by rfl, rfl⟩) (by assumption) ?_
                try simp only [Act.put, List.setIfInBounds_toArray, List.set_cons_zero, List.set_cons_succ]
                refine wpAnyH_take (i := 31) (oi := ⟨some 45, _, _, _, _, _⟩) (v := undef) rfl (by kernel_rfl) (by kernel_rfl) (by kernel_rfl) (fun _ _ _ h => h) (Or.inr ⟨by rfl, rfl⟩) (by assumption) ?_
                try simp only [Act.put, List.setIfInBounds_toArray, List.set_cons_zero, List.set_cons_succ]
                refine wpAnyH_take (i := 32) (oi := ⟨some 46, _, _, _, _, _⟩) (v := ?v85) rfl (by kernel_rfl) (by kernel_rfl) (by kernel_rfl) (fun _ _ _ h => h) (Or.inl ⟨by rfl, ?y85⟩) (by assumption) ?r85
                case y85 => (intro wx hSx; (try dsimp only at hSx); go_simp; (try with_reducible rfl))
                try simp only [Act.put, List.setIfInBounds_toArray, List.set_cons_zero, List.set_cons_succ]
                refine wpAnyH_take (i := 33) (oi := ⟨some 47, _, _, _, _, _⟩) (v := ?v86) rfl (by kernel_rfl) (by kernel_rfl) (by kernel_rfl) (fun _ _ _ h => h) (Or.inl ⟨by rfl, ?y86⟩) (by assumption) ?r86
                case y86 => (intro wx hSx; (try dsimp only at hSx); go_simp; (try with_reducible rfl))
                try simp only [Act.put, List.setIfInBounds_toArray, List.set_cons_zero, List.set_cons_succ]
                refine wpAnyH_done (by kernel_rfl) ?_ _
                go_wp2
                go_roundw
                case rel => exact ⟨1, by have := HLT.out; omega, by first | rfl | go_num, HI2.out, HF.out⟩
                case measure => have := HLT.out; simp [intOf]; omega
              · obtain ⟨q, hq⟩ : ∃ q, q + 1 = j := ⟨j - 1, by omega⟩
                obtain ⟨⟨ys, yv, yc, yt, yk, yy, yx⟩, hy⟩ : ∃ y, l[q]? = some y := ⟨_, List.getElem?_eq_getElem (by rw [HL.out]; have := HLT.out; omega)⟩
                have HY := hid hy
                have HCY := hid (fun (w' : World) (hr : IsRow 7 enC w' (some ⟨g, o, none⟩) cap l) (i : Nat) (hi : i < 7) => (show w'.cell? ⟨g, o + q * 7 + i, none⟩ = (enC ⟨ys, yv, yc, yt, yk, yy, yx⟩)[i]? by
                  obtain ⟨b', o', e, _, hc⟩ := hr.at_ (by rw [HL.out]; have := HLT.out; omega)
                  injection e with e
                  injection e with e3 e4
                  subst e3 e4
                  exact hc q _ HY.out i hi))
                have hjN : 0 < j := by omega
                have hq1 : (j : Int) - 1 = (q : Int) := by omega
                have hq0 : (0 : Int) ≤ (q : Int) := by omega
                have hql : (q : Int) < (L : Int) := by omega
                have hqw : IntKind.i64.wrap (q : Int) = (q : Int) := by simp [IntKind.wrap, IntKind.bits, IntKind.signed]; omega
                have HQ := hid hq
                cases hah : seqB ⟨ys, yv, yc, yt, yk, yy, yx⟩ ⟨xs, xv, xc, xt, xk, xy, xx⟩
                · have HAH := hid hah
                  have HBAD := hid (ents_ord (ah := seqB) HY.out (by rw [HQ.out]; exact HX.out) hah)
                  clear hy hah p4 hq
                  refine wp_region_held_drew (S := fun wx => wx.cell? ⟨eb, 0, none⟩ = some (.int .u32 xs) ∧ wx.cell? ⟨eb, 1, none⟩ = some (.int .u32 xv) ∧ wx.cell? ⟨eb, 2, none⟩ = some (.int .u8 xc) ∧ wx.cell? ⟨eb, 3, none⟩ = some (.int .u32 xt) ∧ wx.cell? ⟨eb, 4, none⟩ = some (.int .u8 xk) ∧ wx.cell? ⟨eb, 5, none⟩ = some (.int .u8 xy) ∧ wx.cell? ⟨eb, 6, none⟩ = some (.int .u16 xx) ∧ wx.cell? ⟨g, o + q * 7, none⟩ = some (.int .u32 ys) ∧ wx.cell? ⟨g, o + q * 7 + 1, none⟩ = some (.int .u32 yv) ∧ wx.cell? ⟨g, o + q * 7 + 2, none⟩ = some (.int .u8 yc) ∧ wx.cell? ⟨g, o + q * 7 + 3, none⟩ = some (.int .u32 yt) ∧ wx.cell? ⟨g, o + q * 7 + 4, none⟩ = some (.int .u8 yk) ∧ wx.cell? ⟨g, o + q * 7 + 5, none⟩ = some (.int .u8 yy) ∧ wx.cell? ⟨g, o + q * 7 + 6, none⟩ = some (.int .u16 yx)) (by kernel_rfl) ?_ (fun hHeld => ?_)
                  · exact ⟨HEB.out.cell 0, HEB.out.cell 1, HEB.out.cell 2, HEB.out.cell 3, HEB.out.cell 4, HEB.out.cell 5, HEB.out.cell 6, HCY.out _ HRW.out 0 (by decide), HCY.out _ HRW.out 1 (by decide), HCY.out _ HRW.out 2 (by decide), HCY.out _ HRW.out 3 (by decide), HCY.out _ HRW.out 4 (by decide), HCY.out _ HRW.out 5 (by decide), HCY.out _ HRW.out 6 (by decide)⟩
                  refine wpAnyH_take (i := 0) (oi := ⟨some 14, _, _, _, _, _⟩) (v := ?v87) rfl (by kernel_rfl) (by kernel_rfl) (by kernel_rfl) (fun _ _ _ h => h) (Or.inl ⟨by rfl, ?y87⟩) (by assumption) ?r87
                  case y87 => (intro wx hSx; (try dsimp only at hSx); go_simp; (try with_reducible rfl))
                  try simp only [Act.put, List.setIfInBounds_toArray, List.set_cons_zero, List.set_cons_succ]
                  refine wpAnyH_take (i := 1) (oi := ⟨some 15, _, _, _, _, _⟩) (v := ?v88) rfl (by kernel_rfl) (by kernel_rfl) (by kernel_rfl) (fun _ _ _ h => h) (Or.inl ⟨by rfl, ?y88⟩) (by assumption) ?r88
                  case y88 => (intro wx hSx; (try dsimp only at hSx); go_simp; (try with_reducible rfl))
                  try simp only [Act.put, List.setIfInBounds_toArray, List.set_cons_zero, List.set_cons_succ]
                  refine wpAnyH_take (i := 2) (oi := ⟨some 16, _, _, _, _, _⟩) (v := ?v89) rfl (by kernel_rfl) (by kernel_rfl) (by kernel_rfl) (fun _ _ _ h => h) (Or.inl ⟨by rfl, ?y89⟩) (by assumption) ?r89
                  case y89 => (intro wx hSx; (try dsimp only at hSx); go_simp; (try with_reducible rfl))
                  try simp only [Act.put, List.setIfInBounds_toArray, List.set_cons_zero, List.set_cons_succ]
                  refine wpAnyH_take (i := 3) (oi := ⟨some 17, _, _, _, _, _⟩) (v := ?v90) rfl (by kernel_rfl) (by kernel_rfl) (by kernel_rfl) (fun _ _ _ h => h) (Or.inl ⟨by rfl, ?y90⟩) (by assumption) ?r90
                  case y90 => (intro wx hSx; (try dsimp only at hSx); go_simp; (try with_reducible rfl))
                  try simp only [Act.put, List.setIfInBounds_toArray, List.set_cons_zero, List.set_cons_succ]
                  refine wpAnyH_take (i := 4) (oi := ⟨some 18, _, _, _, _, _⟩) (v := ?v91) rfl (by kernel_rfl) (by kernel_rfl) (by kernel_rfl) (fun _ _ _ h => h) (Or.inl ⟨by rfl, ?y91⟩) (by assumption) ?r91
                  case y91 => (intro wx hSx; (try dsimp only at hSx); go_simp; (try with_reducible rfl))
                  try simp only [Act.put, List.setIfInBounds_toArray, List.set_cons_zero, List.set_cons_succ]
                  refine wpAnyH_take (i := 5) (oi := ⟨some 19, _, _, _, _, _⟩) (v := ?v92) rfl (by kernel_rfl) (by kernel_rfl) (by kernel_rfl) (fun _ _ _ h => h) (Or.inl ⟨by rfl, ?y92⟩) (by assumption) ?r92
                  case y92 => (intro wx hSx; (try dsimp only at hSx); go_simp; (try with_reducible rfl))
                  try simp only [Act.put, List.setIfInBounds_toArray, List.set_cons_zero, List.set_cons_succ]
                  refine wpAnyH_take (i := 6) (oi := ⟨some 20, _, _, _, _, _⟩) (v := ?v93) rfl (by kernel_rfl) (by kernel_rfl) (by kernel_rfl) (fun _ _ _ h => h) (Or.inl ⟨by rfl, ?y93⟩) (by assumption) ?r93
                  case y93 => (intro wx hSx; (try dsimp only at hSx); go_simp; (try with_reducible rfl))
                  try simp only [Act.put, List.setIfInBounds_toArray, List.set_cons_zero, List.set_cons_succ]
                  refine wpAnyH_take (i := 7) (oi := ⟨some 21, _, _, _, _, _⟩) (v := ?v94) rfl (by kernel_rfl) (by kernel_rfl) (by kernel_rfl) (fun _ _ _ h => h) (Or.inl ⟨by rfl, ?y94⟩) (by assumption) ?r94
                  case y94 => (intro wx hSx; (try dsimp only at hSx); go_simp; (try with_reducible rfl))
                  try simp only [Act.put, List.setIfInBounds_toArray, List.set_cons_zero, List.set_cons_succ]
                  refine wpAnyH_take (i := 8) (oi := ⟨some 22, _, _, _, _, _⟩) (v := ?v95) rfl (by kernel_rfl) (by kernel_rfl) (by kernel_rfl) (fun _ _ _ h => h) (Or.inl ⟨by rfl, ?y95⟩) (by assumption) ?r95
                  case y95 => (intro wx hSx; (try dsimp only at hSx); go_simp; (try with_reducible rfl))
                  try simp only [Act.put, List.setIfInBounds_toArray, List.set_cons_zero, List.set_cons_succ]
                  refine wpAnyH_take (i := 9) (oi := ⟨some 23, _, _, _, _, _⟩) (v := ?v96) rfl (by kernel_rfl) (by kernel_rfl) (by kernel_rfl) (fun _ _ _ h => h) (Or.inl ⟨by rfl, ?y96⟩) (by assumption) ?r96
                  case y96 => (intro wx hSx; (try dsimp only at hSx); go_simp; (try with_reducible rfl))
                  try simp only [Act.put, List.setIfInBounds_toArray, List.set_cons_zero, List.set_cons_succ]
                  refine wpAnyH_take (i := 10) (oi := ⟨some 24, _, _, _, _, _⟩) (v := ?v97) rfl (by kernel_rfl) (by kernel_rfl) (by kernel_rfl) (fun _ _ _ h => h) (Or.inl ⟨by rfl, ?y97⟩) (by assumption) ?r97
                  case y97 => (intro wx hSx; (try dsimp only at hSx); go_simp; (try with_reducible rfl))
                  try simp only [Act.put, List.setIfInBounds_toArray, List.set_cons_zero, List.set_cons_succ]
                  refine wpAnyH_take (i := 11) (oi := ⟨some 25, _, _, _, _, _⟩) (v := ?v98) rfl (by kernel_rfl) (by kernel_rfl) (by kernel_rfl) (fun _ _ _ h => h) (Or.inl ⟨by rfl, ?y98⟩) (by assumption) ?r98
                  case y98 => (intro wx hSx; (try dsimp only at hSx); go_simp; (try with_reducible rfl))
                  try simp only [Act.put, List.setIfInBounds_toArray, List.set_cons_zero, List.set_cons_succ]
                  refine wpAnyH_take (i := 12) (oi := ⟨some 26, _, _, _, _, _⟩) (v := ?v99) rfl (by kernel_rfl) (by kernel_rfl) (by kernel_rfl) (fun _ _ _ h => h) (Or.inl ⟨by rfl, ?y99⟩) (by assumption) ?r99
                  case y99 => (intro wx hSx; (try dsimp only at hSx); go_simp; (try with_reducible rfl))
                  try simp only [Act.put, List.setIfInBounds_toArray, List.set_cons_zero, List.set_cons_succ]
                  refine wpAnyH_take (i := 13) (oi := ⟨some 27, _, _, _, _, _⟩) (v := ?v100) rfl (by kernel_rfl) (by kernel_rfl) (by kernel_rfl) (fun _ _ _ h => h) (Or.inl ⟨by rfl, ?y100⟩) (by assumption) ?r100
                  case y100 => (intro wx hSx; (try dsimp only at hSx); go_simp; (try with_reducible rfl))
                  try simp only [Act.put, List.setIfInBounds_toArray, List.set_cons_zero, List.set_cons_succ]
                  refine wpAnyH_take (i := 14) (oi := ⟨some 28, _, _, _, _, _⟩) (v := ?v101) rfl (by kernel_rfl) (by kernel_rfl) (by kernel_rfl) (fun _ _ _ h => h) (Or.inl ⟨by rfl, ?y101⟩) (by assumption) ?r101
                  case y101 => (intro wx hSx; (try dsimp only at hSx); go_simp; (try with_reducible rfl))
                  try simp only [Act.put, List.setIfInBounds_toArray, List.set_cons_zero, List.set_cons_succ]
                  refine wpAnyH_take (i := 15) (oi := ⟨some 29, _, _, _, _, _⟩) (v := ?v102) rfl (by kernel_rfl) (by kernel_rfl) (by kernel_rfl) (fun _ _ _ h => h) (Or.inl ⟨by rfl, ?y102⟩) (by assumption) ?r102
                  case y102 => (intro wx hSx; (try dsimp only at hSx); go_simp; (try with_reducible rfl))
                  try simp only [Act.put, List.setIfInBounds_toArray, List.set_cons_zero, List.set_cons_succ]
                  refine wpAnyH_ready (rs := [16]) (by kernel_rfl) (by simp) ?_
                  refine AllReadyH.cons (o := ⟨some 30, _, _, _, _, _⟩) rfl (fun K hK => ?_) AllReadyH.nil
                  go_simp
                  go_wp2_with ((go_at_call 47; (with_reducible refine (MIsReq_calls _ xc xt xk xy xx true HRQ.out).mono ?_); rintro e w5 ⟨rfl, f'⟩; have n1 := hid (HEB.out.frm f' (fun h => h)); have n2 := hid (HF.out.trans f'); have n3 := hid (HRW.out.quiet f'); clear HEB HF HRW f'; have HEB := n1; have HF := n2; have HRW := n3; clear n1 n2 n3))
                  refine hK.out _ _ ?_ (fun hHeld2 => ?_)
                  · ((try dsimp only); (first | go_keep | exact ⟨HEB.out.cell 0, HEB.out.cell 1, HEB.out.cell 2, HEB.out.cell 3, HEB.out.cell 4, HEB.out.cell 5, HEB.out.cell 6, HCY.out _ HRW.out 0 (by decide), HCY.out _ HRW.out 1 (by decide), HCY.out _ HRW.out 2 (by decide), HCY.out _ HRW.out 3 (by decide), HCY.out _ HRW.out 4 (by decide), HCY.out _ HRW.out 5 (by decide), HCY.out _ HRW.out 6 (by decide)⟩))
                  clear hK K hHeld; have hHeld := hHeld2; clear hHeld2
                  try simp only [Act.put, List.setIfInBounds_toArray, List.set_cons_zero, List.set_cons_succ]
                  refine wpAnyH_take (i := 17) (oi := ⟨some 31, _, _, _, _, _⟩) (v := ?v103) rfl (by kernel_rfl) (by kernel_rfl) (by kernel_rfl) (fun _ _ _ h => h) (Or.inl ⟨by rfl, ?y103⟩) (by assumption) ?r103
                  case y103 => (intro wx hSx; (try dsimp only at hSx); go_simp; (try with_reducible rfl))
                  try simp only [Act.put, List.setIfInBounds_toArray, List.set_cons_zero, List.set_cons_succ]
                  refine wpAnyH_take (i := 18) (oi := ⟨some 32, _, _, _, _, _⟩) (v := ?v104) rfl (by kernel_rfl) (by kernel_rfl) (by kernel_rfl) (fun _ _ _ h => h) (Or.inl ⟨by rfl, ?y104⟩) (by assumption) ?r104
                  case y104 => (intro wx hSx; (try dsimp only at hSx); go_simp; (try with_reducible rfl))
                  try simp only [Act.put, List.setIfInBounds_toArray, List.set_cons_zero, List.set_cons_succ]
                  refine wpAnyH_take (i := 19) (oi := ⟨some 33, _, _, _, _, _⟩) (v := ?v105) rfl (by kernel_rfl) (by kernel_rfl) (by kernel_rfl) (fun _ _ _ h => h) (Or.inl ⟨by rfl, ?y105⟩) (by assumption) ?r105
                  case y105 => (intro wx hSx; (try dsimp only at hSx); go_simp; (try with_reducible rfl))
                  try simp only [Act.put, List.setIfInBounds_toArray, List.set_cons_zero, List.set_cons_succ]
                  refine wpAnyH_take (i := 20) (oi := ⟨some 34, _, _, _, _, _⟩) (v := ?v106) rfl (by kernel_rfl) (by kernel_rfl) (by kernel_rfl) (fun _ _ _ h => h) (Or.inl ⟨by rfl, ?y106⟩) (by assumption) ?r106
                  case y106 => (intro wx hSx; (try dsimp only at hSx); go_simp; (try with_reducible rfl))
                  try simp only [Act.put, List.setIfInBounds_toArray, List.set_cons_zero, List.set_cons_succ]
                  refine wpAnyH_take (i := 21) (oi := ⟨some 35, _, _, _, _, _⟩) (v := ?v107) rfl (by kernel_rfl) (by kernel_rfl) (by kernel_rfl) (fun _ _ _ h => h) (Or.inl ⟨by rfl, ?y107⟩) (by assumption) ?r107
                  case y107 => (intro wx hSx; (try dsimp only at hSx); go_simp; (try with_reducible rfl))
                  try simp only [Act.put, List.setIfInBounds_toArray, List.set_cons_zero, List.set_cons_succ]
                  refine wpAnyH_take (i := 22) (oi := ⟨some 36, _, _, _, _, _⟩) (v := ?v108) rfl (by kernel_rfl) (by kernel_rfl) (by kernel_rfl) (fun _ _ _ h => h) (Or.inl ⟨by rfl, ?y108⟩) (by assumption) ?r108
                  case y108 => (intro wx hSx; (try dsimp only at hSx); go_simp; (try with_reducible rfl))
                  try simp only [Act.put, List.setIfInBounds_toArray, List.set_cons_zero, List.set_cons_succ]
                  refine wpAnyH_take (i := 23) (oi := ⟨some 37, _, _, _, _, _⟩) (v := ?v109) rfl (by kernel_rfl) (by kernel_rfl) (by kernel_rfl) (fun _ _ _ h => h) (Or.inl ⟨by rfl, ?y109⟩) (by assumption) ?r109
                  case y109 => (intro wx hSx; (try dsimp only at hSx); go_simp; (try with_reducible rfl))
                  try simp only [Act.put, List.setIfInBounds_toArray, List.set_cons_zero, List.set_cons_succ]
                  refine wpAnyH_take (i := 24) (oi := ⟨some 38, _, _, _, _, _⟩) (v := ?v110) rfl (by kernel_rfl) (by kernel_rfl) (by kernel_rfl) (fun _ _ _ h => h) (Or.inl ⟨by rfl, ?y110⟩) (by assumption) ?r110
                  case y110 => (intro wx hSx; (try dsimp only at hSx); go_simp; (try with_reducible rfl))
                  try simp only [Act.put, List.setIfInBounds_toArray, List.set_cons_zero, List.set_cons_succ]
                  refine wpAnyH_take (i := 25) (oi := ⟨some 39, _, _, _, _, _⟩) (v := ?v111) rfl (by kernel_rfl) (by kernel_rfl) (by kernel_rfl) (fun _ _ _ h => h) (Or.inl ⟨by rfl, ?y111⟩) (by assumption) ?r111
                  case y111 => (intro wx hSx; (try dsimp only at hSx); go_simp; (try with_reducible rfl))
                  try simp only [Act.put, List.setIfInBounds_toArray, List.set_cons_zero, List.set_cons_succ]
                  refine wpAnyH_take (i := 26) (oi := ⟨some 40, _, _, _, _, _⟩) (v := ?v112) rfl (by kernel_rfl) (by kernel_rfl) (by kernel_rfl) (fun _ _ _ h => h) (Or.inl ⟨by rfl, ?y112⟩) (by assumption) ?r112
                  case y112 => (intro wx hSx; (try dsimp only at hSx); go_simp; (try with_reducible rfl))
                  try simp only [Act.put, List.setIfInBounds_toArray, List.set_cons_zero, List.set_cons_succ]
                  refine wpAnyH_take (i := 27) (oi := ⟨some 41, _, _, _, _, _⟩) (v := ?v113) rfl (by kernel_rfl) (by kernel_rfl) (by kernel_rfl) (fun _ _ _ h => h) (Or.inl ⟨by rfl, ?y113⟩) (by assumption) ?r113
                  case y113 => (intro wx hSx; (try dsimp only at hSx); go_simp; (try with_reducible rfl))
                  try simp only [Act.put, List.setIfInBounds_toArray, List.set_cons_zero, List.set_cons_succ]
                  refine wpAnyH_take (i := 28) (oi := ⟨some 42, _, _, _, _, _⟩) (v := ?v114) rfl (by kernel_rfl) (by kernel_rfl) (by kernel_rfl) (fun _ _ _ h => h) (Or.inl ⟨by rfl, ?y114⟩) (by assumption) ?r114
                  case y114 => (intro wx hSx; (try dsimp only at hSx); go_simp; (try with_reducible rfl))
                  try simp only [Act.put, List.setIfInBounds_toArray, List.set_cons_zero, List.set_cons_succ]
                  refine wpAnyH_take (i := 29) (oi := ⟨some 43, _, _, _, _, _⟩) (v := ?v115) rfl (by kernel_rfl) (by kernel_rfl) (by kernel_rfl) (fun _ _ _ h => h) (Or.inl ⟨by rfl, ?y115⟩) (by assumption) ?r115
                  case y115 => (intro wx hSx; (try dsimp only at hSx); go_simp; (try with_reducible rfl))
                  try simp only [Act.put, List.setIfInBounds_toArray, List.set_cons_zero, List.set_cons_succ]
                  refine wpAnyH_ready (rs := [30]) (by kernel_rfl) (by simp) ?_
                  refine AllReadyH.cons (o := ⟨some 44, _, _, _, _, _⟩) rfl (fun K hK => ?_) AllReadyH.nil
                  go_simp
                  go_wp2_with ((go_at_call 42; (with_reducible refine (ahead_calls _ ⟨ys, yv, yc, yt, yk, yy, yx⟩ ⟨xs, xv, xc, xt, xk, xy, xx⟩).mono ?_); rintro e w6 ⟨rfl, f'⟩; rw [HAH.out]; have n1 := hid (HEB.out.frm f' (fun h => h)); have n2 := hid (HF.out.trans f'); have n3 := hid (HRW.out.quiet f'); clear HEB HF HRW f'; have HEB := n1; have HF := n2; have HRW := n3; clear n1 n2 n3))
                  refine hK.out _ _ ?_ (fun hHeld2 => ?_)
                  · ((try dsimp only); (first | go_keep | exact ⟨HEB.out.cell 0, HEB.out.cell 1, HEB.out.cell 2, HEB.out.cell 3, HEB.out.cell 4, HEB.out.cell 5, HEB.out.cell 6, HCY.out _ HRW.out 0 (by decide), HCY.out _ HRW.out 1 (by decide), HCY.out _ HRW.out 2 (by decide), HCY.out _ HRW.out 3 (by decide), HCY.out _ HRW.out 4 (by decide), HCY.out _ HRW.out 5 (by decide), HCY.out _ HRW.out 6 (by decide)⟩))
                  clear hK K hHeld; have hHeld := hHeld2; clear hHeld2
                  try simp only [Act.put, List.setIfInBounds_toArray, List.set_cons_zero, List.set_cons_succ]
                  refine wpAnyH_take (i := 31) (oi := ⟨some 45, _, _, _, _, _⟩) (v := ?v116) rfl (by kernel_rfl) (by kernel_rfl) (by kernel_rfl) (fun _ _ _ h => h) (Or.inl ⟨by rfl, ?y116⟩) (by assumption) ?r116
                  case y116 => (intro wx hSx; (try dsimp only at hSx); go_simp; (try with_reducible rfl))
                  try simp only [Act.put, List.setIfInBounds_toArray, List.set_cons_zero, List.set_cons_succ]
                  refine wpAnyH_take (i := 32) (oi := ⟨some 46, _, _, _, _, _⟩) (v := ?v117) rfl (by kernel_rfl) (by kernel_rfl) (by kernel_rfl) (fun _ _ _ h => h) (Or.inl ⟨by rfl, ?y117⟩) (by assumption) ?r117
                  case y117 => (intro wx hSx; (try dsimp only at hSx); go_simp; (try with_reducible rfl))
                  try simp only [Act.put, List.setIfInBounds_toArray, List.set_cons_zero, List.set_cons_succ]
                  refine wpAnyH_take (i := 33) (oi := ⟨some 47, _, _, _, _, _⟩) (v := ?v118) rfl (by kernel_rfl) (by kernel_rfl) (by kernel_rfl) (fun _ _ _ h => h) (Or.inl ⟨by rfl, ?y118⟩) (by assumption) ?r118
                  case y118 => (intro wx hSx; (try dsimp only at hSx); go_simp; (try with_reducible rfl))
                  try simp only [Act.put, List.setIfInBounds_toArray, List.set_cons_zero, List.set_cons_succ]
                  refine wpAnyH_done (by kernel_rfl) ?_ _
                  go_wp2
                  go_ret
                  exact ⟨ret_bool (HBAD.out.symm.trans HZ.out), HF.out⟩
                · have HAH := hid hah
                  have HI2 := hid (show EntI seqB l (j + 1) by
                    rw [← HQ.out]
                    exact EntI.step (HQ.out.symm ▸ HI.out) HY.out (by rw [HQ.out]; exact HX.out) HOK.out hah)
                  clear hy hah p4 hq
                  refine wp_region_held_drew (S := fun wx => wx.cell? ⟨eb, 0, none⟩ = some (.int .u32 xs) ∧ wx.cell? ⟨eb, 1, none⟩ = some (.int .u32 xv) ∧ wx.cell? ⟨eb, 2, none⟩ = some (.int .u8 xc) ∧ wx.cell? ⟨eb, 3, none⟩ = some (.int .u32 xt) ∧ wx.cell? ⟨eb, 4, none⟩ = some (.int .u8 xk) ∧ wx.cell? ⟨eb, 5, none⟩ = some (.int .u8 xy) ∧ wx.cell? ⟨eb, 6, none⟩ = some (.int .u16 xx) ∧ wx.cell? ⟨g, o + q * 7, none⟩ = some (.int .u32 ys) ∧ wx.cell? ⟨g, o + q * 7 + 1, none⟩ = some (.int .u32 yv) ∧ wx.cell? ⟨g, o + q * 7 + 2, none⟩ = some (.int .u8 yc) ∧ wx.cell? ⟨g, o + q * 7 + 3, none⟩ = some (.int .u32 yt) ∧ wx.cell? ⟨g, o + q * 7 + 4, none⟩ = some (.int .u8 yk) ∧ wx.cell? ⟨g, o + q * 7 + 5, none⟩ = some (.int .u8 yy) ∧ wx.cell? ⟨g, o + q * 7 + 6, none⟩ = some (.int .u16 yx)) (by kernel_rfl) ?_ (fun hHeld => ?_)
                  · exact ⟨HEB.out.cell 0, HEB.out.cell 1, HEB.out.cell 2, HEB.out.cell 3, HEB.out.cell 4, HEB.out.cell 5, HEB.out.cell 6, HCY.out _ HRW.out 0 (by decide), HCY.out _ HRW.out 1 (by decide), HCY.out _ HRW.out 2 (by decide), HCY.out _ HRW.out 3 (by decide), HCY.out _ HRW.out 4 (by decide), HCY.out _ HRW.out 5 (by decide), HCY.out _ HRW.out 6 (by decide)⟩
                  refine wpAnyH_take (i := 0) (oi := ⟨some 14, _, _, _, _, _⟩) (v := ?v119) rfl (by kernel_rfl) (by kernel_rfl) (by kernel_rfl) (fun _ _ _ h => h) (Or.inl ⟨by rfl, ?y119⟩) (by assumption) ?r119
                  case y119 => (intro wx hSx; (try dsimp only at hSx); go_simp; (try with_reducible rfl))
                  try simp only [Act.put, List.setIfInBounds_toArray, List.set_cons_zero, List.set_cons_succ]
                  refine wpAnyH_take (i := 1) (oi := ⟨some 15, _, _, _, _, _⟩) (v := ?v120) rfl (by kernel_rfl) (by kernel_rfl) (by kernel_rfl) (fun _ _ _ h => h) (Or.inl ⟨by rfl, ?y120⟩) (by assumption) ?r120
                  case y120 => (intro wx hSx; (try dsimp only at hSx); go_simp; (try with_reducible rfl))
                  try simp only [Act.put, List.setIfInBounds_toArray, List.set_cons_zero, List.set_cons_succ]
                  refine wpAnyH_take (i := 2) (oi := ⟨some 16, _, _, _, _, _⟩) (v := ?v121) rfl (by kernel_rfl) (by kernel_rfl) (by kernel_rfl) (fun _ _ _ h => h) (Or.inl ⟨by rfl, ?y121⟩) (by assumption) ?r121
                  case y121 => (intro wx hSx; (try dsimp only at hSx); go_simp; (try with_reducible rfl))
                  try simp only [Act.put, List.setIfInBounds_toArray, List.set_cons_zero, List.set_cons_succ]
                  refine wpAnyH_take (i := 3) (oi := ⟨some 17, _, _, _, _, _⟩) (v := ?v122) rfl (by kernel_rfl) (by kernel_rfl) (by kernel_rfl) (fun _ _ _ h => h) (Or.inl ⟨by rfl, ?y122⟩) (by assumption) ?r122
                  case y122 => (intro wx hSx; (try dsimp only at hSx); go_simp; (try with_reducible rfl))
                  try simp only [Act.put, List.setIfInBounds_toArray, List.set_cons_zero, List.set_cons_succ]
                  refine wpAnyH_take (i := 4) (oi := ⟨some 18, _, _, _, _, _⟩) (v := ?v123) rfl (by kernel_rfl) (by kernel_rfl) (by kernel_rfl) (fun _ _ _ h => h) (Or.inl ⟨by rfl, ?y123⟩) (by assumption) ?r123
                  case y123 => (intro wx hSx; (try dsimp only at hSx); go_simp; (try with_reducible rfl))
                  try simp only [Act.put, List.setIfInBounds_toArray, List.set_cons_zero, List.set_cons_succ]
                  refine wpAnyH_take (i := 5) (oi := ⟨some 19, _, _, _, _, _⟩) (v := ?v124) rfl (by kernel_rfl) (by kernel_rfl) (by kernel_rfl) (fun _ _ _ h => h) (Or.inl ⟨by rfl, ?y124⟩) (by assumption) ?r124
                  case y124 => (intro wx hSx; (try dsimp only at hSx); go_simp; (try with_reducible rfl))
                  try simp only [Act.put, List.setIfInBounds_toArray, List.set_cons_zero, List.set_cons_succ]
                  refine wpAnyH_take (i := 6) (oi := ⟨some 20, _, _, _, _, _⟩) (v := ?v125) rfl (by kernel_rfl) (by kernel_rfl) (by kernel_rfl) (fun _ _ _ h => h) (Or.inl ⟨by rfl, ?y125⟩) (by assumption) ?r125
                  case y125 => (intro wx hSx; (try dsimp only at hSx); go_simp; (try with_reducible rfl))
                  try simp only [Act.put, List.setIfInBounds_toArray, List.set_cons_zero, List.set_cons_succ]
                  refine wpAnyH_take (i := 7) (oi := ⟨some 21, _, _, _, _, _⟩) (v := ?v126) rfl (by kernel_rfl) (by kernel_rfl) (by kernel_rfl) (fun _ _ _ h => h) (Or.inl ⟨by rfl, ?y126⟩) (by assumption) ?r126
                  case y126 => (intro wx hSx; (try dsimp only at hSx); go_simp; (try with_reducible rfl))
                  try simp only [Act.put, List.setIfInBounds_toArray, List.set_cons_zero, List.set_cons_succ]
                  refine wpAnyH_take (i := 8) (oi := ⟨some 22, _, _, _, _, _⟩) (v := ?v127) rfl (by kernel_rfl) (by kernel_rfl) (by kernel_rfl) (fun _ _ _ h => h) (Or.inl ⟨by rfl, ?y127⟩) (by assumption) ?r127
                  case y127 => (intro wx hSx; (try dsimp only at hSx); go_simp; (try with_reducible rfl))
                  try simp only [Act.put, List.setIfInBounds_toArray, List.set_cons_zero, List.set_cons_succ]
                  refine wpAnyH_take (i := 9) (oi := ⟨some 23, _, _, _, _, _⟩) (v := ?v128) rfl (by kernel_rfl) (by kernel_rfl) (by kernel_rfl) (fun _ _ _ h => h) (Or.inl ⟨by rfl, ?y128⟩) (by assumption) ?r128
                  case y128 => (intro wx hSx; (try dsimp only at hSx); go_simp; (try with_reducible rfl))
                  try simp only [Act.put, List.setIfInBounds_toArray, List.set_cons_zero, List.set_cons_succ]
                  refine wpAnyH_take (i := 10) (oi := ⟨some 24, _, _, _, _, _⟩) (v := ?v129) rfl (by kernel_rfl) (by kernel_rfl) (by kernel_rfl) (fun _ _ _ h => h) (Or.inl ⟨by rfl, ?y129⟩) (by assumption) ?r129
                  case y129 => (intro wx hSx; (try dsimp only at hSx); go_simp; (try with_reducible rfl))
                  try simp only [Act.put, List.setIfInBounds_toArray, List.set_cons_zero, List.set_cons_succ]
                  refine wpAnyH_take (i := 11) (oi := ⟨some 25, _, _, _, _, _⟩) (v := ?v130) rfl (by kernel_rfl) (by kernel_rfl) (by kernel_rfl) (fun _ _ _ h => h) (Or.inl ⟨by rfl, ?y130⟩) (by assumption) ?r130
                  case y130 => (intro wx hSx; (try dsimp only at hSx); go_simp; (try with_reducible rfl))
                  try simp only [Act.put, List.setIfInBounds_toArray, List.set_cons_zero, List.set_cons_succ]
                  refine wpAnyH_take (i := 12) (oi := ⟨some 26, _, _, _, _, _⟩) (v := ?v131) rfl (by kernel_rfl) (by kernel_rfl) (by kernel_rfl) (fun _ _ _ h => h) (Or.inl ⟨by rfl, ?y131⟩) (by assumption) ?r131
                  case y131 => (intro wx hSx; (try dsimp only at hSx); go_simp; (try with_reducible rfl))
                  try simp only [Act.put, List.setIfInBounds_toArray, List.set_cons_zero, List.set_cons_succ]
                  refine wpAnyH_take (i := 13) (oi := ⟨some 27, _, _, _, _, _⟩) (v := ?v132) rfl (by kernel_rfl) (by kernel_rfl) (by kernel_rfl) (fun _ _ _ h => h) (Or.inl ⟨by rfl, ?y132⟩) (by assumption) ?r132
                  case y132 => (intro wx hSx; (try dsimp only at hSx); go_simp; (try with_reducible rfl))
                  try simp only [Act.put, List.setIfInBounds_toArray, List.set_cons_zero, List.set_cons_succ]
                  refine wpAnyH_take (i := 14) (oi := ⟨some 28, _, _, _, _, _⟩) (v := ?v133) rfl (by kernel_rfl) (by kernel_rfl) (by kernel_rfl) (fun _ _ _ h => h) (Or.inl ⟨by rfl, ?y133⟩) (by assumption) ?r133
                  case y133 => (intro wx hSx; (try dsimp only at hSx); go_simp; (try with_reducible rfl))
                  try simp only [Act.put, List.setIfInBounds_toArray, List.set_cons_zero, List.set_cons_succ]
                  refine wpAnyH_take (i := 15) (oi := ⟨some 29, _, _, _, _, _⟩) (v := ?v134) rfl (by kernel_rfl) (by kernel_rfl) (by kernel_rfl) (fun _ _ _ h => h) (Or.inl ⟨by rfl, ?y134⟩) (by assumption) ?r134
                  case y134 => (intro wx hSx; (try dsimp only at hSx); go_simp; (try with_reducible rfl))
                  try simp only [Act.put, List.setIfInBounds_toArray, List.set_cons_zero, List.set_cons_succ]
                  refine wpAnyH_ready (rs := [16]) (by kernel_rfl) (by simp) ?_
                  refine AllReadyH.cons (o := ⟨some 30, _, _, _, _, _⟩) rfl (fun K hK => ?_) AllReadyH.nil
                  go_simp
                  go_wp2_with ((go_at_call 47; (with_reducible refine (MIsReq_calls _ xc xt xk xy xx true HRQ.out).mono ?_); rintro e w5 ⟨rfl, f'⟩; have n1 := hid (HEB.out.frm f' (fun h => h)); have n2 := hid (HF.out.trans f'); have n3 := hid (HRW.out.quiet f'); clear HEB HF HRW f'; have HEB := n1; have HF := n2; have HRW := n3; clear n1 n2 n3))
                  refine hK.out _ _ ?_ (fun hHeld2 => ?_)
                  · ((try dsimp only); (first | go_keep | exact ⟨HEB.out.cell 0, HEB.out.cell 1, HEB.out.cell 2, HEB.out.cell 3, HEB.out.cell 4, HEB.out.cell 5, HEB.out.cell 6, HCY.out _ HRW.out 0 (by decide), HCY.out _ HRW.out 1 (by decide), HCY.out _ HRW.out 2 (by decide), HCY.out _ HRW.out 3 (by decide), HCY.out _ HRW.out 4 (by decide), HCY.out _ HRW.out 5 (by decide), HCY.out _ HRW.out 6 (by decide)⟩))
                  clear hK K hHeld; have hHeld := hHeld2; clear hHeld2
                  try simp only [Act.put, List.setIfInBounds_toArray, List.set_cons_zero, List.set_cons_succ]
                  refine wpAnyH_take (i := 17) (oi := ⟨some 31, _, _, _, _, _⟩) (v := ?v135) rfl (by kernel_rfl) (by kernel_rfl) (by kernel_rfl) (fun _ _ _ h => h) (Or.inl ⟨by rfl, ?y135⟩) (by assumption) ?r135
                  case y135 => (intro wx hSx; (try dsimp only at hSx); go_simp; (try with_reducible rfl))
                  try simp only [Act.put, List.setIfInBounds_toArray, List.set_cons_zero, List.set_cons_succ]
                  refine wpAnyH_take (i := 18) (oi := ⟨some 32, _, _, _, _, _⟩) (v := ?v136) rfl (by kernel_rfl) (by kernel_rfl) (by kernel_rfl) (fun _ _ _ h => h) (Or.inl ⟨by rfl, ?y136⟩) (by assumption) ?r136
                  case y136 => (intro wx hSx; (try dsimp only at hSx); go_simp; (try with_reducible rfl))
                  try simp only [Act.put, List.setIfInBounds_toArray, List.set_cons_zero, List.set_cons_succ]
                  refine wpAnyH_take (i := 19) (oi := ⟨some 33, _, _, _, _, _⟩) (v := ?v137) rfl (by kernel_rfl) (by kernel_rfl) (by kernel_rfl) (fun _ _ _ h => h) (Or.inl ⟨by rfl, ?y137⟩) (by assumption) ?r137
                  case y137 => (intro wx hSx; (try dsimp only at hSx); go_simp; (try with_reducible rfl))
                  try simp only [Act.put, List.setIfInBounds_toArray, List.set_cons_zero, List.set_cons_succ]
                  refine wpAnyH_take (i := 20) (oi := ⟨some 34, _, _, _, _, _⟩) (v := ?v138) rfl (by kernel_rfl) (by kernel_rfl) (by kernel_rfl) (fun _ _ _ h => h) (Or.inl ⟨by rfl, ?y138⟩) (by assumption) ?r138
                  case y138 => (intro wx hSx; (try dsimp only at hSx); go_simp; (try with_reducible rfl))
                  try simp only [Act.put, List.setIfInBounds_toArray, List.set_cons_zero, List.set_cons_succ]
                  refine wpAnyH_take (i := 21) (oi := ⟨some 35, _, _, _, _, _⟩) (v := ?v139) rfl (by kernel_rfl) (by kernel_rfl) (by kernel_rfl) (fun _ _ _ h => h) (Or.inl ⟨by rfl, ?y139⟩) (by assumption) ?r139
                  case y139 => (intro wx hSx; (try dsimp only at hSx); go_simp; (try with_reducible rfl))
                  try simp only [Act.put, List.setIfInBounds_toArray, List.set_cons_zero, List.set_cons_succ]
                  refine wpAnyH_take (i := 22) (oi := ⟨some 36, _, _, _, _, _⟩) (v := ?v140) rfl (by kernel_rfl) (by kernel_rfl) (by kernel_rfl) (fun _ _ _ h => h) (Or.inl ⟨by rfl, ?y140⟩) (by assumption) ?r140
                  case y140 => (intro wx hSx; (try dsimp only at hSx); go_simp; (try with_reducible rfl))
                  try simp only [Act.put, List.setIfInBounds_toArray, List.set_cons_zero, List.set_cons_succ]
                  refine wpAnyH_take (i := 23) (oi := ⟨some 37, _, _, _, _, _⟩) (v := ?v141) rfl (by kernel_rfl) (by kernel_rfl) (by kernel_rfl) (fun _ _ _ h => h) (Or.inl ⟨by rfl, ?y141⟩) (by assumption) ?r141
                  case y141 => (intro wx hSx; (try dsimp only at hSx); go_simp; (try with_reducible rfl))
                  try simp only [Act.put, List.setIfInBounds_toArray, List.set_cons_zero, List.set_cons_succ]
                  refine wpAnyH_take (i := 24) (oi := ⟨some 38, _, _, _, _, _⟩) (v := ?v142) rfl (by kernel_rfl) (by kernel_rfl) (by kernel_rfl) (fun _ _ _ h => h) (Or.inl ⟨by rfl, ?y142⟩) (by assumption) ?r142
                  case y142 => (intro wx hSx; (try dsimp only at hSx); go_simp; (try with_reducible rfl))
                  try simp only [Act.put, List.setIfInBounds_toArray, List.set_cons_zero, List.set_cons_succ]
                  refine wpAnyH_take (i := 25) (oi := ⟨some 39, _, _, _, _, _⟩) (v := ?v143) rfl (by kernel_rfl) (by kernel_rfl) (by kernel_rfl) (fun _ _ _ h => h) (Or.inl ⟨by rfl, ?y143⟩) (by assumption) ?r143
                  case y143 => (intro wx hSx; (try dsimp only at hSx); go_simp; (try with_reducible rfl))
                  try simp only [Act.put, List.setIfInBounds_toArray, List.set_cons_zero, List.set_cons_succ]
                  refine wpAnyH_take (i := 26) (oi := ⟨some 40, _, _, _, _, _⟩) (v := ?v144) rfl (by kernel_rfl) (by kernel_rfl) (by kernel_rfl) (fun _ _ _ h => h) (Or.inl ⟨by rfl, ?y144⟩) (by assumption) ?r144
                  case y144 => (intro wx hSx; (try dsimp only at hSx); go_simp; (try with_reducible rfl))
                  try simp only [Act.put, List.setIfInBounds_toArray, List.set_cons_zero, List.set_cons_succ]
                  refine wpAnyH_take (i := 27) (oi := ⟨some 41, _, _, _, _, _⟩) (v := ?v145) rfl (by kernel_rfl) (by kernel_rfl) (by kernel_rfl) (fun _ _ _ h => h) (Or.inl ⟨by rfl, ?y145⟩) (by assumption) ?r145
                  case y145 => (intro wx hSx; (try dsimp only at hSx); go_simp; (try with_reducible rfl))
                  try simp only [Act.put, List.setIfInBounds_toArray, List.set_cons_zero, List.set_cons_succ]
                  refine wpAnyH_take (i := 28) (oi := ⟨some 42, _, _, _, _, _⟩) (v := ?v146) rfl (by kernel_rfl) (by kernel_rfl) (by kernel_rfl) (fun _ _ _ h => h) (Or.inl ⟨by rfl, ?y146⟩) (by assumption) ?r146
                  case y146 => (intro wx hSx; (try dsimp only at hSx); go_simp; (try with_reducible rfl))
                  try simp only [Act.put, List.setIfInBounds_toArray, List.set_cons_zero, List.set_cons_succ]
                  refine wpAnyH_take (i := 29) (oi := ⟨some 43, _, _, _, _, _⟩) (v := ?v147) rfl (by kernel_rfl) (by kernel_rfl) (by kernel_rfl) (fun _ _ _ h => h) (Or.inl ⟨by rfl, ?y147⟩) (by assumption) ?r147
                  case y147 => (intro wx hSx; (try dsimp only at hSx); go_simp; (try with_reducible rfl))
                  try simp only [Act.put, List.setIfInBounds_toArray, List.set_cons_zero, List.set_cons_succ]
                  refine wpAnyH_ready (rs := [30]) (by kernel_rfl) (by simp) ?_
                  refine AllReadyH.cons (o := ⟨some 44, _, _, _, _, _⟩) rfl (fun K hK => ?_) AllReadyH.nil
                  go_simp
                  go_wp2_with ((go_at_call 42; (with_reducible refine (ahead_calls _ ⟨ys, yv, yc, yt, yk, yy, yx⟩ ⟨xs, xv, xc, xt, xk, xy, xx⟩).mono ?_); rintro e w6 ⟨rfl, f'⟩; rw [HAH.out]; have n1 := hid (HEB.out.frm f' (fun h => h)); have n2 := hid (HF.out.trans f'); have n3 := hid (HRW.out.quiet f'); clear HEB HF HRW f'; have HEB := n1; have HF := n2; have HRW := n3; clear n1 n2 n3))
                  refine hK.out _ _ ?_ (fun hHeld2 => ?_)
                  · ((try dsimp only); (first | go_keep | exact ⟨HEB.out.cell 0, HEB.out.cell 1, HEB.out.cell 2, HEB.out.cell 3, HEB.out.cell 4, HEB.out.cell 5, HEB.out.cell 6, HCY.out _ HRW.out 0 (by decide), HCY.out _ HRW.out 1 (by decide), HCY.out _ HRW.out 2 (by decide), HCY.out _ HRW.out 3 (by decide), HCY.out _ HRW.out 4 (by decide), HCY.out _ HRW.out 5 (by decide), HCY.out _ HRW.out 6 (by decide)⟩))
                  clear hK K hHeld; have hHeld := hHeld2; clear hHeld2
                  try simp only [Act.put, List.setIfInBounds_toArray, List.set_cons_zero, List.set_cons_succ]
                  refine wpAnyH_take (i := 31) (oi := ⟨some 45, _, _, _, _, _⟩) (v := ?v148) rfl (by kernel_rfl) (by kernel_rfl) (by kernel_rfl) (fun _ _ _ h => h) (Or.inl ⟨by rfl, ?y148⟩) (by assumption) ?r148
                  case y148 => (intro wx hSx; (try dsimp only at hSx); go_simp; (try with_reducible rfl))
                  try simp only [Act.put, List.setIfInBounds_toArray, List.set_cons_zero, List.set_cons_succ]
                  refine wpAnyH_take (i := 32) (oi := ⟨some 46, _, _, _, _, _⟩) (v := ?v149) rfl (by kernel_rfl) (by kernel_rfl) (by kernel_rfl) (fun _ _ _ h => h) (Or.inl ⟨by rfl, ?y149⟩) (by assumption) ?r149
                  case y149 => (intro wx hSx; (try dsimp only at hSx); go_simp; (try with_reducible rfl))
                  try simp only [Act.put, List.setIfInBounds_toArray, List.set_cons_zero, List.set_cons_succ]
                  refine wpAnyH_take (i := 33) (oi := ⟨some 47, _, _, _, _, _⟩) (v := ?v150) rfl (by kernel_rfl) (by kernel_rfl) (by kernel_rfl) (fun _ _ _ h => h) (Or.inl ⟨by rfl, ?y150⟩) (by assumption) ?r150
                  case y150 => (intro wx hSx; (try dsimp only at hSx); go_simp; (try with_reducible rfl))
                  try simp only [Act.put, List.setIfInBounds_toArray, List.set_cons_zero, List.set_cons_succ]
                  refine wpAnyH_done (by kernel_rfl) ?_ _
                  go_wp2
                  go_roundw
                  case rel => exact ⟨j + 1, by have := HLT.out; omega, by first | rfl | go_num, HI2.out, HF.out⟩
                  case measure => have := HLT.out; simp [intOf]; omega
    · have hje : j = L := by omega
      subst hje
      have HE := hid (show decide (j ≤ 40) = z by rw [← HZ.out, ← HL.out]; exact (EntI.done (HL.out.symm ▸ HI.out)).symm)
      clear hlt hj
      by_cases h40 : j ≤ 40
      · have HT := hid (show true = z by rw [← HE.out, decide_eq_true h40])
        have h40i : (j : Int) ≤ 40 := by omega
        go_wp2
        go_ret
        exact ⟨ret_bool HT.out, HFw.out⟩
      · have HT := hid (show false = z by rw [← HE.out, decide_eq_false h40])
        have h40i : ¬ (j : Int) ≤ 40 := by omega
        go_wp2
        go_ret
        exact ⟨ret_bool HT.out, HFw.out⟩
end Go.Proofs.YtipalebaaejfjaaDoor
