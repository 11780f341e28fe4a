/- Votes without lists: IsVote, copied, vote, New, Top, Add. -/
import Derived.Test.YtkpeoenbeaapoaaDoorProg
import Derived.Test.YtkpeoenbeaapoaaDoorLib
import Derived.Laws.Rows
import Derived.Deep.RegionHeld3
namespace Go.Proofs.YtkpeoenbeaapoaaDoor
open Go.RowKit Go.ChangeShapes
set_option linter.unusedVariables false
set_option linter.unusedSimpArgs false
set_option maxRecDepth 100000
theorem vbox (w : World) (o : Obj) : Frm (fun _ => False) w (w.alloc o) := (Frm.refl _ _).alloc o
abbrev TVt : Nat := 31
abbrev TVs : Nat := 54
theorem vret_bool {a b : Bool} (h : a = b) : Ending.returned (.bool a) = Ending.returned (.bool b) := by rw [h]
/-- A vote without lists. -/
def vtC (f e v : Int) : List Value := [.int .u8 f, .int .u8 e, .int .u32 v, .int .u32 0, .slice none 0 0, .slice none 0 0, .slice none 0 0]
theorem Replica_calls (w : World) (f : Int) (z : Bool) (hz : decide (f < 4) = z) : Calls Tryd.prog 30 #[.int .u8 f] w fun e w' => e = .returned (.bool z) ∧ w = w' := by
  have HZ := hid hz; clear hz
  go_enter Tryd.func30, Tryd.ntmps30
  go_wp2
  go_ret
  exact ⟨vret_bool HZ.out, by first | rfl | trivial⟩
theorem Epoch_one (w : World) : Calls Tryd.prog 31 #[.int .u8 1] w fun e w' => e = .returned (.bool true) ∧ w = w' := by
  go_enter Tryd.func31, Tryd.ntmps31
  go_wp2
  go_ret
  exact ⟨rfl, by first | rfl | trivial⟩
theorem Entries_nil (w : World) (F : Value) : Calls Tryd.prog 32 #[.slice none 0 0, F] w fun e w' => e = .returned (.bool true) ∧ w = w' := by
  go_enter Tryd.func32, Tryd.ntmps32
  go_wp2
  go_loopw [9] (fun iv wr => iv = .int .i64 0 ∧ w = wr) (fun _ _ => 0)
  case atStart => exact ⟨rfl, rfl⟩
  case round =>
    obtain ⟨rfl, hw⟩ := hrel
    subst hw
    go_wp2
    go_ret
    exact ⟨rfl, by first | rfl | trivial⟩
theorem ListM_nil (w : World) : Calls Tryd.prog 35 #[.slice none 0 0] w fun e w' => e = .returned (.slice none 0 0) ∧ w = w' := by
  go_enter Tryd.func35, Tryd.ntmps35
  go_wp2
  go_ret
  exact ⟨rfl, by first | rfl | trivial⟩
theorem ListE_nil (w : World) : Calls Tryd.prog 36 #[.slice none 0 0] w fun e w' => e = .returned (.slice none 0 0) ∧ w = w' := by
  go_enter Tryd.func36, Tryd.ntmps36
  go_wp2
  go_ret
  exact ⟨rfl, by first | rfl | trivial⟩
theorem Vt_new (w : World) (f e v : Int) : Blk (w.alloc (.cells #[.int .u8 f, .int .u8 e, .int .u32 v, .int .u32 0, .slice none 0 0, .slice none 0 0, .slice none 0 0] TVt)) w.heap.size (vtC f e v) TVt := Blk.new w (vtC f e v) TVt
set_option maxHeartbeats 8000000 in
theorem MIsVote_calls (w : World) (f v : Int) (hv : 0 ≤ v) (z : Bool) (hz : decide (f < 4 ∧ 1 ≤ v ∧ v ≤ 1048576) = z) :
    Calls Tryd.prog 25 #[.agg #[.int .u8 f, .int .u8 1, .int .u32 v, .int .u32 0, .slice none 0 0, .slice none 0 0, .slice none 0 0]] w fun e w' => e = .returned (.bool z) ∧ Frm (fun _ => False) w w' := by
  have HZ := hid hz; clear hz
  obtain ⟨rp, hrp⟩ : ∃ rp, decide (f < 4) = rp := ⟨_, rfl⟩
  have HRP := hid hrp
  clear hrp
  go_enter Tryd.func25, Tryd.ntmps25
  go_wp2
  have HF := hid (vbox w (.cells #[.int .u8 f, .int .u8 1, .int .u32 v, .int .u32 0, .slice none 0 0, .slice none 0 0, .slice none 0 0] TVt))
  have HB := hid (Vt_new w f 1 v)
  go_loopw [8] (fun iv wr => iv = .int .i64 0 ∧ Blk wr w.heap.size (vtC f 1 v) TVt ∧ Frm (fun _ => False) w wr) (fun _ _ => 0)
  case atStart => exact ⟨rfl, HB.out, HF.out⟩
  case round =>
    clear HB HF
    obtain ⟨rfl, hb, hf⟩ := hrel
    have HB := hid hb; have HF := hid hf
    have b0 := hb.cell 0; have b1 := hb.cell 1; have b2 := hb.cell 2; have b3 := hb.cell 3; have b4 := hb.cell 4; have b5 := hb.cell 5; have b6 := hb.cell 6
    simp only [vtC, List.getElem?_cons_succ, List.getElem?_cons_zero] at b0 b1 b2 b3 b4 b5 b6
    clear hb hf
    go_wp2_with (first
      | (go_at_call 30; (with_reducible refine (Replica_calls _ f rp HRP.out).mono ?_); rintro e w' ⟨rfl, rfl⟩; skip)
      | (go_at_call 31; (with_reducible refine (Epoch_one _).mono ?_); rintro e w' ⟨rfl, rfl⟩; skip)
      | (go_at_call 32; (with_reducible refine (Entries_nil _ _).mono ?_); rintro e w' ⟨rfl, rfl⟩; skip))
    all_goals
      go_ret
      refine ⟨vret_bool ?_, HF.out⟩
      rw [← HZ.out]
      have h4 := HRP.out
      first | rfl | (simp [*]; done) | (simp_all; done) | (simp_all; omega)
set_option maxHeartbeats 8000000 in
theorem Vote_calls (w : World) (f v : Int) : Calls Tryd.prog 9 #[.int .u8 f, .int .u32 v] w fun e w' => e = .returned (.agg #[.int .u8 f, .int .u8 1, .int .u32 v, .int .u32 0, .slice none 0 0, .slice none 0 0, .slice none 0 0]) ∧ Frm (fun _ => False) w w' := by
  go_enter Tryd.func9, Tryd.ntmps9
  go_wp2
  refine bodyPost_ret (results_cell_row (P := Tryd.prog) rfl _ _ w.heap.size TVt #[.int .u8 f, .int .u8 1, .int .u32 v, .int .u32 0, .slice none 0 0, .slice none 0 0, .slice none 0 0] (0, 0) _ rfl (heap_alloc_new w _) Tryd.underlying31 rfl (by kernel_rfl)) rfl ?_
  exact ⟨rfl, vbox w _⟩
theorem vkd {w : World} {rb : Nat} (h : w.cell? ⟨rb, 4, none⟩ = some (.slice none 0 0) ∧ w.cell? ⟨rb, 5, none⟩ = some (.slice none 0 0) ∧ w.cell? ⟨rb, 6, none⟩ = some (.slice none 0 0)) : w.drew.cell? ⟨rb, 4, none⟩ = some (.slice none 0 0) ∧ w.drew.cell? ⟨rb, 5, none⟩ = some (.slice none 0 0) ∧ w.drew.cell? ⟨rb, 6, none⟩ = some (.slice none 0 0) := h
theorem vk4 {w : World} {rb : Nat} (h : w.cell? ⟨rb, 4, none⟩ = some (.slice none 0 0) ∧ w.cell? ⟨rb, 5, none⟩ = some (.slice none 0 0) ∧ w.cell? ⟨rb, 6, none⟩ = some (.slice none 0 0)) : (w.setCell ⟨rb, 4, none⟩ (.slice none 0 0)).cell? ⟨rb, 4, none⟩ = some (.slice none 0 0) ∧ (w.setCell ⟨rb, 4, none⟩ (.slice none 0 0)).cell? ⟨rb, 5, none⟩ = some (.slice none 0 0) ∧ (w.setCell ⟨rb, 4, none⟩ (.slice none 0 0)).cell? ⟨rb, 6, none⟩ = some (.slice none 0 0) := ⟨World.cell?_setCell_same _ _ _ h.1, (World.cell?_setCell_other _ _ _ _ (by simp)).trans h.2.1, (World.cell?_setCell_other _ _ _ _ (by simp)).trans h.2.2⟩
theorem vk5 {w : World} {rb : Nat} (h : w.cell? ⟨rb, 4, none⟩ = some (.slice none 0 0) ∧ w.cell? ⟨rb, 5, none⟩ = some (.slice none 0 0) ∧ w.cell? ⟨rb, 6, none⟩ = some (.slice none 0 0)) : (w.setCell ⟨rb, 5, none⟩ (.slice none 0 0)).cell? ⟨rb, 4, none⟩ = some (.slice none 0 0) ∧ (w.setCell ⟨rb, 5, none⟩ (.slice none 0 0)).cell? ⟨rb, 5, none⟩ = some (.slice none 0 0) ∧ (w.setCell ⟨rb, 5, none⟩ (.slice none 0 0)).cell? ⟨rb, 6, none⟩ = some (.slice none 0 0) := ⟨(World.cell?_setCell_other _ _ _ _ (by simp)).trans h.1, World.cell?_setCell_same _ _ _ h.2.1, (World.cell?_setCell_other _ _ _ _ (by simp)).trans h.2.2⟩
theorem vk6 {w : World} {rb : Nat} (h : w.cell? ⟨rb, 4, none⟩ = some (.slice none 0 0) ∧ w.cell? ⟨rb, 5, none⟩ = some (.slice none 0 0) ∧ w.cell? ⟨rb, 6, none⟩ = some (.slice none 0 0)) : (w.setCell ⟨rb, 6, none⟩ (.slice none 0 0)).cell? ⟨rb, 4, none⟩ = some (.slice none 0 0) ∧ (w.setCell ⟨rb, 6, none⟩ (.slice none 0 0)).cell? ⟨rb, 5, none⟩ = some (.slice none 0 0) ∧ (w.setCell ⟨rb, 6, none⟩ (.slice none 0 0)).cell? ⟨rb, 6, none⟩ = some (.slice none 0 0) := ⟨(World.cell?_setCell_other _ _ _ _ (by simp)).trans h.1, (World.cell?_setCell_other _ _ _ _ (by simp)).trans h.2.1, World.cell?_setCell_same _ _ _ h.2.2⟩
set_option maxHeartbeats 8000000 in
theorem Copied_calls (w : World) (f e v : Int) : Calls Tryd.prog 26 #[.agg #[.int .u8 f, .int .u8 e, .int .u32 v, .int .u32 0, .slice none 0 0, .slice none 0 0, .slice none 0 0]] w fun e' w' => e' = .returned (.agg #[.int .u8 f, .int .u8 e, .int .u32 v, .int .u32 0, .slice none 0 0, .slice none 0 0, .slice none 0 0]) ∧ Frm (fun _ => False) w w' := by
  go_enter Tryd.func26, Tryd.ntmps26
  go_wp2_with (fail)
  obtain ⟨W1, hW1⟩ : ∃ W1, (w.alloc (.cells #[.int .u8 f, .int .u8 e, .int .u32 v, .int .u32 0, .slice none 0 0, .slice none 0 0, .slice none 0 0] TVt)).alloc (.cells #[.int .u8 0, .int .u8 0, .int .u32 0, .int .u32 0, .slice none 0 0, .slice none 0 0, .slice none 0 0] TVt) = W1 := ⟨_, rfl⟩
  rw [hW1]
  have HB := hid (show Blk W1 w.heap.size (vtC f e v) TVt from hW1 ▸ (Vt_new w f e v).alloc _)
  have HC := hid (show Blk W1 (w.heap.size + 1) (vtC 0 0 0) TVt from hW1 ▸ (by have h := Vt_new (w.alloc (.cells #[.int .u8 f, .int .u8 e, .int .u32 v, .int .u32 0, .slice none 0 0, .slice none 0 0, .slice none 0 0] TVt)) 0 0 0; rw [World.size_alloc] at h; exact h))
  have HF := hid (show Frm (fun _ => False) w W1 from hW1 ▸ (vbox w _).alloc _)
  have b0 := HB.out.cell 0; have b1 := HB.out.cell 1; have b2 := HB.out.cell 2; have b3 := HB.out.cell 3; have b4 := HB.out.cell 4; have b5 := HB.out.cell 5; have b6 := HB.out.cell 6
  have c0 := HC.out.cell 0; have c1 := HC.out.cell 1; have c2 := HC.out.cell 2; have c3 := HC.out.cell 3; have c4 := HC.out.cell 4; have c5 := HC.out.cell 5; have c6 := HC.out.cell 6
  simp only [vtC, List.getElem?_cons_succ, List.getElem?_cons_zero] at b0 b1 b2 b3 b4 b5 b6 c0 c1 c2 c3 c4 c5 c6
  have z4 := HB.out.free 4; have z5 := HB.out.free 5; have z6 := HB.out.free 6
  have y0 := HC.out.free 0; have y1 := HC.out.free 1; have y2 := HC.out.free 2; have y3 := HC.out.free 3; have y4 := HC.out.free 4; have y5 := HC.out.free 5; have y6 := HC.out.free 6
  clear hW1
  obtain ⟨rb, hrb⟩ : ∃ rb, w.heap.size = rb := ⟨_, rfl⟩
  rw [hrb]
  rw [hrb] at b0 b1 b2 b3 b4 b5 b6 c0 c1 c2 c3 c4 c5 c6 z4 z5 z6 y0 y1 y2 y3 y4 y5 y6 HB HC
  have HRL := hid (show w.heap.size ≤ rb from Nat.le_of_eq hrb)
  clear hrb
  have hne : ¬ rb = rb + 1 := by omega
  refine wp_region_held_drew (S := fun wx => wx.cell? ⟨rb, 4, none⟩ = some (.slice none 0 0) ∧ wx.cell? ⟨rb, 5, none⟩ = some (.slice none 0 0) ∧ wx.cell? ⟨rb, 6, none⟩ = some (.slice none 0 0)) (by kernel_rfl) ?_ (fun hHeld => ?_)
  · exact ⟨b4, b5, b6⟩
  refine wpAnyH_take (i := 0) (oi := ⟨some 3, _, _, _, _, _⟩) (v := ?v1) rfl (by kernel_rfl) (by kernel_rfl) (by kernel_rfl) (fun _ _ _ h => h) (Or.inl ⟨by rfl, ?y1⟩) (by assumption) ?r1
  case y1 => (intro wx hSx; (try dsimp only at hSx); go_simp; (try with_reducible rfl))
  try simp only [Act.put, List.setIfInBounds_toArray, List.set_cons_zero, List.set_cons_succ]
  refine wpAnyH_take (i := 1) (oi := ⟨some 4, _, _, _, _, _⟩) (v := ?v2) rfl (by kernel_rfl) (by kernel_rfl) (by kernel_rfl) (fun _ _ _ h => h) (Or.inl ⟨by rfl, ?y2⟩) (by assumption) ?r2
  case y2 => (intro wx hSx; (try dsimp only at hSx); go_simp; (try with_reducible rfl))
  try simp only [Act.put, List.setIfInBounds_toArray, List.set_cons_zero, List.set_cons_succ]
  refine wpAnyH_take (i := 3) (oi := ⟨some 6, _, _, _, _, _⟩) (v := ?v3) rfl (by kernel_rfl) (by kernel_rfl) (by kernel_rfl) (fun _ _ _ h => h) (Or.inl ⟨by rfl, ?y3⟩) (by assumption) ?r3
  case y3 => (intro wx hSx; (try dsimp only at hSx); go_simp; (try with_reducible rfl))
  try simp only [Act.put, List.setIfInBounds_toArray, List.set_cons_zero, List.set_cons_succ]
  refine wpAnyH_take (i := 4) (oi := ⟨some 7, _, _, _, _, _⟩) (v := ?v4) rfl (by kernel_rfl) (by kernel_rfl) (by kernel_rfl) (fun _ _ _ h => h) (Or.inl ⟨by rfl, ?y4⟩) (by assumption) ?r4
  case y4 => (intro wx hSx; (try dsimp only at hSx); go_simp; (try with_reducible rfl))
  try simp only [Act.put, List.setIfInBounds_toArray, List.set_cons_zero, List.set_cons_succ]
  refine wpAnyH_take (i := 6) (oi := ⟨some 9, _, _, _, _, _⟩) (v := ?v5) rfl (by kernel_rfl) (by kernel_rfl) (by kernel_rfl) (fun _ _ _ h => h) (Or.inl ⟨by rfl, ?y5⟩) (by assumption) ?r5
  case y5 => (intro wx hSx; (try dsimp only at hSx); go_simp; (try with_reducible rfl))
  try simp only [Act.put, List.setIfInBounds_toArray, List.set_cons_zero, List.set_cons_succ]
  refine wpAnyH_take (i := 7) (oi := ⟨some 10, _, _, _, _, _⟩) (v := ?v6) rfl (by kernel_rfl) (by kernel_rfl) (by kernel_rfl) (fun _ _ _ h => h) (Or.inl ⟨by rfl, ?y6⟩) (by assumption) ?r6
  case y6 => (intro wx hSx; (try dsimp only at hSx); go_simp; (try with_reducible rfl))
  try simp only [Act.put, List.setIfInBounds_toArray, List.set_cons_zero, List.set_cons_succ]
  refine wpAnyH_ready (rs := [2]) (by kernel_rfl) (by simp) ?_
  refine AllReadyH.cons (o := ⟨some 5, _, _, _, _, _⟩) rfl (fun K hK => ?_) AllReadyH.nil
  go_simp
  go_wp2_with ((go_at_call 35; (with_reducible refine (ListM_nil _).mono ?_); rintro e w' ⟨rfl, rfl⟩; skip))
  refine hK.out _ _ ?_ (fun hHeld2 => ?_)
  · ((try dsimp only); exact ⟨b4, b5, b6⟩)
  clear hK K hHeld; have hHeld := hHeld2; clear hHeld2
  try simp only [Act.put, List.setIfInBounds_toArray, List.set_cons_zero, List.set_cons_succ]
  refine wpAnyH_take (i := 9) (oi := ⟨some 12, _, _, _, _, _⟩) (v := ?v7) rfl (by kernel_rfl) (by kernel_rfl) (by kernel_rfl) (fun _ _ _ h => h) (Or.inl ⟨by rfl, ?y7⟩) (by assumption) ?r7
  case y7 => (intro wx hSx; (try dsimp only at hSx); go_simp; (try with_reducible rfl))
  try simp only [Act.put, List.setIfInBounds_toArray, List.set_cons_zero, List.set_cons_succ]
  refine wpAnyH_ready (rs := [5]) (by kernel_rfl) (by simp) ?_
  refine AllReadyH.cons (o := ⟨some 8, _, _, _, _, _⟩) rfl (fun K hK => ?_) AllReadyH.nil
  go_simp
  go_wp2_with ((go_at_call 36; (with_reducible refine (ListE_nil _).mono ?_); rintro e w' ⟨rfl, rfl⟩; skip))
  refine hK.out _ _ ?_ (fun hHeld2 => ?_)
  · ((try dsimp only); exact ⟨b4, b5, b6⟩)
  clear hK K hHeld; have hHeld := hHeld2; clear hHeld2
  try simp only [Act.put, List.setIfInBounds_toArray, List.set_cons_zero, List.set_cons_succ]
  refine wpAnyH_ready (rs := [8]) (by kernel_rfl) (by simp) ?_
  refine AllReadyH.cons (o := ⟨some 11, _, _, _, _, _⟩) rfl (fun K hK => ?_) AllReadyH.nil
  go_simp
  go_wp2_with ((go_at_call 36; (with_reducible refine (ListE_nil _).mono ?_); rintro e w' ⟨rfl, rfl⟩; skip))
  refine hK.out _ _ ?_ (fun hHeld2 => ?_)
  · ((try dsimp only); exact ⟨b4, b5, b6⟩)
  clear hK K hHeld; have hHeld := hHeld2; clear hHeld2
  try simp only [Act.put, List.setIfInBounds_toArray, List.set_cons_zero, List.set_cons_succ]
  refine wpAnyH_ready (rs := [10]) (by kernel_rfl) (by simp) ?_
  refine AllReadyH.cons (o := ⟨none, _, _, _, _, _⟩) rfl (fun K hK => ?_) AllReadyH.nil
  go_simp
  refine hK.out _ _ ?_ (fun hHeld2 => ?_)
  · ((try dsimp only); exact vkd (vk4 ⟨b4, b5, b6⟩))
  clear hK K hHeld; have hHeld := hHeld2; clear hHeld2
  try simp only [Act.put, List.setIfInBounds_toArray, List.set_cons_zero, List.set_cons_succ]
  refine wpAnyH_take (i := 11) (oi := ⟨some 13, _, _, _, _, _⟩) (v := ?v8) rfl (by kernel_rfl) (by kernel_rfl) (by kernel_rfl) (fun _ _ _ h => h) (Or.inl ⟨by rfl, ?y8⟩) (by assumption) ?r8
  case y8 => (intro wx hSx; (try dsimp only at hSx); go_simp; (try with_reducible rfl))
  try simp only [Act.put, List.setIfInBounds_toArray, List.set_cons_zero, List.set_cons_succ]
  refine wpAnyH_ready (rs := [12]) (by kernel_rfl) (by simp) ?_
  refine AllReadyH.cons (o := ⟨none, _, _, _, _, _⟩) rfl (fun K hK => ?_) AllReadyH.nil
  go_simp
  refine hK.out _ _ ?_ (fun hHeld2 => ?_)
  · ((try dsimp only); exact vkd (vk5 (vk4 ⟨b4, b5, b6⟩)))
  clear hK K hHeld; have hHeld := hHeld2; clear hHeld2
  try simp only [Act.put, List.setIfInBounds_toArray, List.set_cons_zero, List.set_cons_succ]
  refine wpAnyH_take (i := 13) (oi := ⟨some 14, _, _, _, _, _⟩) (v := ?v9) rfl (by kernel_rfl) (by kernel_rfl) (by kernel_rfl) (fun _ _ _ h => h) (Or.inl ⟨by rfl, ?y9⟩) (by assumption) ?r9
  case y9 => (intro wx hSx; (try dsimp only at hSx); go_simp; (try with_reducible rfl))
  try simp only [Act.put, List.setIfInBounds_toArray, List.set_cons_zero, List.set_cons_succ]
  refine wpAnyH_ready (rs := [14]) (by kernel_rfl) (by simp) ?_
  refine AllReadyH.cons (o := ⟨none, _, _, _, _, _⟩) rfl (fun K hK => ?_) AllReadyH.nil
  go_simp
  refine hK.out _ _ ?_ (fun hHeld2 => ?_)
  · ((try dsimp only); exact vkd (vk6 (vk5 (vk4 ⟨b4, b5, b6⟩))))
  clear hK K hHeld; have hHeld := hHeld2; clear hHeld2
  try simp only [Act.put, List.setIfInBounds_toArray, List.set_cons_zero, List.set_cons_succ]
  refine wpAnyH_done (by kernel_rfl) ?_ _
  have HB2 := hid (show Blk (((W1.setCell ⟨rb, 4, none⟩ (.slice none 0 0)).setCell ⟨rb, 5, none⟩ (.slice none 0 0)).setCell ⟨rb, 6, none⟩ (.slice none 0 0)).drew rb (vtC f e v) TVt from ((HB.out.setCell 4 _).setCell 5 _).setCell 6 _)
  have HC2 := hid (show Blk (((W1.setCell ⟨rb, 4, none⟩ (.slice none 0 0)).setCell ⟨rb, 5, none⟩ (.slice none 0 0)).setCell ⟨rb, 6, none⟩ (.slice none 0 0)).drew (rb + 1) (vtC 0 0 0) TVt from ((HC.out.setOther _ _ (by simp)).setOther _ _ (by simp)).setOther _ _ (by simp))
  have HF2 := hid (show Frm (fun _ => False) w (((W1.setCell ⟨rb, 4, none⟩ (.slice none 0 0)).setCell ⟨rb, 5, none⟩ (.slice none 0 0)).setCell ⟨rb, 6, none⟩ (.slice none 0 0)).drew from (((HF.out.setCell ⟨rb, 4, none⟩ _ (.inl HRL.out)).setCell ⟨rb, 5, none⟩ _ (.inl HRL.out)).setCell ⟨rb, 6, none⟩ _ (.inl HRL.out)).drew)
  clear HB HC HF b0 b1 b2 b3 b4 b5 b6 c0 c1 c2 c3 c4 c5 c6 z4 z5 z6 y0 y1 y2 y3 y4 y5 y6 hHeld
  generalize (((W1.setCell ⟨rb, 4, none⟩ (.slice none 0 0)).setCell ⟨rb, 5, none⟩ (.slice none 0 0)).setCell ⟨rb, 6, none⟩ (.slice none 0 0)).drew = W2 at *
  have b0 := HB2.out.cell 0; have b1 := HB2.out.cell 1; have b2 := HB2.out.cell 2; have b3 := HB2.out.cell 3; have b4 := HB2.out.cell 4; have b5 := HB2.out.cell 5; have b6 := HB2.out.cell 6
  have c0 := HC2.out.cell 0; have c1 := HC2.out.cell 1; have c2 := HC2.out.cell 2; have c3 := HC2.out.cell 3; have c4 := HC2.out.cell 4; have c5 := HC2.out.cell 5; have c6 := HC2.out.cell 6
  simp only [vtC, List.getElem?_cons_succ, List.getElem?_cons_zero] at b0 b1 b2 b3 b4 b5 b6 c0 c1 c2 c3 c4 c5 c6
  have y0 := HC2.out.free 0; have y1 := HC2.out.free 1; have y2 := HC2.out.free 2; have y3 := HC2.out.free 3; have y4 := HC2.out.free 4; have y5 := HC2.out.free 5; have y6 := HC2.out.free 6
  go_wp2
  have HB3 := hid ((((((((HC2.out.setCell 0 (.int .u8 f)).setCell 1 (.int .u8 e)).setCell 2 (.int .u32 v)).setCell 3 (.int .u32 0)).setCell 4 (.slice none 0 0)).setCell 5 (.slice none 0 0)).setCell 6 (.slice none 0 0)))
  refine bodyPost_ret (results_cell_row (P := Tryd.prog) rfl _ _ (rb + 1) TVt #[.int .u8 f, .int .u8 e, .int .u32 v, .int .u32 0, .slice none 0 0, .slice none 0 0, .slice none 0 0] (0, 0) _ rfl HB3.out Tryd.underlying31 rfl (by kernel_rfl)) rfl ?_
  exact ⟨rfl, ((((((HF2.out.setCell ⟨rb + 1, 0, none⟩ _ (.inl (Nat.le_succ_of_le HRL.out))).setCell ⟨rb + 1, 1, none⟩ _ (.inl (Nat.le_succ_of_le HRL.out))).setCell ⟨rb + 1, 2, none⟩ _ (.inl (Nat.le_succ_of_le HRL.out))).setCell ⟨rb + 1, 3, none⟩ _ (.inl (Nat.le_succ_of_le HRL.out))).setCell ⟨rb + 1, 4, none⟩ _ (.inl (Nat.le_succ_of_le HRL.out))).setCell ⟨rb + 1, 5, none⟩ _ (.inl (Nat.le_succ_of_le HRL.out))).setCell ⟨rb + 1, 6, none⟩ _ (.inl (Nat.le_succ_of_le HRL.out))⟩
end Go.Proofs.YtkpeoenbeaapoaaDoor
