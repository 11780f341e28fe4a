/- The log within its window: New, Low, Primary, what is accepted, prepared, committed. -/
import Derived.Test.YtijomhinfcahpaaSlot4
import Derived.Test.YtijomhinfcahpaaHeld
import Derived.Deep.WholeRow
import Derived.Deep.MidRow
import Derived.Laws.Rows
namespace Go.Proofs.Ytijomhinfcahpaa
open Go.RowKit Go.ChangeShapes
set_option linter.unusedVariables false
set_option linter.unusedSimpArgs false
set_option maxRecDepth 20000
theorem Primary_calls (w : World) (view p : Int) (hv : 0 ≤ view) (hp : view % 4 = p) : Calls Try.prog 14 #[.int .u32 view] w fun e w' => e = .returned (.int .u8 p) ∧ w = w' := by
  have hb : 0 ≤ p ∧ p < 4 := by omega
  have e1 : IntKind.u8.wrap p = p := by simp [IntKind.wrap, IntKind.bits, IntKind.signed]; omega
  have e2 : view.tmod 4 = p := by rw [Int.tmod_eq_emod_of_nonneg hv]; exact hp
  have HB := hid hb; clear hb
  go_enter Try.func14, Try.ntmps14
  go_wp2
  go_ret
  exact ⟨rfl, rfl⟩
theorem LNew_calls (w : World) (low : Int) (hl : 0 ≤ low ∧ low ≤ 4294967295) : Calls Try.prog 9 #[.int .u32 low] w fun e w' => ∃ lb mb, e = .returned (.pointer (some ⟨lb, 0, none⟩)) ∧ IsLogG w' lb mb low 0 (fun _ => none) (fun _ => sl0) ∧ w.heap.size ≤ lb ∧ w.heap.size ≤ mb ∧ Below w.heap.size w w' := by
  have hmm := @run_makeMap Try.prog
  have HL := hid hl; clear hl
  have HM := hid (IsMp.made TU32 w)
  go_enter Try.func9, Try.ntmps9
  go_wp2
  go_ret
  have hb : Blk ((w.alloc (.map #[] 0)).alloc (.cells #[.int .u32 low, .map (some w.heap.size)] TLg)) (w.heap.size + 1) [.int .u32 low, .map (some w.heap.size)] TLg := by
    have := Blk.new (w.alloc (.map #[] 0)) [.int .u32 low, .map (some w.heap.size)] TLg
    rwa [World.size_alloc] at this
  refine ⟨_, _, rfl, IsLogG.mk hb ⟨0, Nat.le_refl _, ?_⟩ (fun s b h => absurd h (by simp)) (fun _ _ => rfl) (fun s s' b h => absurd h (by simp)) HL.out (fun s => by show 0 ≤ (0 : Int) ∧ (0 : Int) ≤ 4294967295; decide), by simp, Nat.le_refl _, ((Below.refl _ _).alloc (Nat.le_refl _) _).alloc (by simp) _⟩
  have : fOf (fun _ => none) = fun _ => none := by funext x; unfold fOf; split <;> rfl
  rw [this]
  exact HM.out.frm (frm_box _ _) (fun h => h)
theorem Low_calls {w : World} {lb mb N : Nat} {low : Int} {g : Int → Option Nat} {σ : Int → Sl} (h : IsLogG w lb mb low N g σ) : Calls Try.prog 19 #[.pointer (some ⟨lb, 0, none⟩)] w fun e w' => e = .returned (.int .u32 low) ∧ w = w' := by
  have q0 := h.blk.cell 0
  simp only [List.getElem?_cons_zero] at q0
  clear h
  go_enter Try.func19, Try.ntmps19
  go_wp2
  go_ret
  exact ⟨rfl, rfl⟩
/-- Have enough prepared it? -/
def rdyS (x : Sl) : Bool := decide (2 ≤ cnt4 x.p0 x.p1 x.p2 x.p3 x.acc (x.acc.vw % 4))
/-- Have enough committed it besides? -/
def comS (x : Sl) : Bool := rdyS x && decide (3 ≤ cnt4 x.c0 x.c1 x.c2 x.c3 x.acc (-1))
theorem sl_p {w : World} {b : Nat} {x : Sl} (h : Blk w b (slV x) TSl) : w.rangeAt b 7 (s4V x.p0 x.p1 x.p2 x.p3) := fun j v hj => by
  have hjl : j < 28 := (List.getElem?_eq_some_iff.1 hj).1
  rw [h.cell, show slV x = sdV x.acc ++ (s4V x.p0 x.p1 x.p2 x.p3 ++ s4V x.c0 x.c1 x.c2 x.c3) from rfl, List.getElem?_append_right (by show 7 ≤ 7 + j; omega), show 7 + j - (sdV x.acc).length = j by show 7 + j - 7 = j; omega, List.getElem?_append_left (by show j < 28; exact hjl), hj]
theorem sl_c {w : World} {b : Nat} {x : Sl} (h : Blk w b (slV x) TSl) : w.rangeAt b 35 (s4V x.c0 x.c1 x.c2 x.c3) := fun j v hj => by
  rw [h.cell, show slV x = (sdV x.acc ++ s4V x.p0 x.p1 x.p2 x.p3) ++ s4V x.c0 x.c1 x.c2 x.c3 from rfl, List.getElem?_append_right (by show 35 ≤ 35 + j; omega), show 35 + j - (sdV x.acc ++ s4V x.p0 x.p1 x.p2 x.p3).length = j by show 35 + j - 35 = j; omega, hj]
theorem hold_p {wx : World} {b : Nat} {x : Sl} (h : Blk wx b (slV x) TSl) : wx.rangeAt b 7 (s4V x.p0 x.p1 x.p2 x.p3) ∧ wx.cell? ⟨b, 0, none⟩ = some (.bool x.acc.th) ∧ wx.cell? ⟨b, 1, none⟩ = some (.int .u32 x.acc.vw) ∧ wx.cell? ⟨b, 2, none⟩ = some (.int .u8 x.acc.c) ∧ wx.cell? ⟨b, 3, none⟩ = some (.int .u32 x.acc.t) ∧ wx.cell? ⟨b, 4, none⟩ = some (.int .u8 x.acc.k) ∧ wx.cell? ⟨b, 5, none⟩ = some (.int .u8 x.acc.y) ∧ wx.cell? ⟨b, 6, none⟩ = some (.int .u16 x.acc.v) := ⟨sl_p h, h.cell 0, h.cell 1, h.cell 2, h.cell 3, h.cell 4, h.cell 5, h.cell 6⟩
theorem hold_c {wx : World} {b : Nat} {x : Sl} (h : Blk wx b (slV x) TSl) : wx.rangeAt b 35 (s4V x.c0 x.c1 x.c2 x.c3) ∧ wx.cell? ⟨b, 0, none⟩ = some (.bool x.acc.th) ∧ wx.cell? ⟨b, 1, none⟩ = some (.int .u32 x.acc.vw) ∧ wx.cell? ⟨b, 2, none⟩ = some (.int .u8 x.acc.c) ∧ wx.cell? ⟨b, 3, none⟩ = some (.int .u32 x.acc.t) ∧ wx.cell? ⟨b, 4, none⟩ = some (.int .u8 x.acc.k) ∧ wx.cell? ⟨b, 5, none⟩ = some (.int .u8 x.acc.y) ∧ wx.cell? ⟨b, 6, none⟩ = some (.int .u16 x.acc.v) := ⟨sl_c h, h.cell 0, h.cell 1, h.cell 2, h.cell 3, h.cell 4, h.cell 5, h.cell 6⟩
set_option maxHeartbeats 4000000 in
theorem Ready_calls {w : World} {b : Nat} {x : Sl} (h : Blk w b (slV x) TSl) (hv : 0 ≤ x.acc.vw ∧ x.acc.vw ≤ 4294967295) (z : Bool) (hz : rdyS x = z) :
    Calls Try.prog 33 #[.pointer (some ⟨b, 0, none⟩)] w fun e w' => e = .returned (.bool z) ∧ Frm (fun _ => False) w w' := by
  obtain ⟨p, hp⟩ : ∃ p, x.acc.vw % 4 = p := ⟨_, rfl⟩
  obtain ⟨n, hn⟩ : ∃ n, cnt4 x.p0 x.p1 x.p2 x.p3 x.acc p = n := ⟨_, rfl⟩
  unfold rdyS at hz
  rw [hp, hn] at hz
  have hpb : 0 ≤ p ∧ p < 4 := by omega
  have e1 : IntKind.i64.wrap p = p := by simp [IntKind.wrap, IntKind.bits, IntKind.signed]; omega
  have HB := hid h.drew
  have HB0 := hid h
  have HF := hid (frm_drew w)
  have HV := hid hv; have HP := hid hp; have HN := hid hn; have HPB := hid hpb; have HZ := hid hz
  clear h hv hp hn hpb hz
  go_enter Try.func33, Try.ntmps33
  go_wp2
  refine wp_region_held_drew (S := fun wx => wx.rangeAt b 7 (s4V x.p0 x.p1 x.p2 x.p3) ∧ wx.cell? ⟨b, 0, none⟩ = some (.bool x.acc.th) ∧ wx.cell? ⟨b, 1, none⟩ = some (.int .u32 x.acc.vw) ∧ wx.cell? ⟨b, 2, none⟩ = some (.int .u8 x.acc.c) ∧ wx.cell? ⟨b, 3, none⟩ = some (.int .u32 x.acc.t) ∧ wx.cell? ⟨b, 4, none⟩ = some (.int .u8 x.acc.k) ∧ wx.cell? ⟨b, 5, none⟩ = some (.int .u8 x.acc.y) ∧ wx.cell? ⟨b, 6, none⟩ = some (.int .u16 x.acc.v)) (by kernel_rfl) (hold_p HB0.out) (fun hHeld => ?_)
  refine wpAnyH_take (i := 0) (oi := ⟨some 3, _, _, _, _, _⟩) (v := ?v1) rfl (by kernel_rfl) (by kernel_rfl) (by kernel_rfl) (fun _ _ _ h => h) (Or.inl ⟨by rfl, ?y1⟩) (by assumption) ?r1
  case y1 => (intro wx hSx; (try dsimp only at hSx); go_simp; (try with_reducible rfl))
  try simp only [Act.put, List.setIfInBounds_toArray, List.set_cons_zero, List.set_cons_succ]
  refine wpAnyH_take (i := 1) (oi := ⟨some 4, _, _, _, _, _⟩) (v := ?v2) rfl (by kernel_rfl) (by kernel_rfl) (by kernel_rfl) (fun _ _ _ h => h) (Or.inl ⟨by rfl, ?y2⟩) (by assumption) ?r2
  case y2 => (intro wx hSx; (try dsimp only at hSx); go_simp; (try with_reducible rfl))
  try simp only [Act.put, List.setIfInBounds_toArray, List.set_cons_zero, List.set_cons_succ]
  refine wpAnyH_take (i := 2) (oi := ⟨some 5, _, _, _, _, _⟩) (v := ?v3) rfl (by kernel_rfl) (by kernel_rfl) (by kernel_rfl) (fun _ _ _ h => h) (Or.inl ⟨by rfl, ?y3⟩) (by assumption) ?r3
  case y3 => (intro wx hSx; (try dsimp only at hSx); go_simp; (try with_reducible rfl))
  try simp only [Act.put, List.setIfInBounds_toArray, List.set_cons_zero, List.set_cons_succ]
  refine wpAnyH_take (i := 3) (oi := ⟨some 6, _, _, _, _, _⟩) (v := .agg (s4V x.p0 x.p1 x.p2 x.p3).toArray) rfl (by kernel_rfl) (by kernel_rfl) (by kernel_rfl) (fun _ _ _ h => h) (yieldsIf_load_mid (by rfl) TS4 (.tmp 5) rfl b 7 rfl (s4V x.p0 x.p1 x.p2 x.p3) (.array 4 TSd) (fun w hS => hS.1) Try.underlying65 rfl (size_s4 _ _ _ _)) (by assumption) ?_
  try simp only [Act.put, List.setIfInBounds_toArray, List.set_cons_zero, List.set_cons_succ]
  refine wpAnyH_take (i := 4) (oi := ⟨some 7, _, _, _, _, _⟩) (v := ?v4) rfl (by kernel_rfl) (by kernel_rfl) (by kernel_rfl) (fun _ _ _ h => h) (Or.inl ⟨by rfl, ?y4⟩) (by assumption) ?r4
  case y4 => (intro wx hSx; (try dsimp only at hSx); go_simp; (try with_reducible rfl))
  try simp only [Act.put, List.setIfInBounds_toArray, List.set_cons_zero, List.set_cons_succ]
  refine wpAnyH_take (i := 5) (oi := ⟨some 8, _, _, _, _, _⟩) (v := ?v5) rfl (by kernel_rfl) (by kernel_rfl) (by kernel_rfl) (fun _ _ _ h => h) (Or.inl ⟨by rfl, ?y5⟩) (by assumption) ?r5
  case y5 => (intro wx hSx; (try dsimp only at hSx); go_simp; (try with_reducible rfl))
  try simp only [Act.put, List.setIfInBounds_toArray, List.set_cons_zero, List.set_cons_succ]
  refine wpAnyH_take (i := 6) (oi := ⟨some 9, _, _, _, _, _⟩) (v := ?v6) rfl (by kernel_rfl) (by kernel_rfl) (by kernel_rfl) (fun _ _ _ h => h) (Or.inl ⟨by rfl, ?y6⟩) (by assumption) ?r6
  case y6 => (intro wx hSx; (try dsimp only at hSx); go_simp; (try with_reducible rfl))
  try simp only [Act.put, List.setIfInBounds_toArray, List.set_cons_zero, List.set_cons_succ]
  refine wpAnyH_take (i := 7) (oi := ⟨some 10, _, _, _, _, _⟩) (v := ?v7) rfl (by kernel_rfl) (by kernel_rfl) (by kernel_rfl) (fun _ _ _ h => h) (Or.inl ⟨by rfl, ?y7⟩) (by assumption) ?r7
  case y7 => (intro wx hSx; (try dsimp only at hSx); go_simp; (try with_reducible rfl))
  try simp only [Act.put, List.setIfInBounds_toArray, List.set_cons_zero, List.set_cons_succ]
  refine wpAnyH_take (i := 8) (oi := ⟨some 11, _, _, _, _, _⟩) (v := ?v8) rfl (by kernel_rfl) (by kernel_rfl) (by kernel_rfl) (fun _ _ _ h => h) (Or.inl ⟨by rfl, ?y8⟩) (by assumption) ?r8
  case y8 => (intro wx hSx; (try dsimp only at hSx); go_simp; (try with_reducible rfl))
  try simp only [Act.put, List.setIfInBounds_toArray, List.set_cons_zero, List.set_cons_succ]
  refine wpAnyH_take (i := 9) (oi := ⟨some 12, _, _, _, _, _⟩) (v := ?v9) rfl (by kernel_rfl) (by kernel_rfl) (by kernel_rfl) (fun _ _ _ h => h) (Or.inl ⟨by rfl, ?y9⟩) (by assumption) ?r9
  case y9 => (intro wx hSx; (try dsimp only at hSx); go_simp; (try with_reducible rfl))
  try simp only [Act.put, List.setIfInBounds_toArray, List.set_cons_zero, List.set_cons_succ]
  refine wpAnyH_take (i := 10) (oi := ⟨some 13, _, _, _, _, _⟩) (v := ?v10) rfl (by kernel_rfl) (by kernel_rfl) (by kernel_rfl) (fun _ _ _ h => h) (Or.inl ⟨by rfl, ?y10⟩) (by assumption) ?r10
  case y10 => (intro wx hSx; (try dsimp only at hSx); go_simp; (try with_reducible rfl))
  try simp only [Act.put, List.setIfInBounds_toArray, List.set_cons_zero, List.set_cons_succ]
  refine wpAnyH_take (i := 11) (oi := ⟨some 14, _, _, _, _, _⟩) (v := ?v11) rfl (by kernel_rfl) (by kernel_rfl) (by kernel_rfl) (fun _ _ _ h => h) (Or.inl ⟨by rfl, ?y11⟩) (by assumption) ?r11
  case y11 => (intro wx hSx; (try dsimp only at hSx); go_simp; (try with_reducible rfl))
  try simp only [Act.put, List.setIfInBounds_toArray, List.set_cons_zero, List.set_cons_succ]
  refine wpAnyH_take (i := 12) (oi := ⟨some 15, _, _, _, _, _⟩) (v := ?v12) rfl (by kernel_rfl) (by kernel_rfl) (by kernel_rfl) (fun _ _ _ h => h) (Or.inl ⟨by rfl, ?y12⟩) (by assumption) ?r12
  case y12 => (intro wx hSx; (try dsimp only at hSx); go_simp; (try with_reducible rfl))
  try simp only [Act.put, List.setIfInBounds_toArray, List.set_cons_zero, List.set_cons_succ]
  refine wpAnyH_ready (rs := [13]) (by kernel_rfl) (by simp) ?_
  refine AllReadyH.cons (o := ⟨some 16, _, _, _, _, _⟩) rfl (fun K hK => ?_) AllReadyH.nil
  go_simp
  go_wp2_with ((go_at_call 14; (with_reducible refine (Primary_calls _ x.acc.vw p HV.out.1 HP.out).mono ?_); rintro e w' ⟨rfl, rfl⟩; skip))
  refine hK.out _ _ ?_ (fun hHeld2 => ?_)
  · ((try dsimp only); exact hHeld)
  clear hK K hHeld; have hHeld := hHeld2; clear hHeld2
  try simp only [Act.put, List.setIfInBounds_toArray, List.set_cons_zero, List.set_cons_succ]
  refine wpAnyH_take (i := 14) (oi := ⟨some 17, _, _, _, _, _⟩) (v := ?v13) rfl (by kernel_rfl) (by kernel_rfl) (by kernel_rfl) (fun _ _ _ h => h) (Or.inl ⟨by rfl, ?y13⟩) (by assumption) ?r13
  case y13 => (intro wx hSx; (try dsimp only at hSx); go_simp; (try with_reducible rfl))
  try simp only [Act.put, List.setIfInBounds_toArray, List.set_cons_zero, List.set_cons_succ]
  refine wpAnyH_ready (rs := [15]) (by kernel_rfl) (by simp) ?_
  refine AllReadyH.cons (o := ⟨some 18, _, _, _, _, _⟩) rfl (fun K hK => ?_) AllReadyH.nil
  go_simp
  go_wp2_with ((go_at_call 34; (with_reducible refine (Count_calls _ x.p0 x.p1 x.p2 x.p3 x.acc _ rfl p n HN.out).mono ?_); rintro e w' ⟨rfl, f'⟩; have HB2 := hid (HB.out.frm f' (fun h => h)); have HF2 := hid (HF.out.trans f'); clear HB HF f'; have HB := HB2; have HF := HF2; clear HB2 HF2))
  refine hK.out _ _ ?_ (fun hHeld2 => ?_)
  · ((try dsimp only); exact hold_p HB.out)
  clear hK K hHeld; have hHeld := hHeld2; clear hHeld2
  try simp only [Act.put, List.setIfInBounds_toArray, List.set_cons_zero, List.set_cons_succ]
  refine wpAnyH_take (i := 16) (oi := ⟨some 19, _, _, _, _, _⟩) (v := ?v14) rfl (by kernel_rfl) (by kernel_rfl) (by kernel_rfl) (fun _ _ _ h => h) (Or.inl ⟨by rfl, ?y14⟩) (by assumption) ?r14
  case y14 => (intro wx hSx; (try dsimp only at hSx); go_simp; (try with_reducible rfl))
  try simp only [Act.put, List.setIfInBounds_toArray, List.set_cons_zero, List.set_cons_succ]
  refine wpAnyH_take (i := 17) (oi := ⟨some 2, _, _, _, _, _⟩) (v := ?v15) rfl (by kernel_rfl) (by kernel_rfl) (by kernel_rfl) (fun _ _ _ h => h) (Or.inl ⟨by rfl, ?y15⟩) (by assumption) ?r15
  case y15 => (intro wx hSx; (try dsimp only at hSx); go_simp; (try with_reducible rfl))
  try simp only [Act.put, List.setIfInBounds_toArray, List.set_cons_zero, List.set_cons_succ]
  refine wpAnyH_done (by kernel_rfl) ?_ _
  go_wp2
  go_ret
  exact ⟨ret_bool HZ.out, HF.out⟩
set_option maxHeartbeats 8000000 in
theorem Com_calls {w : World} {b : Nat} {x : Sl} (h : Blk w b (slV x) TSl) (hv : 0 ≤ x.acc.vw ∧ x.acc.vw ≤ 4294967295) (z : Bool) (hz : comS x = z) :
    Calls Try.prog 32 #[.pointer (some ⟨b, 0, none⟩)] w fun e w' => e = .returned (.bool z) ∧ Frm (fun _ => False) w w' := by
  obtain ⟨n, hn⟩ : ∃ n, cnt4 x.c0 x.c1 x.c2 x.c3 x.acc (-1) = n := ⟨_, rfl⟩
  obtain ⟨z1, hz1⟩ : ∃ z1, rdyS x = z1 := ⟨_, rfl⟩
  unfold comS at hz
  rw [hz1, hn] at hz
  have HB := hid h.drew
  have HB0 := hid h
  have HF := hid (frm_drew w)
  have HV := hid hv; have HN := hid hn; have HZ := hid hz; have HZ1 := hid hz1
  clear h hv hn hz hz1
  cases z1
  · go_enter Try.func32, Try.ntmps32
    go_wp2
    refine wp_region_held_drew (S := fun wx => wx.rangeAt b 35 (s4V x.c0 x.c1 x.c2 x.c3) ∧ wx.cell? ⟨b, 0, none⟩ = some (.bool x.acc.th) ∧ wx.cell? ⟨b, 1, none⟩ = some (.int .u32 x.acc.vw) ∧ wx.cell? ⟨b, 2, none⟩ = some (.int .u8 x.acc.c) ∧ wx.cell? ⟨b, 3, none⟩ = some (.int .u32 x.acc.t) ∧ wx.cell? ⟨b, 4, none⟩ = some (.int .u8 x.acc.k) ∧ wx.cell? ⟨b, 5, none⟩ = some (.int .u8 x.acc.y) ∧ wx.cell? ⟨b, 6, none⟩ = some (.int .u16 x.acc.v)) (by kernel_rfl) (hold_c HB0.out) (fun hHeld => ?_)
    refine wpAnyH_take (i := 0) (oi := ⟨some 3, _, _, _, _, _⟩) (v := ?v16) rfl (by kernel_rfl) (by kernel_rfl) (by kernel_rfl) (fun _ _ _ h => h) (Or.inl ⟨by rfl, ?y16⟩) (by assumption) ?r16
    case y16 => (intro wx hSx; (try dsimp only at hSx); go_simp; (try with_reducible rfl))
    try simp only [Act.put, List.setIfInBounds_toArray, List.set_cons_zero, List.set_cons_succ]
    refine wpAnyH_ready (rs := [1]) (by kernel_rfl) (by simp) ?_
    refine AllReadyH.cons (o := ⟨some 4, _, _, _, _, _⟩) rfl (fun K hK => ?_) AllReadyH.nil
    go_simp
    go_wp2_with ((go_at_call 33; (with_reducible refine (Ready_calls HB.out HV.out _ HZ1.out).mono ?_); rintro e w' ⟨rfl, f'⟩; have HB2 := hid (HB.out.frm f' (fun h => h)); have HF2 := hid (HF.out.trans f'); clear HB HF f'; have HB := HB2; have HF := HF2; clear HB2 HF2))
    refine hK.out _ _ ?_ (fun hHeld2 => ?_)
    · ((try dsimp only); exact hold_c HB.out)
    clear hK K hHeld; have hHeld := hHeld2; clear hHeld2
    try simp only [Act.put, List.setIfInBounds_toArray, List.set_cons_zero, List.set_cons_succ]
    refine wpAnyH_take (i := 2) (oi := ⟨some 5, _, _, _, _, _⟩) (v := ?v17) rfl (by kernel_rfl) (by kernel_rfl) (by kernel_rfl) (fun _ _ _ h => h) (Or.inl ⟨by rfl, ?y17⟩) (by assumption) ?r17
    case y17 => (intro wx hSx; (try dsimp only at hSx); go_simp; (try with_reducible rfl))
    try simp only [Act.put, List.setIfInBounds_toArray, List.set_cons_zero, List.set_cons_succ]
    refine wpAnyH_take (i := 3) (oi := ⟨some 6, _, _, _, _, _⟩) (v := undef) rfl (by kernel_rfl) (by kernel_rfl) (by kernel_rfl) (fun _ _ _ h => h) (Or.inr ⟨by rfl, rfl⟩) (by assumption) ?_
    try simp only [Act.put, List.setIfInBounds_toArray, List.set_cons_zero, List.set_cons_succ]
    refine wpAnyH_take (i := 4) (oi := ⟨some 7, _, _, _, _, _⟩) (v := undef) rfl (by kernel_rfl) (by kernel_rfl) (by kernel_rfl) (fun _ _ _ h => h) (Or.inr ⟨by rfl, rfl⟩) (by assumption) ?_
    try simp only [Act.put, List.setIfInBounds_toArray, List.set_cons_zero, List.set_cons_succ]
    refine wpAnyH_take (i := 5) (oi := ⟨some 8, _, _, _, _, _⟩) (v := undef) rfl (by kernel_rfl) (by kernel_rfl) (by kernel_rfl) (fun _ _ _ h => h) (Or.inr ⟨by rfl, rfl⟩) (by assumption) ?_
    try simp only [Act.put, List.setIfInBounds_toArray, List.set_cons_zero, List.set_cons_succ]
    refine wpAnyH_take (i := 6) (oi := ⟨some 9, _, _, _, _, _⟩) (v := undef) rfl (by kernel_rfl) (by kernel_rfl) (by kernel_rfl) (fun _ _ _ h => h) (Or.inr ⟨by rfl, rfl⟩) (by assumption) ?_
    try simp only [Act.put, List.setIfInBounds_toArray, List.set_cons_zero, List.set_cons_succ]
    refine wpAnyH_take (i := 7) (oi := ⟨some 10, _, _, _, _, _⟩) (v := undef) rfl (by kernel_rfl) (by kernel_rfl) (by kernel_rfl) (fun _ _ _ h => h) (Or.inr ⟨by rfl, rfl⟩) (by assumption) ?_
    try simp only [Act.put, List.setIfInBounds_toArray, List.set_cons_zero, List.set_cons_succ]
    refine wpAnyH_take (i := 8) (oi := ⟨some 11, _, _, _, _, _⟩) (v := undef) rfl (by kernel_rfl) (by kernel_rfl) (by kernel_rfl) (fun _ _ _ h => h) (Or.inr ⟨by rfl, rfl⟩) (by assumption) ?_
    try simp only [Act.put, List.setIfInBounds_toArray, List.set_cons_zero, List.set_cons_succ]
    refine wpAnyH_take (i := 9) (oi := ⟨some 12, _, _, _, _, _⟩) (v := undef) rfl (by kernel_rfl) (by kernel_rfl) (by kernel_rfl) (fun _ _ _ h => h) (Or.inr ⟨by rfl, rfl⟩) (by assumption) ?_
    try simp only [Act.put, List.setIfInBounds_toArray, List.set_cons_zero, List.set_cons_succ]
    refine wpAnyH_take (i := 10) (oi := ⟨some 13, _, _, _, _, _⟩) (v := undef) rfl (by kernel_rfl) (by kernel_rfl) (by kernel_rfl) (fun _ _ _ h => h) (Or.inr ⟨by rfl, rfl⟩) (by assumption) ?_
    try simp only [Act.put, List.setIfInBounds_toArray, List.set_cons_zero, List.set_cons_succ]
    refine wpAnyH_take (i := 11) (oi := ⟨some 14, _, _, _, _, _⟩) (v := undef) rfl (by kernel_rfl) (by kernel_rfl) (by kernel_rfl) (fun _ _ _ h => h) (Or.inr ⟨by rfl, rfl⟩) (by assumption) ?_
    try simp only [Act.put, List.setIfInBounds_toArray, List.set_cons_zero, List.set_cons_succ]
    refine wpAnyH_take (i := 12) (oi := ⟨some 15, _, _, _, _, _⟩) (v := undef) rfl (by kernel_rfl) (by kernel_rfl) (by kernel_rfl) (fun _ _ _ h => h) (Or.inr ⟨by rfl, rfl⟩) (by assumption) ?_
    try simp only [Act.put, List.setIfInBounds_toArray, List.set_cons_zero, List.set_cons_succ]
    refine wpAnyH_take (i := 13) (oi := ⟨some 16, _, _, _, _, _⟩) (v := ?v18) rfl (by kernel_rfl) (by kernel_rfl) (by kernel_rfl) (fun _ _ _ h => h) (Or.inl ⟨by rfl, ?y18⟩) (by assumption) ?r18
    case y18 => (intro wx hSx; (try dsimp only at hSx); go_simp; (try with_reducible rfl))
    try simp only [Act.put, List.setIfInBounds_toArray, List.set_cons_zero, List.set_cons_succ]
    refine wpAnyH_take (i := 14) (oi := ⟨some 2, _, _, _, _, _⟩) (v := ?v19) rfl (by kernel_rfl) (by kernel_rfl) (by kernel_rfl) (fun _ _ _ h => h) (Or.inl ⟨by rfl, ?y19⟩) (by assumption) ?r19
    case y19 => (intro wx hSx; (try dsimp only at hSx); go_simp; (try with_reducible rfl))
    try simp only [Act.put, List.setIfInBounds_toArray, List.set_cons_zero, List.set_cons_succ]
    refine wpAnyH_done (by kernel_rfl) ?_ _
    go_wp2
    go_ret
    exact ⟨ret_bool HZ.out, HF.out⟩
  · go_enter Try.func32, Try.ntmps32
    go_wp2
    refine wp_region_held_drew (S := fun wx => wx.rangeAt b 35 (s4V x.c0 x.c1 x.c2 x.c3) ∧ wx.cell? ⟨b, 0, none⟩ = some (.bool x.acc.th) ∧ wx.cell? ⟨b, 1, none⟩ = some (.int .u32 x.acc.vw) ∧ wx.cell? ⟨b, 2, none⟩ = some (.int .u8 x.acc.c) ∧ wx.cell? ⟨b, 3, none⟩ = some (.int .u32 x.acc.t) ∧ wx.cell? ⟨b, 4, none⟩ = some (.int .u8 x.acc.k) ∧ wx.cell? ⟨b, 5, none⟩ = some (.int .u8 x.acc.y) ∧ wx.cell? ⟨b, 6, none⟩ = some (.int .u16 x.acc.v)) (by kernel_rfl) (hold_c HB0.out) (fun hHeld => ?_)
    refine wpAnyH_take (i := 0) (oi := ⟨some 3, _, _, _, _, _⟩) (v := ?v20) rfl (by kernel_rfl) (by kernel_rfl) (by kernel_rfl) (fun _ _ _ h => h) (Or.inl ⟨by rfl, ?y20⟩) (by assumption) ?r20
    case y20 => (intro wx hSx; (try dsimp only at hSx); go_simp; (try with_reducible rfl))
    try simp only [Act.put, List.setIfInBounds_toArray, List.set_cons_zero, List.set_cons_succ]
    refine wpAnyH_ready (rs := [1]) (by kernel_rfl) (by simp) ?_
    refine AllReadyH.cons (o := ⟨some 4, _, _, _, _, _⟩) rfl (fun K hK => ?_) AllReadyH.nil
    go_simp
    go_wp2_with ((go_at_call 33; (with_reducible refine (Ready_calls HB.out HV.out _ HZ1.out).mono ?_); rintro e w' ⟨rfl, f'⟩; have HB2 := hid (HB.out.frm f' (fun h => h)); have HF2 := hid (HF.out.trans f'); clear HB HF f'; have HB := HB2; have HF := HF2; clear HB2 HF2))
    refine hK.out _ _ ?_ (fun hHeld2 => ?_)
    · ((try dsimp only); exact hold_c HB.out)
    clear hK K hHeld; have hHeld := hHeld2; clear hHeld2
    try simp only [Act.put, List.setIfInBounds_toArray, List.set_cons_zero, List.set_cons_succ]
    refine wpAnyH_take (i := 2) (oi := ⟨some 5, _, _, _, _, _⟩) (v := ?v21) rfl (by kernel_rfl) (by kernel_rfl) (by kernel_rfl) (fun _ _ _ h => h) (Or.inl ⟨by rfl, ?y21⟩) (by assumption) ?r21
    case y21 => (intro wx hSx; (try dsimp only at hSx); go_simp; (try with_reducible rfl))
    try simp only [Act.put, List.setIfInBounds_toArray, List.set_cons_zero, List.set_cons_succ]
    refine wpAnyH_take (i := 3) (oi := ⟨some 6, _, _, _, _, _⟩) (v := ?v22) rfl (by kernel_rfl) (by kernel_rfl) (by kernel_rfl) (fun _ _ _ h => h) (Or.inl ⟨by rfl, ?y22⟩) (by assumption) ?r22
    case y22 => (intro wx hSx; (try dsimp only at hSx); go_simp; (try with_reducible rfl))
    try simp only [Act.put, List.setIfInBounds_toArray, List.set_cons_zero, List.set_cons_succ]
    refine wpAnyH_take (i := 4) (oi := ⟨some 7, _, _, _, _, _⟩) (v := ?v23) rfl (by kernel_rfl) (by kernel_rfl) (by kernel_rfl) (fun _ _ _ h => h) (Or.inl ⟨by rfl, ?y23⟩) (by assumption) ?r23
    case y23 => (intro wx hSx; (try dsimp only at hSx); go_simp; (try with_reducible rfl))
    try simp only [Act.put, List.setIfInBounds_toArray, List.set_cons_zero, List.set_cons_succ]
    refine wpAnyH_take (i := 5) (oi := ⟨some 8, _, _, _, _, _⟩) (v := ?v24) rfl (by kernel_rfl) (by kernel_rfl) (by kernel_rfl) (fun _ _ _ h => h) (Or.inl ⟨by rfl, ?y24⟩) (by assumption) ?r24
    case y24 => (intro wx hSx; (try dsimp only at hSx); go_simp; (try with_reducible rfl))
    try simp only [Act.put, List.setIfInBounds_toArray, List.set_cons_zero, List.set_cons_succ]
    refine wpAnyH_take (i := 6) (oi := ⟨some 9, _, _, _, _, _⟩) (v := .agg (s4V x.c0 x.c1 x.c2 x.c3).toArray) rfl (by kernel_rfl) (by kernel_rfl) (by kernel_rfl) (fun _ _ _ h => h) (yieldsIf_load_mid (by rfl) TS4 (.tmp 8) rfl b 35 rfl (s4V x.c0 x.c1 x.c2 x.c3) (.array 4 TSd) (fun w hS => hS.1) Try.underlying65 rfl (size_s4 _ _ _ _)) (by assumption) ?_
    try simp only [Act.put, List.setIfInBounds_toArray, List.set_cons_zero, List.set_cons_succ]
    refine wpAnyH_take (i := 7) (oi := ⟨some 10, _, _, _, _, _⟩) (v := ?v25) rfl (by kernel_rfl) (by kernel_rfl) (by kernel_rfl) (fun _ _ _ h => h) (Or.inl ⟨by rfl, ?y25⟩) (by assumption) ?r25
    case y25 => (intro wx hSx; (try dsimp only at hSx); go_simp; (try with_reducible rfl))
    try simp only [Act.put, List.setIfInBounds_toArray, List.set_cons_zero, List.set_cons_succ]
    refine wpAnyH_take (i := 8) (oi := ⟨some 11, _, _, _, _, _⟩) (v := ?v26) rfl (by kernel_rfl) (by kernel_rfl) (by kernel_rfl) (fun _ _ _ h => h) (Or.inl ⟨by rfl, ?y26⟩) (by assumption) ?r26
    case y26 => (intro wx hSx; (try dsimp only at hSx); go_simp; (try with_reducible rfl))
    try simp only [Act.put, List.setIfInBounds_toArray, List.set_cons_zero, List.set_cons_succ]
    refine wpAnyH_take (i := 9) (oi := ⟨some 12, _, _, _, _, _⟩) (v := ?v27) rfl (by kernel_rfl) (by kernel_rfl) (by kernel_rfl) (fun _ _ _ h => h) (Or.inl ⟨by rfl, ?y27⟩) (by assumption) ?r27
    case y27 => (intro wx hSx; (try dsimp only at hSx); go_simp; (try with_reducible rfl))
    try simp only [Act.put, List.setIfInBounds_toArray, List.set_cons_zero, List.set_cons_succ]
    refine wpAnyH_take (i := 10) (oi := ⟨some 13, _, _, _, _, _⟩) (v := ?v28) rfl (by kernel_rfl) (by kernel_rfl) (by kernel_rfl) (fun _ _ _ h => h) (Or.inl ⟨by rfl, ?y28⟩) (by assumption) ?r28
    case y28 => (intro wx hSx; (try dsimp only at hSx); go_simp; (try with_reducible rfl))
    try simp only [Act.put, List.setIfInBounds_toArray, List.set_cons_zero, List.set_cons_succ]
    refine wpAnyH_ready (rs := [11]) (by kernel_rfl) (by simp) ?_
    refine AllReadyH.cons (o := ⟨some 14, _, _, _, _, _⟩) rfl (fun K hK => ?_) AllReadyH.nil
    go_simp
    go_wp2_with ((go_at_call 34; (with_reducible refine (Count_calls _ x.c0 x.c1 x.c2 x.c3 x.acc _ rfl (-1) n HN.out).mono ?_); rintro e w' ⟨rfl, f'⟩; have HB2 := hid (HB.out.frm f' (fun h => h)); have HF2 := hid (HF.out.trans f'); clear HB HF f'; have HB := HB2; have HF := HF2; clear HB2 HF2))
    refine hK.out _ _ ?_ (fun hHeld2 => ?_)
    · ((try dsimp only); exact hold_c HB.out)
    clear hK K hHeld; have hHeld := hHeld2; clear hHeld2
    try simp only [Act.put, List.setIfInBounds_toArray, List.set_cons_zero, List.set_cons_succ]
    refine wpAnyH_take (i := 12) (oi := ⟨some 15, _, _, _, _, _⟩) (v := ?v29) rfl (by kernel_rfl) (by kernel_rfl) (by kernel_rfl) (fun _ _ _ h => h) (Or.inl ⟨by rfl, ?y29⟩) (by assumption) ?r29
    case y29 => (intro wx hSx; (try dsimp only at hSx); go_simp; (try with_reducible rfl))
    try simp only [Act.put, List.setIfInBounds_toArray, List.set_cons_zero, List.set_cons_succ]
    refine wpAnyH_take (i := 13) (oi := ⟨some 16, _, _, _, _, _⟩) (v := ?v30) rfl (by kernel_rfl) (by kernel_rfl) (by kernel_rfl) (fun _ _ _ h => h) (Or.inl ⟨by rfl, ?y30⟩) (by assumption) ?r30
    case y30 => (intro wx hSx; (try dsimp only at hSx); go_simp; (try with_reducible rfl))
    try simp only [Act.put, List.setIfInBounds_toArray, List.set_cons_zero, List.set_cons_succ]
    refine wpAnyH_take (i := 14) (oi := ⟨some 2, _, _, _, _, _⟩) (v := ?v31) rfl (by kernel_rfl) (by kernel_rfl) (by kernel_rfl) (fun _ _ _ h => h) (Or.inl ⟨by rfl, ?y31⟩) (by assumption) ?r31
    case y31 => (intro wx hSx; (try dsimp only at hSx); go_simp; (try with_reducible rfl))
    try simp only [Act.put, List.setIfInBounds_toArray, List.set_cons_zero, List.set_cons_succ]
    refine wpAnyH_done (by kernel_rfl) ?_ _
    go_wp2
    go_ret
    exact ⟨ret_bool (by rw [← HZ.out, Bool.true_and]), HF.out⟩
theorem True_calls {w : World} (v : Value) : Calls Try.prog 35 #[v] w fun e w' => e = .returned (.bool true) ∧ Frm (fun _ => False) w w' := by
  go_enter Try.func35, Try.ntmps35
  go_wp2
  go_ret
  exact ⟨rfl, Frm.refl _ _⟩
end Go.Proofs.Ytijomhinfcahpaa
