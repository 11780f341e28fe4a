/- The disk: Write. -/
import Derived.Test.YtnlmabdbpjbhoaaDkObj
namespace Go.Proofs.Ytnlmabdbpjbhoaa
open Go.RowKit Go.ChangeShapes
set_option linter.unusedVariables false
set_option linter.unusedSimpArgs false
theorem Write_none {w : World} {b : Nat} {A : Option Addr} {c l : Nat} (i : Int) (hi : i < 0 ∨ 2 ≤ i) : Calls Try.prog 14 #[.pointer (some ⟨b, 0, none⟩), .int .i64 i, .slice A l c] w fun e w' => e = .returned (.int .i64 61) ∧ w = w' := by
  rcases hi with hi | hi
  all_goals
    go_enter Try.func14, Try.ntmps14
    go_wp2
    go_ret
    exact ⟨rfl, rfl⟩
theorem Write_long {w : World} {b : Nat} {A : Option Addr} {c l : Nat} (i : Int) (h0 : 0 ≤ i) (h2 : i < 2) (hl : 40040 < (l : Int)) : Calls Try.prog 14 #[.pointer (some ⟨b, 0, none⟩), .int .i64 i, .slice A l c] w fun e w' => e = .returned (.int .i64 21) ∧ w = w' := by
  go_enter Try.func14, Try.ntmps14
  go_wp2
  go_ret
  exact ⟨rfl, rfl⟩
theorem frm_of_drew {w w' : World} (f : Below w.drew.heap.size w.drew w') : Frm (fun _ => False) w w' :=
  ⟨f.os, f.tape, f.output, f.size, fun k hk _ => f.block k hk⟩
theorem Write_cut0 {w : World} {b : Nat} {x0 x1 : List Int} {n : Int} (h : IsDk w b x0 x1 true n) {A : Option Addr} {c : Nat} {x : List Int} (hx : IsInts .u8 w A c x) (hl : (x.length : Int) ≤ 40040) (m : Nat) (hm : m = min x.length n.toNat) :
    Calls Try.prog 14 #[.pointer (some ⟨b, 0, none⟩), .int .i64 0, .slice A x.length c] w fun e w' =>
      e = .returned (.int .i64 70) ∧ IsDk w' b (x.take m) x1 false 0 ∧ Frm (· = b) w w' := by
  obtain ⟨A0, c0, A1, c1, hb, h0, h1⟩ := h.blk
  have n0 := h.n0
  have hle := hx.le
  have hsm := hx.small
  have hlt := hb.lt
  have q2 := hb.cell 2
  have q3 : w.drew.cell? ⟨b, 3, none⟩ = _ := hb.cell 3
  simp only [List.getElem?_cons_succ, List.getElem?_cons_zero] at q2 q3
  have HB := hid hb; clear hb
  have e2 : (if n < (x.length : Int) then n else (x.length : Int)) = (m : Int) := by split <;> omega
  have m1 : (m : Int) ≤ (c : Int) := by omega
  have m2 : (0 : Int) ≤ ((min x.length n.toNat : Nat) : Int) := by omega
  have m3 : ((min x.length n.toNat : Nat) : Int) ≤ (c : Int) := by omega
  have m0 : (0 : Int) ≤ (m : Int) := by omega
  have hxl : (x.take m).length = m := by rw [List.length_take]; omega
  have hxb : (x.take m).length ≤ 281474976710656 := by omega
  have hxt := hid ((hx.take m).frm ((Frm.refl (fun _ => False) w).drew) (fun _ _ h => h))
  have hxm : (x.take m).length = min x.length n.toNat := by rw [hxl, hm]
  have hlt' := hid hlt; clear hlt
  go_enter Try.func14, Try.ntmps14
  go_wp2_with (fail)
  go_region_held3 (fun wx => wx.cell? ⟨b, 3, none⟩ = some (.int .i64 n)) (first | go_keep | (rw [World.cell?_setCell_other _ _ _ _ (by simp)]; assumption)) (first
    | (go_at_call 32; (with_reducible refine (dcopied_calls _ _ _ (x.take m) _ hxm hxt.out hxb).mono ?_); rintro e w' ⟨rfl, hb', f'⟩; have q3' : w'.cell? ⟨b, 3, none⟩ = some (.int .i64 n) := (f'.cell (p := ⟨b, 3, none⟩) hlt'.out).trans q3; have HB' := hid (HB.out.frm (frm_of_drew f') (fun h => h)); have q0' : w'.cell? ⟨b, 0, none⟩ = some (.slice A0 x0.length c0) := HB'.out.cell 0; have z0' : w'.frozen? ⟨b, 0, none⟩ = false := HB'.out.free 0))
  have q2' : w'.cell? ⟨b, 2, none⟩ = some (.bool true) := HB'.out.cell 2
  have z2' : w'.frozen? ⟨b, 2, none⟩ = false := HB'.out.free 2
  have z3' : w'.frozen? ⟨b, 3, none⟩ = false := HB'.out.free 3
  go_wp2
  go_ret
  have f2 : Frm (· = b) w w' := Frm0.any (frm_of_drew f')
  have hgb : w.heap.size ≠ b := Ne.symm (Nat.ne_of_lt hlt'.out)
  have hbn : Byts w' b (some ⟨w.heap.size, 0, none⟩) (x.take m).length (x.take m) := ⟨IsInts.of_blk hb' (by omega) hxt.out.wf, fun p hp => by cases hp; exact hgb⟩
  rw [← hxm]
  have f3 := ((f2.setCell ⟨b, 0, none⟩ (.slice (some ⟨w.heap.size, 0, none⟩) (x.take m).length (x.take m).length) (.inr rfl)).setCell ⟨b, 2, none⟩ (.bool false) (.inr rfl)).setCell ⟨b, 3, none⟩ (.int .i64 0) (.inr rfl)
  have f4 := (((Frm.refl (· = b) w').setCell ⟨b, 0, none⟩ (.slice (some ⟨w.heap.size, 0, none⟩) (x.take m).length (x.take m).length) (.inr rfl)).setCell ⟨b, 2, none⟩ (.bool false) (.inr rfl)).setCell ⟨b, 3, none⟩ (.int .i64 0) (.inr rfl)
  exact ⟨rfl, ⟨⟨_, _, A1, c1, ((HB'.out.setCell 0 _).setCell 2 _).setCell 3 _, hbn.frm f4, h1.frm f3⟩, by omega, by omega, h.l1⟩, f3⟩
theorem Write_cut1 {w : World} {b : Nat} {x0 x1 : List Int} {n : Int} (h : IsDk w b x0 x1 true n) {A : Option Addr} {c : Nat} {x : List Int} (hx : IsInts .u8 w A c x) (hl : (x.length : Int) ≤ 40040) (m : Nat) (hm : m = min x.length n.toNat) :
    Calls Try.prog 14 #[.pointer (some ⟨b, 0, none⟩), .int .i64 1, .slice A x.length c] w fun e w' =>
      e = .returned (.int .i64 70) ∧ IsDk w' b x0 (x.take m) false 0 ∧ Frm (· = b) w w' := by
  obtain ⟨A0, c0, A1, c1, hb, h0, h1⟩ := h.blk
  have n0 := h.n0
  have hle := hx.le
  have hsm := hx.small
  have hlt := hb.lt
  have q2 := hb.cell 2
  have q3 : w.drew.cell? ⟨b, 3, none⟩ = _ := hb.cell 3
  simp only [List.getElem?_cons_succ, List.getElem?_cons_zero] at q2 q3
  have HB := hid hb; clear hb
  have e2 : (if n < (x.length : Int) then n else (x.length : Int)) = (m : Int) := by split <;> omega
  have m1 : (m : Int) ≤ (c : Int) := by omega
  have m2 : (0 : Int) ≤ ((min x.length n.toNat : Nat) : Int) := by omega
  have m3 : ((min x.length n.toNat : Nat) : Int) ≤ (c : Int) := by omega
  have m0 : (0 : Int) ≤ (m : Int) := by omega
  have hxl : (x.take m).length = m := by rw [List.length_take]; omega
  have hxb : (x.take m).length ≤ 281474976710656 := by omega
  have hxt := hid ((hx.take m).frm ((Frm.refl (fun _ => False) w).drew) (fun _ _ h => h))
  have hxm : (x.take m).length = min x.length n.toNat := by rw [hxl, hm]
  have hlt' := hid hlt; clear hlt
  go_enter Try.func14, Try.ntmps14
  go_wp2_with (fail)
  go_region_held3 (fun wx => wx.cell? ⟨b, 3, none⟩ = some (.int .i64 n)) (first | go_keep | (rw [World.cell?_setCell_other _ _ _ _ (by simp)]; assumption)) (first
    | (go_at_call 32; (with_reducible refine (dcopied_calls _ _ _ (x.take m) _ hxm hxt.out hxb).mono ?_); rintro e w' ⟨rfl, hb', f'⟩; have q3' : w'.cell? ⟨b, 3, none⟩ = some (.int .i64 n) := (f'.cell (p := ⟨b, 3, none⟩) hlt'.out).trans q3; have HB' := hid (HB.out.frm (frm_of_drew f') (fun h => h)); have q0' : w'.cell? ⟨b, 1, none⟩ = some (.slice A1 x1.length c1) := HB'.out.cell 1; have z0' : w'.frozen? ⟨b, 1, none⟩ = false := HB'.out.free 1))
  have q2' : w'.cell? ⟨b, 2, none⟩ = some (.bool true) := HB'.out.cell 2
  have z2' : w'.frozen? ⟨b, 2, none⟩ = false := HB'.out.free 2
  have z3' : w'.frozen? ⟨b, 3, none⟩ = false := HB'.out.free 3
  go_wp2
  go_ret
  have f2 : Frm (· = b) w w' := Frm0.any (frm_of_drew f')
  have hgb : w.heap.size ≠ b := Ne.symm (Nat.ne_of_lt hlt'.out)
  have hbn : Byts w' b (some ⟨w.heap.size, 0, none⟩) (x.take m).length (x.take m) := ⟨IsInts.of_blk hb' (by omega) hxt.out.wf, fun p hp => by cases hp; exact hgb⟩
  rw [← hxm]
  have f3 := ((f2.setCell ⟨b, 1, none⟩ (.slice (some ⟨w.heap.size, 0, none⟩) (x.take m).length (x.take m).length) (.inr rfl)).setCell ⟨b, 2, none⟩ (.bool false) (.inr rfl)).setCell ⟨b, 3, none⟩ (.int .i64 0) (.inr rfl)
  have f4 := (((Frm.refl (· = b) w').setCell ⟨b, 1, none⟩ (.slice (some ⟨w.heap.size, 0, none⟩) (x.take m).length (x.take m).length) (.inr rfl)).setCell ⟨b, 2, none⟩ (.bool false) (.inr rfl)).setCell ⟨b, 3, none⟩ (.int .i64 0) (.inr rfl)
  exact ⟨rfl, ⟨⟨A0, c0, _, _, ((HB'.out.setCell 1 _).setCell 2 _).setCell 3 _, h0.frm f3, hbn.frm f4⟩, by omega, h.l0, by omega⟩, f3⟩
theorem Write_ok0 {w : World} {b : Nat} {x0 x1 : List Int} {n : Int} (h : IsDk w b x0 x1 false n) {A : Option Addr} {c : Nat} {x : List Int} (hx : IsInts .u8 w A c x) (hl : (x.length : Int) ≤ 40040) :
    Calls Try.prog 14 #[.pointer (some ⟨b, 0, none⟩), .int .i64 0, .slice A x.length c] w fun e w' =>
      e = .returned (.int .i64 0) ∧ IsDk w' b x x1 false n ∧ Frm (· = b) w w' := by
  obtain ⟨A0, c0, A1, c1, hb, h0, h1⟩ := h.blk
  have n0 := h.n0
  have hlt := hb.lt
  have q2 := hb.cell 2
  simp only [List.getElem?_cons_succ, List.getElem?_cons_zero] at q2
  have HB := hid hb; clear hb
  have hxb : x.length ≤ 281474976710656 := by omega
  have hxt := hid (hx.frm ((Frm.refl (fun _ => False) w).drew) (fun _ _ h => h))
  have hlt' := hid hlt; clear hlt
  go_enter Try.func14, Try.ntmps14
  go_wp2_with (fail)
  go_region_held3 (fun wx => True) (go_keep) (first
    | (go_at_call 32; (with_reducible refine (dcopied_calls _ _ _ x _ rfl hxt.out hxb).mono ?_); rintro e w' ⟨rfl, hb', f'⟩; have HB' := hid (HB.out.frm (frm_of_drew f') (fun h => h)); have q0' : w'.cell? ⟨b, 0, none⟩ = some (.slice A0 x0.length c0) := HB'.out.cell 0; have z0' : w'.frozen? ⟨b, 0, none⟩ = false := HB'.out.free 0))
  go_wp2
  go_ret
  have f2 : Frm (· = b) w w' := Frm0.any (frm_of_drew f')
  have hgb : w.heap.size ≠ b := Ne.symm (Nat.ne_of_lt hlt'.out)
  have hbn : Byts w' b (some ⟨w.heap.size, 0, none⟩) x.length x := ⟨IsInts.of_blk hb' (by omega) hxt.out.wf, fun p hp => by cases hp; exact hgb⟩
  have f3 := f2.setCell ⟨b, 0, none⟩ (.slice (some ⟨w.heap.size, 0, none⟩) x.length x.length) (.inr rfl)
  have f4 := (Frm.refl (· = b) w').setCell ⟨b, 0, none⟩ (.slice (some ⟨w.heap.size, 0, none⟩) x.length x.length) (.inr rfl)
  exact ⟨rfl, ⟨⟨_, _, A1, c1, HB'.out.setCell 0 _, hbn.frm f4, h1.frm f3⟩, n0, by omega, h.l1⟩, f3⟩
theorem Write_ok1 {w : World} {b : Nat} {x0 x1 : List Int} {n : Int} (h : IsDk w b x0 x1 false n) {A : Option Addr} {c : Nat} {x : List Int} (hx : IsInts .u8 w A c x) (hl : (x.length : Int) ≤ 40040) :
    Calls Try.prog 14 #[.pointer (some ⟨b, 0, none⟩), .int .i64 1, .slice A x.length c] w fun e w' =>
      e = .returned (.int .i64 0) ∧ IsDk w' b x0 x false n ∧ Frm (· = b) w w' := by
  obtain ⟨A0, c0, A1, c1, hb, h0, h1⟩ := h.blk
  have n0 := h.n0
  have hlt := hb.lt
  have q2 := hb.cell 2
  simp only [List.getElem?_cons_succ, List.getElem?_cons_zero] at q2
  have HB := hid hb; clear hb
  have hxb : x.length ≤ 281474976710656 := by omega
  have hxt := hid (hx.frm ((Frm.refl (fun _ => False) w).drew) (fun _ _ h => h))
  have hlt' := hid hlt; clear hlt
  go_enter Try.func14, Try.ntmps14
  go_wp2_with (fail)
  go_region_held3 (fun wx => True) (go_keep) (first
    | (go_at_call 32; (with_reducible refine (dcopied_calls _ _ _ x _ rfl hxt.out hxb).mono ?_); rintro e w' ⟨rfl, hb', f'⟩; have HB' := hid (HB.out.frm (frm_of_drew f') (fun h => h)); have q0' : w'.cell? ⟨b, 1, none⟩ = some (.slice A1 x1.length c1) := HB'.out.cell 1; have z0' : w'.frozen? ⟨b, 1, none⟩ = false := HB'.out.free 1))
  go_wp2
  go_ret
  have f2 : Frm (· = b) w w' := Frm0.any (frm_of_drew f')
  have hgb : w.heap.size ≠ b := Ne.symm (Nat.ne_of_lt hlt'.out)
  have hbn : Byts w' b (some ⟨w.heap.size, 0, none⟩) x.length x := ⟨IsInts.of_blk hb' (by omega) hxt.out.wf, fun p hp => by cases hp; exact hgb⟩
  have f3 := f2.setCell ⟨b, 1, none⟩ (.slice (some ⟨w.heap.size, 0, none⟩) x.length x.length) (.inr rfl)
  have f4 := (Frm.refl (· = b) w').setCell ⟨b, 1, none⟩ (.slice (some ⟨w.heap.size, 0, none⟩) x.length x.length) (.inr rfl)
  exact ⟨rfl, ⟨⟨A0, c0, _, _, HB'.out.setCell 1 _, h0.frm f3, hbn.frm f4⟩, n0, h.l0, by omega⟩, f3⟩
end Go.Proofs.Ytnlmabdbpjbhoaa
