/- The wire's reader: bytes behind their length. -/
import Derived.Test.YtifhjdjjekeegaaWireRd
namespace Go.Proofs.Ytifhjdjjekeegaa
open Go.RowKit Go.ChangeShapes
set_option linter.unusedVariables false
set_option linter.unusedSimpArgs false
theorem RBytes_short {w : World} {b : Nat} {x : List Int} (h : IsRd w b x) (most : Int) (hm : x.length < 2) : Calls Try.prog 17 #[.pointer (some ⟨b, 0, none⟩), .int .i64 most] w fun e w' => e = .returned (.tuple #[.slice none 0 0, .int .i64 20]) ∧ w = w' := by
  obtain ⟨g, off, c, hb, hi, hn⟩ := h.blk
  have q0 := hb.cell 0
  simp only [List.getElem?_cons_zero] at q0
  clear hb hi hn
  go_enter Try.func17, Try.ntmps17
  go_wp2_with (go_at_call 20; (with_reducible refine (RU16_short h hm).mono ?_); rintro e w' ⟨rfl, rfl⟩)
  go_ret2
  exact ⟨rfl, rfl⟩
theorem u16_nat (x : List Int) : ∃ k : Nat, IntKind.u16.wrap (vOf (x.take 2)) = (k : Int) ∧ k ≤ 65535 := by
  have h0 : IntKind.u16.wrap (vOf (x.take 2)) = vOf (x.take 2) % 65536 := by simp [IntKind.wrap, IntKind.bits, IntKind.signed]
  exact ⟨(vOf (x.take 2) % 65536).toNat, by omega, by omega⟩
set_option maxHeartbeats 2000000 in
theorem RBytes_long {w : World} {b : Nat} {x : List Int} (h : IsRd w b x) (most : Int) (hm : 2 ≤ x.length) (k : Nat) (hv : IntKind.u16.wrap (vOf (x.take 2)) = (k : Int)) (hk : most < (k : Int)) (hk3 : k ≤ 65535) : Calls Try.prog 17 #[.pointer (some ⟨b, 0, none⟩), .int .i64 most] w fun e w' =>
    e = .returned (.tuple #[.slice none 0 0, .int .i64 21]) ∧ IsRd w' b x ∧ Frm (· = b) w w' := by
  obtain ⟨g, off, c, hb, hi, hn⟩ := h.blk
  have q0 := hb.cell 0
  simp only [List.getElem?_cons_zero] at q0
  have HB := hid hb; clear hb
  have HI := hid hi; clear hi
  skip
  go_enter Try.func17, Try.ntmps17
  go_wp2_with (go_at_call 20; (with_reducible refine (RU16_ok h hm _ hv).mono ?_); rintro e w1 ⟨rfl, h', f'⟩; obtain ⟨g1, off1, c1, hb1, hi1, hn1⟩ := h'.blk; have q1 := hb1.cell 0; have d1 := hb1.free 0; (simp only [List.getElem?_cons_zero] at q1); (rw [List.length_drop] at q1); have HB1 := hid hb1; have HI1 := hid hi1; have HF := hid f'; clear h' hb1 hi1 f')
  go_ret2
  have f1 : Frm (· = b) w (w1.setCell ⟨b, 0, none⟩ (.slice (some ⟨g, off, none⟩) x.length c)) := HF.out.setCell _ _ (.inr rfl)
  exact ⟨rfl, ⟨g, off, c, HB1.out.setCell 0 _, HI.out.frm f1 (fun p hp => by cases hp; exact hn), hn⟩, f1⟩
set_option maxHeartbeats 2000000 in
theorem RBytes_cut {w : World} {b : Nat} {x : List Int} (h : IsRd w b x) (most : Int) (hm : 2 ≤ x.length) (k : Nat) (hv : IntKind.u16.wrap (vOf (x.take 2)) = (k : Int)) (hk : (k : Int) ≤ most) (hk2 : x.length - 2 < k) (hk3 : k ≤ 65535) : Calls Try.prog 17 #[.pointer (some ⟨b, 0, none⟩), .int .i64 most] w fun e w' =>
    e = .returned (.tuple #[.slice none 0 0, .int .i64 20]) ∧ IsRd w' b x ∧ Frm (· = b) w w' := by
  obtain ⟨g, off, c, hb, hi, hn⟩ := h.blk
  have q0 := hb.cell 0
  simp only [List.getElem?_cons_zero] at q0
  have HB := hid hb; clear hb
  have HI := hid hi; clear hi
  have e1 : ((x.length - 2 : Nat) : Int) < (k : Int) := by omega
  go_enter Try.func17, Try.ntmps17
  go_wp2_with (go_at_call 20; (with_reducible refine (RU16_ok h hm _ hv).mono ?_); rintro e w1 ⟨rfl, h', f'⟩; obtain ⟨g1, off1, c1, hb1, hi1, hn1⟩ := h'.blk; have q1 := hb1.cell 0; have d1 := hb1.free 0; (simp only [List.getElem?_cons_zero] at q1); (rw [List.length_drop] at q1); have HB1 := hid hb1; have HI1 := hid hi1; have HF := hid f'; clear h' hb1 hi1 f')
  go_ret2
  have f1 : Frm (· = b) w (w1.setCell ⟨b, 0, none⟩ (.slice (some ⟨g, off, none⟩) x.length c)) := HF.out.setCell _ _ (.inr rfl)
  exact ⟨rfl, ⟨g, off, c, HB1.out.setCell 0 _, HI.out.frm f1 (fun p hp => by cases hp; exact hn), hn⟩, f1⟩
set_option maxHeartbeats 2000000 in
theorem RBytes_ok {w : World} {b : Nat} {x : List Int} (h : IsRd w b x) (most : Int) (hm : 2 ≤ x.length) (k : Nat) (hv : IntKind.u16.wrap (vOf (x.take 2)) = (k : Int)) (hk : (k : Int) ≤ most) (hk2 : k ≤ x.length - 2) (hk3 : k ≤ 65535) : Calls Try.prog 17 #[.pointer (some ⟨b, 0, none⟩), .int .i64 most] w fun e w' =>
    ∃ g', e = .returned (.tuple #[.slice (some ⟨g', 0, none⟩) k k, .int .i64 0]) ∧ w.heap.size ≤ g' ∧ IsInts .u8 w' (some ⟨g', 0, none⟩) k ((x.drop 2).take k) ∧ IsRd w' b (x.drop (2 + k)) ∧ Frm (· = b) w w' := by
  obtain ⟨g, off, c, hb, hi, hn⟩ := h.blk
  have q0 := hb.cell 0
  simp only [List.getElem?_cons_zero] at q0
  have HB := hid hb; clear hb
  have HI := hid hi; clear hi
  have e1 : (k : Int) ≤ ((x.length - 2 : Nat) : Int) := by omega
  have e0 : (0 : Int) ≤ (k : Int) := by omega
  have hlt : ((x.drop 2).take k).length = k := by rw [List.length_take, List.length_drop]; omega
  go_enter Try.func17, Try.ntmps17
  go_wp2_with (first
    | (go_at_call 20; (with_reducible refine (RU16_ok h hm _ hv).mono ?_); rintro e w1 ⟨rfl, h', f'⟩; obtain ⟨g1, off1, c1, hb1, hi1, hn1⟩ := h'.blk; have q1 := hb1.cell 0; have d1 := hb1.free 0; (simp only [List.getElem?_cons_zero] at q1); (rw [List.length_drop] at q1); have HB1 := hid hb1; have HI1 := hid hi1; have HF := hid f'; clear h' hb1 hi1 f'; have e2 : (k : Int) ≤ (c1 : Int) := by have := HI1.out.le; rw [List.length_drop] at this; omega)
    | (go_at_call 26; (with_reducible refine (copied_calls _ _ _ ((x.drop 2).take k) _ hlt (HI1.out.take k) (by omega)).mono ?_); rintro e w' ⟨rfl, hb', f'⟩; have HB2 := hid (HB1.out.below f' HB1.out.lt); have q2 := HB2.out.cell 0; have d2 := HB2.out.free 0; (simp only [List.getElem?_cons_zero] at q2); (rw [List.length_drop] at q2); have HC := hid hb'; have HF2 := hid f'; clear hb' f'))
  · rename_i hck
    go_ret2
    have hbl := HB1.out.lt
    have f0 : Frm (· = b) w w' := HF.out.trans (Frm.of_below HF2.out (fun k hk hk' => absurd (Nat.lt_of_lt_of_le hk hk') (Nat.lt_irrefl _)))
    have f1 : Frm (· = b) w' (w'.setCell ⟨b, 0, none⟩ (.slice (some ⟨g1, off1, none⟩) (x.length - 2 - k) (0))) := (Frm.refl _ _).setCell _ _ (.inr rfl)
    have hout : IsInts .u8 w' (some ⟨w1.heap.size, 0, none⟩) k ((x.drop 2).take k) := IsInts.of_take HC.out (List.take_of_length_le (by simp)) (by omega) (by omega) (HI1.out.take k).wf
    have hlast : x.length - 2 - k = (x.drop (2 + k)).length := by rw [List.length_drop]; omega
    refine ⟨w1.heap.size, rfl, HF.out.size, hout.frm f1 (fun p hp => by cases hp; exact Ne.symm (Nat.ne_of_lt hbl)), ⟨g1, off1, 0, ?_, ?_, hn1⟩, f0.trans f1⟩
    · rw [← hlast]
      exact HB2.out.setCell 0 _
    · have hnil : x.drop (2 + k) = [] := List.drop_eq_nil_of_le (by have := HI1.out.le; rw [List.length_drop] at this; omega)
      exact ⟨by rw [hnil]; exact Nat.le_refl _, by decide, fun h => absurd (by rw [hnil]; rfl) h, fun _ h => by rw [hnil] at h; cases h⟩
  · rename_i hck
    go_ret2
    have hbl := HB1.out.lt
    have f0 : Frm (· = b) w w' := HF.out.trans (Frm.of_below HF2.out (fun k hk hk' => absurd (Nat.lt_of_lt_of_le hk hk') (Nat.lt_irrefl _)))
    have f1 : Frm (· = b) w' (w'.setCell ⟨b, 0, none⟩ (.slice (some ⟨g1, off1 + k, none⟩) (x.length - 2 - k) (c1 - k))) := (Frm.refl _ _).setCell _ _ (.inr rfl)
    have hout : IsInts .u8 w' (some ⟨w1.heap.size, 0, none⟩) k ((x.drop 2).take k) := IsInts.of_take HC.out (List.take_of_length_le (by simp)) (by omega) (by omega) (HI1.out.take k).wf
    have hlast : x.length - 2 - k = (x.drop (2 + k)).length := by rw [List.length_drop]; omega
    refine ⟨w1.heap.size, rfl, HF.out.size, hout.frm f1 (fun p hp => by cases hp; exact Ne.symm (Nat.ne_of_lt hbl)), ⟨g1, off1 + k, c1 - k, ?_, ?_, hn1⟩, f0.trans f1⟩
    · rw [← hlast]
      exact HB2.out.setCell 0 _
    · have hd := (HI1.out.drop k).below HF2.out (Nat.le_refl _)
      rw [List.drop_drop] at hd
      exact hd.frm f1 (fun p hp => by cases hp; exact hn1)
end Go.Proofs.Ytifhjdjjekeegaa
