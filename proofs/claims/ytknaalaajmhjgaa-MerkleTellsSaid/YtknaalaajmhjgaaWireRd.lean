/- The wire's reader. -/
import Derived.Test.YtknaalaajmhjgaaWireAll
namespace Go.Proofs.Ytknaalaajmhjgaa
open Go.RowKit Go.ChangeShapes
set_option linter.unusedVariables false
set_option linter.unusedSimpArgs false
abbrev TRd : Nat := 87
/-- The reader at b: what is left. -/
structure IsRd (w : World) (b : Nat) (x : List Int) : Prop where
  blk : ∃ g off c, Blk w b [.slice (some ⟨g, off, none⟩) x.length c] TRd ∧ IsInts .u8 w (some ⟨g, off, none⟩) c x ∧ g ≠ b
theorem IsRd.quiet {w w' : World} {b : Nat} {x : List Int} (h : IsRd w b x) (f : Frm (fun _ => False) w w') : IsRd w' b x := by
  obtain ⟨g, off, c, hb, hi, hn⟩ := h.blk
  exact ⟨g, off, c, hb.frm f (fun h => h), hi.frm f (fun _ _ h => h), hn⟩
theorem IsRd.lt {w : World} {b : Nat} {x : List Int} (h : IsRd w b x) : b < w.heap.size := by
  obtain ⟨_, _, c, hb, _⟩ := h.blk
  exact hb.lt
theorem Open_calls {w : World} {a : Option Addr} {c m : Nat} {x : List Int} (hx : IsInts .u8 w a c x) (hm : x.length = m) (hl : x.length ≤ 281474976710656) :
    Calls Try.prog 44 #[.slice a m c] w fun e w' => ∃ b, w.heap.size ≤ b ∧ e = .returned (.pointer (some ⟨b, 0, none⟩)) ∧ IsRd w' b x ∧ Below w.heap.size w w' := by
  go_enter Try.func44, Try.ntmps44
  go_wp2_with (go_at_call 50; (with_reducible refine (copied_calls _ _ _ x _ hm hx hl).mono ?_); rintro e w' ⟨rfl, hb', f'⟩)
  go_ret
  subst hm
  have hi : IsInts .u8 w' (some ⟨w.heap.size, 0, none⟩) x.length x := IsInts.of_take hb' (List.take_of_length_le (by simp)) (Nat.le_refl _) (by have := hx.le; have := hx.small; omega) hx.wf
  have f1 : Frm (fun _ => False) w' (w'.alloc (.cells #[.slice (some ⟨w.heap.size, 0, none⟩) x.length x.length] TRd)) := (Frm.refl _ _).alloc _
  have hlt := hb'.lt
  exact ⟨w'.heap.size, f'.size, rfl, ⟨w.heap.size, 0, x.length, Blk.new w' [.slice (some ⟨w.heap.size, 0, none⟩) x.length x.length] TRd, hi.frm f1 (fun _ _ h => h), Nat.ne_of_lt hlt⟩, f'.alloc f'.size _⟩
theorem Left_calls {w : World} {b : Nat} {x : List Int} (h : IsRd w b x) : Calls Try.prog 45 #[.pointer (some ⟨b, 0, none⟩)] w fun e w' => e = .returned (.int .i64 x.length) ∧ w = w' := by
  obtain ⟨g, off, c, hb, hi, hn⟩ := h.blk
  have q0 := hb.cell 0
  simp only [List.getElem?_cons_zero] at q0
  clear hb hi hn h
  go_enter Try.func45, Try.ntmps45
  go_wp2
  go_ret
  exact ⟨rfl, rfl⟩
theorem IsInts.drop {w : World} {g off c : Nat} {x : List Int} (h : IsInts .u8 w (some ⟨g, off, none⟩) c x) (k : Nat) : IsInts .u8 w (some ⟨g, off + k, none⟩) (c - k) (x.drop k) := by
  refine ⟨by rw [List.length_drop]; have := h.le; omega, by have := h.small; omega, fun hn => ?_, fun n hn => h.wf n (List.mem_of_mem_drop hn)⟩
  rw [List.length_drop] at hn
  obtain ⟨g', off', e, hg, hc⟩ := h.at_ (by omega)
  cases e
  refine ⟨g, off + k, rfl, hg, fun i hi => ?_⟩
  rw [List.length_drop] at hi
  rw [Nat.add_assoc, hc (k + i) (by omega), List.getD_eq_getElem?_getD, List.getD_eq_getElem?_getD, List.getElem?_drop]
def vStep (n c : Int) : Int := Go.bits .or .u64 (IntKind.u64.wrap (n * 256)) (IntKind.u64.wrap c)
def vOf (l : List Int) : Int := l.foldl vStep 0
theorem vOf_take (l : List Int) (k : Nat) (hk : k < l.length) : vOf (l.take (k + 1)) = vStep (vOf (l.take k)) (l.getD k 0) := by
  rw [List.take_add_one, List.getElem?_eq_getElem hk, List.getD_eq_getElem?_getD, List.getElem?_eq_getElem hk]
  show vOf (l.take k ++ [l[k]]) = _
  unfold vOf
  rw [List.foldl_append]
  rfl
theorem Rshort {w : World} {b : Nat} {x : List Int} (h : IsRd w b x) (M : Int) (hM : (x.length : Int) < M) : Calls Try.prog 54 #[.pointer (some ⟨b, 0, none⟩), .int .i64 M] w fun e w' => e = .returned (.tuple #[.int .u64 0, .int .i64 20]) ∧ w = w' := by
  obtain ⟨g, off, c, hb, hi, hn⟩ := h.blk
  have q0 := hb.cell 0
  simp only [List.getElem?_cons_zero] at q0
  clear hb hi hn h
  go_enter Try.func54, Try.ntmps54
  go_wp2
  go_ret2
  exact ⟨rfl, rfl⟩
set_option maxHeartbeats 2000000 in
theorem Rnum {w : World} {b : Nat} {x : List Int} (h : IsRd w b x) (M : Int) (m : Nat) (hM : M = m) (hm1 : 0 < m) (hm : m ≤ x.length) : Calls Try.prog 54 #[.pointer (some ⟨b, 0, none⟩), .int .i64 M] w fun e w' =>
    e = .returned (.tuple #[.int .u64 (vOf (x.take m)), .int .i64 0]) ∧ IsRd w' b (x.drop m) ∧ Frm (· = b) w w' := by
  subst hM
  obtain ⟨g, off, c, hb, hi, hn⟩ := h.blk
  have hle := hi.le
  have hsm := hi.small
  obtain ⟨g', off', e, hg, hc⟩ := hi.at_ (by omega)
  cases e
  have q0 := hb.cell 0
  have d0 := hb.free 0
  simp only [List.getElem?_cons_zero] at q0
  have m0 : (0 : Int) ≤ (m : Int) := by omega
  have m1 : (m : Int) ≤ (x.length : Int) := by omega
  have m2 : (m : Int) ≤ (c : Int) := by omega
  have HB := hid hb; clear hb
  have HI := hid hi; clear hi
  have HN := hid hn; clear hn
  go_enter Try.func54, Try.ntmps54
  go_wp2
  go_loopw [6, 23] (fun n i wr => ∃ k : Nat, k ≤ m ∧ n = .int .u64 (vOf (x.take k)) ∧ i = .int .i64 k ∧ wr = w) (fun _ i _ => m - (intOf i).toNat)
  case atStart => exact ⟨0, by omega, rfl, rfl, rfl⟩
  case round =>
    obtain ⟨k, hk, rfl, rfl, rfl⟩ := hrel
    by_cases hlt : k < m
    · have u0 := hc k (by omega)
      have hv := hid (vOf_take x k (by omega))
      generalize x.getD k 0 = d at *
      generalize vOf (x.take k) = n at *
      clear q0 d0
      have hc' := hid hc; clear hc
      go_wp2
      go_roundw
      case rel => exact ⟨k + 1, by omega, by rw [hv.out]; rfl, by go_num, by first | rfl | trivial⟩
      case measure => simp [intOf]; omega
    · obtain rfl : k = m := by omega
      generalize hV : vOf (x.take k) = V
      by_cases hck : c = k
      · go_wp2
        go_ret2
        subst hck
        have hnil : x.drop c = [] := List.drop_eq_nil_of_le hle
        have f1 : Frm (· = b) wr (wr.setCell ⟨b, 0, none⟩ (.slice (some ⟨g, off, none⟩) (x.length - c) 0)) := (Frm.refl _ _).setCell _ _ (.inr rfl)
        refine ⟨by rw [hV]; rfl, ⟨g, off, 0, ?_, ⟨by rw [hnil]; exact Nat.le_refl _, by decide, fun h => absurd (by rw [hnil]; rfl) h, fun _ h => by rw [hnil] at h; cases h⟩, HN.out⟩, f1⟩
        rw [List.length_drop]
        exact HB.out.setCell 0 _
      · go_wp2
        go_ret2
        have f1 : Frm (· = b) wr (wr.setCell ⟨b, 0, none⟩ (.slice (some ⟨g, off + k, none⟩) (x.length - k) (c - k))) := (Frm.refl _ _).setCell _ _ (.inr rfl)
        refine ⟨by rw [hV]; rfl, ⟨g, off + k, c - k, ?_, ?_, HN.out⟩, f1⟩
        · rw [List.length_drop]
          exact HB.out.setCell 0 _
        · exact (HI.out.drop k).frm f1 (fun p hp => by cases hp; exact HN.out)
theorem RU8_short {w : World} {b : Nat} {x : List Int} (h : IsRd w b x) (hm : x.length < 1) : Calls Try.prog 51 #[.pointer (some ⟨b, 0, none⟩)] w fun e w' => e = .returned (.tuple #[.int .u8 0, .int .i64 20]) ∧ w = w' := by
  go_enter Try.func51, Try.ntmps51
  go_wp2_with (go_at_call 54; (with_reducible refine (Rshort h 1 (by omega)).mono ?_); rintro e w' ⟨rfl, rfl⟩)
  go_ret2
  exact ⟨rfl, rfl⟩
theorem RU8_ok {w : World} {b : Nat} {x : List Int} (h : IsRd w b x) (hm : 1 ≤ x.length) (v : Int) (hv : IntKind.u8.wrap (vOf (x.take 1)) = v) : Calls Try.prog 51 #[.pointer (some ⟨b, 0, none⟩)] w fun e w' => e = .returned (.tuple #[.int .u8 v, .int .i64 0]) ∧ IsRd w' b (x.drop 1) ∧ Frm (· = b) w w' := by
  have hv' := hid hv; clear hv
  go_enter Try.func51, Try.ntmps51
  go_wp2_with (go_at_call 54; (with_reducible refine (Rnum h 1 1 rfl (by decide) hm).mono ?_); rintro e w' ⟨rfl, h', f'⟩)
  go_ret2
  exact ⟨by rw [← hv'.out]; rfl, h', f'⟩
theorem RU16_short {w : World} {b : Nat} {x : List Int} (h : IsRd w b x) (hm : x.length < 2) : Calls Try.prog 53 #[.pointer (some ⟨b, 0, none⟩)] w fun e w' => e = .returned (.tuple #[.int .u16 0, .int .i64 20]) ∧ w = w' := by
  go_enter Try.func53, Try.ntmps53
  go_wp2_with (go_at_call 54; (with_reducible refine (Rshort h 2 (by omega)).mono ?_); rintro e w' ⟨rfl, rfl⟩)
  go_ret2
  exact ⟨rfl, rfl⟩
theorem RU16_ok {w : World} {b : Nat} {x : List Int} (h : IsRd w b x) (hm : 2 ≤ x.length) (v : Int) (hv : IntKind.u16.wrap (vOf (x.take 2)) = v) : Calls Try.prog 53 #[.pointer (some ⟨b, 0, none⟩)] w fun e w' => e = .returned (.tuple #[.int .u16 v, .int .i64 0]) ∧ IsRd w' b (x.drop 2) ∧ Frm (· = b) w w' := by
  have hv' := hid hv; clear hv
  go_enter Try.func53, Try.ntmps53
  go_wp2_with (go_at_call 54; (with_reducible refine (Rnum h 2 2 rfl (by decide) hm).mono ?_); rintro e w' ⟨rfl, h', f'⟩)
  go_ret2
  exact ⟨by rw [← hv'.out]; rfl, h', f'⟩
theorem RU32_short {w : World} {b : Nat} {x : List Int} (h : IsRd w b x) (hm : x.length < 4) : Calls Try.prog 52 #[.pointer (some ⟨b, 0, none⟩)] w fun e w' => e = .returned (.tuple #[.int .u32 0, .int .i64 20]) ∧ w = w' := by
  go_enter Try.func52, Try.ntmps52
  go_wp2_with (go_at_call 54; (with_reducible refine (Rshort h 4 (by omega)).mono ?_); rintro e w' ⟨rfl, rfl⟩)
  go_ret2
  exact ⟨rfl, rfl⟩
theorem RU32_ok {w : World} {b : Nat} {x : List Int} (h : IsRd w b x) (hm : 4 ≤ x.length) (v : Int) (hv : IntKind.u32.wrap (vOf (x.take 4)) = v) : Calls Try.prog 52 #[.pointer (some ⟨b, 0, none⟩)] w fun e w' => e = .returned (.tuple #[.int .u32 v, .int .i64 0]) ∧ IsRd w' b (x.drop 4) ∧ Frm (· = b) w w' := by
  have hv' := hid hv; clear hv
  go_enter Try.func52, Try.ntmps52
  go_wp2_with (go_at_call 54; (with_reducible refine (Rnum h 4 4 rfl (by decide) hm).mono ?_); rintro e w' ⟨rfl, h', f'⟩)
  go_ret2
  exact ⟨by rw [← hv'.out]; rfl, h', f'⟩
end Go.Proofs.Ytknaalaajmhjgaa
