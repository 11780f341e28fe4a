/- The wire: what is written, told, read. -/
import Derived.Test.YtljfbaakgjmmfaaWire
namespace Go.Proofs.Ytljfbaakgjmmfaa
open Go.RowKit Go.ChangeShapes
set_option linter.unusedVariables false
theorem WnumL {w : World} {b : Nat} {A : Nat → Prop} {x : List Int} (h : IsWr w b A x) (hA : ∀ k, A k → k < w.heap.size) (n : Int) (h0 : 0 ≤ n) (h1 : n < 18446744073709551616) (M : Int) (m : Nat) (hM : M = m) (hm : m ≤ 8) (hl : x.length + 8 ≤ 140737488355328) :
    Calls Try.prog 42 #[.pointer (some ⟨b, 0, none⟩), .int .u64 n, .int .i64 M] w fun e w' => e = .returned (.tuple #[]) ∧ IsWr w' b A (x ++ be n m) ∧ Frm (fun k => ¬ A k) w w' := by
  subst hM; exact Wnum h hA n h0 h1 m hm hl
theorem WU8_calls {w : World} {b : Nat} {A : Nat → Prop} {x : List Int} (h : IsWr w b A x) (hA : ∀ k, A k → k < w.heap.size) (n : Int) (h0 : 0 ≤ n) (h1 : n < 256) (hl : x.length + 8 ≤ 140737488355328) :
    Calls Try.prog 28 #[.pointer (some ⟨b, 0, none⟩), .int .u8 n] w fun e w' => e = .returned (.tuple #[]) ∧ IsWr w' b A (x ++ be n 1) ∧ Frm (fun k => ¬ A k) w w' := by
  have hw : IntKind.u64.wrap n = n := by simp [IntKind.wrap, IntKind.bits, IntKind.signed]; omega
  go_enter Try.func28, Try.ntmps28
  go_wp2_with (go_at_call 42; (with_reducible refine (WnumL h hA n h0 (by omega) 1 1 rfl (by decide) hl).mono ?_); rintro e w' ⟨rfl, h', f'⟩)
  go_end0
  exact ⟨rfl, h', f'⟩
theorem WU16_calls {w : World} {b : Nat} {A : Nat → Prop} {x : List Int} (h : IsWr w b A x) (hA : ∀ k, A k → k < w.heap.size) (n : Int) (h0 : 0 ≤ n) (h1 : n < 65536) (hl : x.length + 8 ≤ 140737488355328) :
    Calls Try.prog 31 #[.pointer (some ⟨b, 0, none⟩), .int .u16 n] w fun e w' => e = .returned (.tuple #[]) ∧ IsWr w' b A (x ++ be n 2) ∧ Frm (fun k => ¬ A k) w w' := by
  have hw : IntKind.u64.wrap n = n := by simp [IntKind.wrap, IntKind.bits, IntKind.signed]; omega
  go_enter Try.func31, Try.ntmps31
  go_wp2_with (go_at_call 42; (with_reducible refine (WnumL h hA n h0 (by omega) 2 2 rfl (by decide) hl).mono ?_); rintro e w' ⟨rfl, h', f'⟩)
  go_end0
  exact ⟨rfl, h', f'⟩
theorem WU32_calls {w : World} {b : Nat} {A : Nat → Prop} {x : List Int} (h : IsWr w b A x) (hA : ∀ k, A k → k < w.heap.size) (n : Int) (h0 : 0 ≤ n) (h1 : n < 4294967296) (hl : x.length + 8 ≤ 140737488355328) :
    Calls Try.prog 29 #[.pointer (some ⟨b, 0, none⟩), .int .u32 n] w fun e w' => e = .returned (.tuple #[]) ∧ IsWr w' b A (x ++ be n 4) ∧ Frm (fun k => ¬ A k) w w' := by
  have hw : IntKind.u64.wrap n = n := by simp [IntKind.wrap, IntKind.bits, IntKind.signed]; omega
  go_enter Try.func29, Try.ntmps29
  go_wp2_with (go_at_call 42; (with_reducible refine (WnumL h hA n h0 (by omega) 4 4 rfl (by decide) hl).mono ?_); rintro e w' ⟨rfl, h', f'⟩)
  go_end0
  exact ⟨rfl, h', f'⟩
set_option maxHeartbeats 2000000 in
theorem copied_calls (a : Option Addr) (c n : Nat) (zs : List Int) (w : World) (hn : zs.length = n) (h : IsInts .u8 w a c zs) (hb : zs.length ≤ 281474976710656) :
    Calls Try.prog 43 #[.slice a n c] w fun e w' => e = .returned (.slice (some ⟨w.heap.size, 0, none⟩) zs.length zs.length) ∧ Blk w' w.heap.size (byt zs) 5 ∧ Below w.heap.size w w' := by
  subst hn
  have hmk := run_make_row' (P := Try.prog) 58 5 (.int .u8 0) 1 Try.underlying58 u8_info rfl .i64 .i64 zs.length (by omega) (by omega)
  have hbl : Blk (w.alloc (.cells (madeCells #[.int .u8 0] zs.length) 5)) w.heap.size (madeCells #[.int .u8 0] zs.length).toList 5 := by
    have := Blk.new w (madeCells #[.int .u8 0] zs.length).toList 5
    simpa using this
  have hsrc : 0 < (byt zs).length → (some (⟨w.heap.size, 0, none⟩ : Addr)) = some ⟨w.heap.size, 0, none⟩ ∧ ∃ ad, a = some ad ∧ ∀ (j : Nat) v, (byt zs)[j]? = some v → (w.alloc (.cells (madeCells #[.int .u8 0] zs.length) 5)).cell? (ad.add j) = some v := by
    intro hp
    exact ⟨rfl, (h.below ((Below.refl _ _).alloc (Nat.le_refl _) _) (Nat.le_refl _)).cellsrc (by simpa using hp)⟩
  go_enter Try.func43, Try.ntmps43
  go_wp2_with (refine wpList_copy_splice rfl (.tmp 7) (.tmp 8) 58 58 rfl 5 Try.underlying58 u8_size _ _ _ _ _ _ rfl rfl w.heap.size 0 _ 5 hbl (byt zs) (by simp) hsrc (by rw [made_len, List.length_map]; omega) (byt_one zs) w.heap.size w ((Below.refl _ _).alloc (Nat.le_refl _) _) (Nat.le_refl _) ?_; intro w2 hg2 hb2)
  go_ret
  refine ⟨rfl, ?_, hb2⟩
  have hg2 := hg2.out
  rw [splice_all _ _ (by rw [made_len, List.length_map])] at hg2
  exact hg2

theorem WNew_calls (w : World) (A : Nat → Prop) (hA : ∀ k, A k → k < w.heap.size) : Calls Try.prog 27 #[] w fun e w' => e = .returned (.pointer (some ⟨w.heap.size, 0, none⟩)) ∧ IsWr w' w.heap.size A [] ∧ Below w.heap.size w w' := by
  go_enter Try.func27, Try.ntmps27
  go_wp2
  go_ret
  exact ⟨rfl, ⟨⟨.slice none 0 0, Blk.new w [.slice none 0 0] TWr, OwnB.nil _ _, by simp [Value.ownBlock]⟩, fun h => Nat.lt_irrefl _ (hA _ h)⟩, (Below.refl _ _).alloc (Nat.le_refl _) _⟩
theorem WAll_calls {w : World} {b : Nat} {A : Nat → Prop} {x : List Int} (h : IsWr w b A x) (hl : x.length ≤ 281474976710656) (m : Nat) (hm : x.length = m) :
    Calls Try.prog 30 #[.pointer (some ⟨b, 0, none⟩)] w fun e w' => e = .returned (.slice (some ⟨w.heap.size, 0, none⟩) m m) ∧ IsInts .u8 w' (some ⟨w.heap.size, 0, none⟩) m x ∧ Below w.heap.size w w' := by
  subst hm
  obtain ⟨v, hb, ho, _⟩ := h.blk
  obtain ⟨a, c, rfl, hi, _⟩ := ho.ints
  have q0 := hb.cell 0
  simp only [List.getElem?_cons_zero] at q0
  clear hb h
  go_enter Try.func30, Try.ntmps30
  go_wp2_with (go_at_call 43; (with_reducible refine (copied_calls _ _ _ x _ rfl hi hl).mono ?_); rintro e w' ⟨rfl, hb', f'⟩)
  go_ret
  exact ⟨rfl, IsInts.of_take hb' (List.take_of_length_le (by simp)) (Nat.le_refl _) (by omega) hi.wf, f'⟩
theorem IsWr.quiet {w w' : World} {b : Nat} {A : Nat → Prop} {x : List Int} (h : IsWr w b A x) (f : Frm (fun _ => False) w w') : IsWr w' b A x := by
  obtain ⟨v, hb, ho, hne⟩ := h.blk
  exact ⟨⟨v, hb.frm f (fun h => h), ho.frm0 f, hne⟩, h.nA⟩
theorem IsWr.more {w w' : World} {b : Nat} {A A' : Nat → Prop} {x : List Int} (h : IsWr w b A x) (f : Frm (fun _ => False) w w') (hA : ∀ k, A' k → A k ∨ w.heap.size ≤ k) (hb : b < w.heap.size) : IsWr w' b A' x := by
  obtain ⟨v, hbk, ho, hne⟩ := h.blk
  refine ⟨⟨v, hbk.frm f (fun h => h), ⟨(ho.frm0 f).own, fun k hk hak => ?_, ho.wf⟩, hne⟩, fun hab => ?_⟩
  · rcases hA k hak with h1 | h1
    · exact ho.off k hk h1
    · have := ho.lt hk; omega
  · rcases hA b hab with h1 | h1
    · exact h.nA h1
    · omega
theorem IsWr.less {w : World} {b : Nat} {A A' : Nat → Prop} {x : List Int} (h : IsWr w b A' x) (hA : ∀ k, A k → A' k) : IsWr w b A x := by
  obtain ⟨v, hbk, ho, hne⟩ := h.blk
  exact ⟨⟨v, hbk, ⟨ho.own, fun k hk hak => ho.off k hk (hA k hak), ho.wf⟩, hne⟩, fun hab => h.nA (hA b hab)⟩
theorem IsWr.lt {w : World} {b : Nat} {A : Nat → Prop} {x : List Int} (h : IsWr w b A x) : b < w.heap.size := by
  obtain ⟨v, hb, _⟩ := h.blk
  exact hb.lt
end Go.Proofs.Ytljfbaakgjmmfaa
