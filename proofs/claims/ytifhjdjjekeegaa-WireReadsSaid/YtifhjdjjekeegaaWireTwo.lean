/- A writer and the document's own bytes beside it. -/
import Derived.Test.YtifhjdjjekeegaaWireVal
import Derived.Test.YtifhjdjjekeegaaTypes
namespace Go.Proofs.Ytifhjdjjekeegaa
open Go.RowKit Go.ChangeShapes
set_option linter.unusedVariables false
set_option linter.unusedSimpArgs false
set_option maxHeartbeats 2000000 in
theorem Put_calls {w : World} {A : Nat → Prop} {v : Value} {y : List Int} (h : OwnB w A v y) (hA : ∀ k, A k → k < w.heap.size) (n : Int) (h0 : 0 ≤ n) (h1 : n < 18446744073709551616) (M : Int) (m : Nat) (hM : M = m) (hm : m ≤ 8) (hl : y.length + 8 ≤ 140737488355328) :
    Calls Try.prog 24 #[v, .int .u64 n, .int .i64 M] w fun e w' => ∃ v', e = .returned v' ∧ OwnB w' A v' (y ++ be n m) ∧ Frm (fun k => ¬ A k) w w' := by
  subst hM
  go_enter Try.func24, Try.ntmps24
  go_wp2
  go_loopw [0, 7] (fun u i wr => ∃ i' : Int, -1 ≤ i' ∧ i' < m ∧ i = .int .i64 i' ∧ OwnB wr A u (y ++ (be n m).take (m - 1 - i').toNat) ∧ Frm (fun k => ¬ A k) w wr) (fun _ i _ => (intOf i + 1).toNat)
  case atStart => exact ⟨m - 1, by omega, by omega, by go_num, by rw [show ((m : Int) - 1 - (m - 1)).toNat = 0 by omega]; simpa using h, Frm.refl _ _⟩
  case round =>
    obtain ⟨i', hi0, hi1, rfl, ho, hf⟩ := hrel
    by_cases hneg : i' < 0
    · obtain rfl : i' = -1 := by omega
      rw [show ((m : Int) - 1 - -1).toNat = m by omega, List.take_of_length_le (by rw [be_len]; omega)] at ho
      go_wp2
      go_ret
      exact ⟨_, rfl, ho, hf⟩
    · obtain ⟨q, rfl⟩ : ∃ q : Nat, i' = q := ⟨i'.toNat, by omega⟩
      have HO := hid ho; clear ho
      have HF := hid hf; clear hf
      have hAw := hid (show ∀ o k, A k → k < (wr.alloc o).heap.size from fun o k hk => by have := hA k hk; have := HF.out.size; simp; omega)
      have hlw : (y ++ List.take (↑m - 1 - (q : Int)).toNat (be n m)).length + 1 ≤ 140737488355328 := by
        rw [List.length_append, List.length_take, be_len]; omega
      have hy1 := hid (one_ints wr (IntKind.u8.wrap (n / 2 ^ (8 * (q : Int)).toNat)) 5 (wfw _))
      have hwq : IntKind.i64.wrap (8 * (q : Int)) = ((8 * q : Nat) : Int) := by
        simp [IntKind.wrap, IntKind.bits, IntKind.signed]; omega
      have hq7 : (q : Int) ≤ 7 := by omega
      have hmin : min (8 * q) 64 = 8 * q := by omega
      have hlwh := hid hlw; clear hlw
      go_wp2_with (at_builtin; refine wpList_more rfl _ _ rfl rfl (HO.out.frm0 ((Frm.refl _ _).alloc _)) (hAw.out _) hy1.out rfl hlwh.out rfl rfl ?_; intro a' l' c' wq ho' hf' hat'; have HO' := hid ho'; have HF' := hid hf'; clear ho' hf' hat')
      go_roundw
      case measure => simp [intOf]
      case rel =>
        refine ⟨q - 1, by omega, by omega, by go_num, ?_, ?_⟩
        · have e1 : ((m : Int) - 1 - (q : Int)).toNat = m - 1 - q := by omega
          have e2 : ((m : Int) - 1 - ((q : Int) - 1)).toNat = m - q := by omega
          have e3 : IntKind.u8.wrap (n / 2 ^ (8 * (q : Int)).toNat) = n / 2 ^ (8 * q) % 256 := by
            rw [wrap_u8, show (8 * (q : Int)).toNat = 8 * q by omega]
          have ho := HO'.out
          rw [e1, e3] at ho
          rw [e2, be_take n m q (by omega), ← List.append_assoc]
          exact ho
        · exact HF.out.trans (((Frm.refl (fun k => ¬ A k) wr).alloc _).trans' HF'.out (fun k _ hk => HO.out.off k hk))
/-- A writer at b and bytes v of one's own: neither lies in the other, nor in A. -/
structure Two (w : World) (A : Nat → Prop) (b : Nat) (v : Value) (x y : List Int) : Prop where
  ex : ∃ u, Blk w b [u] TWr ∧ OwnB w (fun k => A k ∨ v.ownBlock = some k) u x ∧ u.ownBlock ≠ some b ∧ OwnB w (fun k => A k ∨ k = b ∨ u.ownBlock = some k) v y ∧ ¬ A b
section
variable {w w' : World} {A A' : Nat → Prop} {b : Nat} {v : Value} {x y x' : List Int}
theorem Two.wr (h : Two w A b v x y) : IsWr w b (fun k => A k ∨ v.ownBlock = some k) x := by
  obtain ⟨u, h1, h2, h3, h4, h5⟩ := h.ex
  exact ⟨⟨u, h1, h2, h3⟩, fun hb => hb.elim h5 (fun hb => h4.off b hb (.inr (.inl rfl)))⟩
theorem Two.hA (h : Two w A b v x y) (hA : ∀ k, A k → k < w.heap.size) : ∀ k, (A k ∨ v.ownBlock = some k) → k < w.heap.size := by
  obtain ⟨u, h1, h2, h3, h4, h5⟩ := h.ex
  exact fun k hk => hk.elim (hA k) (fun hk => h4.lt hk)
theorem Two.wrote (h : Two w A b v x y) (hw : IsWr w' b (fun k => A k ∨ v.ownBlock = some k) x') (f : Frm (fun k => ¬ (A k ∨ v.ownBlock = some k)) w w') : Two w' A b v x' y := by
  obtain ⟨u, h1, h2, h3, h4, h5⟩ := h.ex
  obtain ⟨u', g1, g2, g3⟩ := hw.blk
  refine ⟨u', g1, g2, g3, ⟨(h4.frm f (fun k hk hn => hn (.inr hk))).own, fun k hk hk2 => ?_, h4.wf⟩, h5⟩
  rcases hk2 with hk2 | hk2 | hk2
  · exact h4.off k hk (.inl hk2)
  · exact h4.off k hk (.inr (.inl hk2))
  · exact g2.off k hk2 (.inr hk)
theorem Two.quiet (h : Two w A b v x y) (f : Frm (fun _ => False) w w') : Two w' A b v x y := by
  obtain ⟨u, h1, h2, h3, h4, h5⟩ := h.ex
  exact ⟨u, h1.frm f (fun h => h), h2.frm0 f, h3, h4.frm0 f, h5⟩
theorem Two.more (h : Two w A b v x y) (f : Frm (fun _ => False) w w') (hA : ∀ k, A' k → A k ∨ w.heap.size ≤ k) : Two w' A' b v x y := by
  obtain ⟨u, h1, h2, h3, h4, h5⟩ := h.ex
  have hb := h1.lt
  refine ⟨u, h1.frm f (fun h => h), ⟨(h2.frm0 f).own, fun k hk hk2 => ?_, h2.wf⟩, h3, ⟨(h4.frm0 f).own, fun k hk hk2 => ?_, h4.wf⟩, fun hab => ?_⟩
  · rcases hk2 with hk2 | hk2
    · rcases hA k hk2 with h6 | h6
      · exact h2.off k hk (.inl h6)
      · have := h2.lt hk; omega
    · exact h2.off k hk (.inr hk2)
  · rcases hk2 with hk2 | hk2
    · rcases hA k hk2 with h6 | h6
      · exact h4.off k hk (.inl h6)
      · have := h4.lt hk; omega
    · exact h4.off k hk (.inr hk2)
  · rcases hA b hab with h6 | h6
    · exact h5 h6
    · omega
theorem Two.less (h : Two w A' b v x y) (hA : ∀ k, A k → A' k) : Two w A b v x y := by
  obtain ⟨u, h1, h2, h3, h4, h5⟩ := h.ex
  exact ⟨u, h1, ⟨h2.own, fun k hk hk2 => h2.off k hk (hk2.imp (hA k) id), h2.wf⟩, h3, ⟨h4.own, fun k hk hk2 => h4.off k hk (hk2.imp (hA k) id), h4.wf⟩, fun hb => h5 (hA b hb)⟩
/-- The bytes have become others. -/
theorem Two.put {u v' : Value} {y' : List Int} (h1 : Blk w b [u] TWr) (h2 : OwnB w (fun k => A k ∨ v.ownBlock = some k) u x) (h3 : u.ownBlock ≠ some b) (h5 : ¬ A b)
    (h' : OwnB w' (fun k => A k ∨ k = b ∨ u.ownBlock = some k) v' y') (f : Frm (fun k => ¬ (A k ∨ k = b ∨ u.ownBlock = some k)) w w') : Two w' A b v' x y' := by
  refine ⟨u, h1.frm f (fun hn => hn (.inr (.inl rfl))), ⟨(h2.frm f (fun k hk hn => hn (.inr (.inr hk)))).own, fun k hk hk2 => ?_, h2.wf⟩, h3, h', h5⟩
  rcases hk2 with hk2 | hk2
  · exact h2.off k hk (.inl hk2)
  · exact h'.off k hk2 (.inr (.inr hk))
theorem Put_two (h : Two w A b v x y) (hA : ∀ k, A k → k < w.heap.size) (n : Int) (h0 : 0 ≤ n) (h1 : n < 18446744073709551616) (M : Int) (m : Nat) (hM : M = m) (hm : m ≤ 8) (hl : y.length + 8 ≤ 140737488355328) :
    Calls Try.prog 24 #[v, .int .u64 n, .int .i64 M] w fun e w' => ∃ v', e = .returned v' ∧ Two w' A b v' x (y ++ be n m) ∧ Frm (fun k => ¬ A k) w w' := by
  obtain ⟨u, g1, g2, g3, g4, g5⟩ := h.ex
  have hA2 : ∀ k, (A k ∨ k = b ∨ u.ownBlock = some k) → k < w.heap.size := fun k hk => by
    rcases hk with hk | rfl | hk
    · exact hA k hk
    · exact g1.lt
    · exact g2.lt hk
  exact (Put_calls g4 hA2 n h0 h1 M m hM hm hl).mono fun _ _ ⟨v', he, h', f'⟩ => ⟨v', he, Two.put g1 g2 g3 g5 h' f', f'.mono fun k _ hk hk2 => hk (.inl hk2)⟩
theorem Two.bytes (h : Two w A b v x y) : ∃ a c, v = .slice a y.length c ∧ IsInts .u8 w a c y := by
  obtain ⟨u, g1, g2, g3, g4, g5⟩ := h.ex
  obtain ⟨a, c, e, hi, _⟩ := g4.ints
  exact ⟨a, c, e, hi⟩
end
theorem WU8_two {w : World} {A : Nat → Prop} {b : Nat} {v : Value} {x y : List Int} (h : Two w A b v x y) (hA : ∀ k, A k → k < w.heap.size) (n : Int) (h0 : 0 ≤ n) (h1 : n < 256) (hl : x.length + 8 ≤ 140737488355328) :
    Calls Try.prog 10 #[.pointer (some ⟨b, 0, none⟩), .int .u8 n] w fun e w' => e = .returned (.tuple #[]) ∧ Two w' A b v (x ++ be n 1) y ∧ Frm (fun k => ¬ A k) w w' :=
  (WU8_calls h.wr (h.hA hA) n h0 h1 hl).mono fun _ _ ⟨he, h', f'⟩ => ⟨he, h.wrote h' f', f'.mono fun k _ hk hk2 => hk (.inl hk2)⟩
theorem WU16_two {w : World} {A : Nat → Prop} {b : Nat} {v : Value} {x y : List Int} (h : Two w A b v x y) (hA : ∀ k, A k → k < w.heap.size) (n : Int) (h0 : 0 ≤ n) (h1 : n < 65536) (hl : x.length + 8 ≤ 140737488355328) :
    Calls Try.prog 12 #[.pointer (some ⟨b, 0, none⟩), .int .u16 n] w fun e w' => e = .returned (.tuple #[]) ∧ Two w' A b v (x ++ be n 2) y ∧ Frm (fun k => ¬ A k) w w' :=
  (WU16_calls h.wr (h.hA hA) n h0 h1 hl).mono fun _ _ ⟨he, h', f'⟩ => ⟨he, h.wrote h' f', f'.mono fun k _ hk hk2 => hk (.inl hk2)⟩
theorem WU32_two {w : World} {A : Nat → Prop} {b : Nat} {v : Value} {x y : List Int} (h : Two w A b v x y) (hA : ∀ k, A k → k < w.heap.size) (n : Int) (h0 : 0 ≤ n) (h1 : n < 4294967296) (hl : x.length + 8 ≤ 140737488355328) :
    Calls Try.prog 13 #[.pointer (some ⟨b, 0, none⟩), .int .u32 n] w fun e w' => e = .returned (.tuple #[]) ∧ Two w' A b v (x ++ be n 4) y ∧ Frm (fun k => ¬ A k) w w' :=
  (WU32_calls h.wr (h.hA hA) n h0 h1 hl).mono fun _ _ ⟨he, h', f'⟩ => ⟨he, h.wrote h' f', f'.mono fun k _ hk hk2 => hk (.inl hk2)⟩
theorem WU64_two {w : World} {A : Nat → Prop} {b : Nat} {v : Value} {x y : List Int} (h : Two w A b v x y) (hA : ∀ k, A k → k < w.heap.size) (n : Int) (h0 : 0 ≤ n) (h1 : n < 18446744073709551616) (hl : x.length + 8 ≤ 140737488355328) :
    Calls Try.prog 14 #[.pointer (some ⟨b, 0, none⟩), .int .u64 n] w fun e w' => e = .returned (.tuple #[]) ∧ Two w' A b v (x ++ be n 8) y ∧ Frm (fun k => ¬ A k) w w' :=
  (WU64_calls h.wr (h.hA hA) n h0 h1 hl).mono fun _ _ ⟨he, h', f'⟩ => ⟨he, h.wrote h' f', f'.mono fun k _ hk hk2 => hk (.inl hk2)⟩
theorem WBytes_two {w : World} {A : Nat → Prop} {b : Nat} {v : Value} {x y : List Int} (h : Two w A b v x y) (hA : ∀ k, A k → k < w.heap.size) {a : Option Addr} {c : Nat} {z : List Int} (hyf : ∀ w', Frm (fun k => ¬ A k) w w' → IsInts .u8 w' a c z) (hyl : z.length ≤ 65535) (hl : x.length + 65600 ≤ 140737488355328) :
    Calls Try.prog 15 #[.pointer (some ⟨b, 0, none⟩), .slice a z.length c] w fun e w' => e = .returned (.tuple #[]) ∧ Two w' A b v (x ++ be z.length 2 ++ z) y ∧ Frm (fun k => ¬ A k) w w' :=
  (WBytes_calls h.wr (h.hA hA) (hyf w (Frm.refl _ _)) (fun w' f => hyf w' (f.mono fun k _ hk hk2 => hk (.inl hk2))) hyl hl).mono fun _ _ ⟨he, h', f'⟩ => ⟨he, h.wrote h' f', f'.mono fun k _ hk hk2 => hk (.inl hk2)⟩
end Go.Proofs.Ytifhjdjjekeegaa
