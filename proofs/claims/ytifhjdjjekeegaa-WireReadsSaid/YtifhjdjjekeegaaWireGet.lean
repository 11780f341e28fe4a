/- The document's reader; bounds of what is read. -/
import Derived.Test.YtifhjdjjekeegaaWireEnc
namespace Go.Proofs.Ytifhjdjjekeegaa
open Go.RowKit Go.ChangeShapes
set_option linter.unusedVariables false
set_option linter.unusedSimpArgs false
theorem i64_and7 (n : Int) : Go.bits .and .i64 n 7 = n % 8 := by
  have h7 : (BitVec.ofInt 64 7).toNat = 2 ^ 3 - 1 := by decide
  have key : (BitVec.ofInt 64 n &&& BitVec.ofInt 64 7).toNat = (n % ((2 ^ 64 : Nat) : Int)).toNat % 2 ^ 3 := by
    rw [BitVec.toNat_and, BitVec.toNat_ofInt, h7, Nat.and_two_pow_sub_one_eq_mod]
  show IntKind.i64.wrap ((BitVec.ofInt 64 n &&& BitVec.ofInt 64 7).toNat : Nat) = n % 8
  rw [key, IntKind.wrap_i64]
  omega
/-- What is read of so many bytes is below this. -/
theorem vOf_bound (l : List Int) (hl : ∀ x ∈ l, 0 ≤ x ∧ x ≤ 255) (h8 : l.length ≤ 8) : 0 ≤ vOf l ∧ vOf l < 256 ^ l.length := by
  have key : ∀ (r : List Int), (∀ x ∈ r, 0 ≤ x ∧ x ≤ 255) → ∀ (n : Int) (j : Nat), 0 ≤ n → n < 256 ^ j → j + r.length ≤ 8 → 0 ≤ r.foldl vStep n ∧ r.foldl vStep n < 256 ^ (j + r.length) := by
    intro r
    induction r with
    | nil => intro _ n j h0 h1 _; exact ⟨h0, h1⟩
    | cons c r ih =>
      intro hr n j h0 h1 hj
      rw [List.length_cons] at hj
      have hc := hr c List.mem_cons_self
      have hp : (256 : Int) ^ j ≤ 256 ^ 7 := by
        have : (256 : Nat) ^ j ≤ 256 ^ 7 := Nat.pow_le_pow_right (by decide) (by omega)
        have h2 : ((256 ^ j : Nat) : Int) ≤ ((256 ^ 7 : Nat) : Int) := Int.ofNat_le.2 this
        simpa using h2
      have hp7 : (256 : Int) ^ 7 = 72057594037927936 := by decide
      have he := vStep_eq n c h0 (by omega) hc.1 hc.2
      have hs : (256 : Int) ^ (j + 1) = 256 ^ j * 256 := Int.pow_succ ..
      have := ih (fun x hx => hr x (List.mem_cons_of_mem _ hx)) (vStep n c) (j + 1) (by omega) (by omega) (by omega)
      rw [List.length_cons, show j + (r.length + 1) = j + 1 + r.length by omega]
      exact this
  have := key l hl 0 0 (by decide) (by decide) (by omega)
  rw [Nat.zero_add] at this
  exact this
theorem bts_of {x : List Int} (h : ∀ n ∈ x, (Lit.int .u8 n).wf = true) : ∀ n ∈ x, 0 ≤ n ∧ n ≤ 255 := fun n hn => bounds_u8 (h n hn)
theorem vOf_take_bound (y : List Int) (h : ∀ n ∈ y, (Lit.int .u8 n).wf = true) (m : Nat) (hm : m ≤ 8) (hy : m ≤ y.length) : 0 ≤ vOf (y.take m) ∧ vOf (y.take m) < 256 ^ m := by
  have := vOf_bound (y.take m) (fun x hx => bts_of h x (List.mem_of_mem_take hx)) (by rw [List.length_take]; omega)
  rwa [List.length_take, Nat.min_eq_left hy] at this
abbrev TRf : Nat := 57
set_option maxHeartbeats 2000000 in
theorem Get_calls {w : World} {b g off c : Nat} {x : List Int} (hb : Blk w b [.slice (some ⟨g, off, none⟩) x.length c, .bool false] TRf) (hi : IsInts .u8 w (some ⟨g, off, none⟩) c x) (M : Int) (m : Nat) (hM : M = m) (hm1 : 0 < m) (hm : m ≤ x.length) (V : Int) (hV : vOf (x.take m) = V) :
    Calls Try.prog 23 #[.pointer (some ⟨b, 0, none⟩), .int .i64 M] w fun e w' => e = .returned (.int .u64 V) ∧ Frm (· = b) w w' := by
  subst hM
  have hle := hi.le
  have hsm := hi.small
  obtain ⟨g', off', e, hg, hc⟩ := hi.at_ (by omega)
  cases e
  have q0 := hb.cell 0
  have q1 := hb.cell 1
  have d0 := hb.free 0
  simp only [List.getElem?_cons_zero, List.getElem?_cons_succ] at q0 q1
  have m0 : (0 : Int) ≤ (m : Int) := by omega
  have m1 : (m : Int) ≤ (x.length : Int) := by omega
  have m2 : (m : Int) ≤ (c : Int) := by omega
  clear hi hb
  go_enter Try.func23, Try.ntmps23
  go_wp2
  go_loopw [5, 6] (fun n i wr => ∃ k : Nat, k ≤ m ∧ n = .int .u64 (vOf (x.take k)) ∧ i = .int .i64 k ∧ wr = w) (fun _ i _ => m - (intOf i).toNat)
  case atStart => exact ⟨0, by omega, rfl, rfl, rfl⟩
  case round =>
    obtain ⟨k, hk, rfl, rfl, rfl⟩ := hrel
    by_cases hlt : k < m
    · have u0 := hc k (by omega)
      have hv := hid (vOf_take x k (by omega))
      have hkx : (k : Int) < (x.length : Int) := by omega
      generalize x.getD k 0 = d at *
      generalize vOf (x.take k) = n at *
      have hc' := hid hc; clear hc
      go_wp2
      go_roundw
      case rel => exact ⟨k + 1, by omega, by rw [hv.out]; rfl, by go_num, by first | rfl | trivial⟩
      case measure => simp [intOf]; omega
    · obtain rfl : k = m := by omega
      rw [hV]
      by_cases hck : c = k
      · go_wp2
        go_ret
        exact ⟨rfl, (Frm.refl _ _).setCell _ _ (.inr rfl)⟩
      · go_wp2
        go_ret
        exact ⟨rfl, (Frm.refl _ _).setCell _ _ (.inr rfl)⟩
theorem IsInts.drop0 {w : World} {g off c : Nat} {x : List Int} (h : IsInts .u8 w (some ⟨g, off, none⟩) c x) (k : Nat) (hc : c = k) : IsInts .u8 w (some ⟨g, off, none⟩) (c - k) (x.drop k) := by
  have hnil : x.drop k = [] := List.drop_eq_nil_of_le (by have := h.le; omega)
  rw [hnil]
  exact ⟨Nat.zero_le _, by have := h.small; omega, fun h => absurd rfl h, fun _ h => by cases h⟩
theorem fresh0 {w w' : World} {o : Obj} (f : Frm (· = w.heap.size) (w.alloc o) w') : Frm (fun _ => False) w w' :=
  ((Frm.refl (fun _ => False) w).alloc o).trans' f (fun i hi e => absurd e (Nat.ne_of_lt hi))
theorem Left_n {w : World} {b : Nat} {x : List Int} (h : IsRd w b x) (n : Int) (hn : (x.length : Int) = n) : Calls Try.prog 18 #[.pointer (some ⟨b, 0, none⟩)] w fun e w' => e = .returned (.int .i64 n) ∧ w = w' := by
  subst hn; exact Left_calls h
end Go.Proofs.Ytifhjdjjekeegaa
