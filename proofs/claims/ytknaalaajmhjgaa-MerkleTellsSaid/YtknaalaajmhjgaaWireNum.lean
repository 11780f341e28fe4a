/- What is read back of what is written: plain numbers. -/
import Derived.Test.YtknaalaajmhjgaaWireRb
import Derived.Test.YtknaalaajmhjgaaStr
import Derived.Laws.BitsLemmas
namespace Go.Proofs.Ytknaalaajmhjgaa
open Go.RowKit Go.ChangeShapes
set_option linter.unusedVariables false
set_option linter.unusedSimpArgs false
theorem wrap64u (n : Int) : IntKind.u64.wrap n = n % 18446744073709551616 := by simp [IntKind.wrap, IntKind.bits, IntKind.signed]
theorem wrapsu (n : Int) (h₀ : 0 ≤ n) (h₁ : n < 2 ^ 64) : IntKind.u64.wrap n = n := by rw [wrap64u]; omega
theorem vStep_eq (n c : Int) (h0 : 0 ≤ n) (h1 : n < 72057594037927936) (c0 : 0 ≤ c) (c1 : c ≤ 255) : vStep n c = n * 256 + c := by
  unfold vStep
  rw [wrapsu (n * 256) (by omega) (by omega), wrapsu c c0 (by omega)]
  exact bits_join .u64 64 (by decide) wrapsu 8 (n * 256) c (by omega) (by omega) (by omega) c0 (by omega) (by omega)
theorem vOf_be2 (n : Int) (h0 : 0 ≤ n) (h1 : n < 65536) : vOf (be n 2) = n := by
  show vStep (vStep 0 (n / 256 % 256)) (n / 1 % 256) = n
  rw [vStep_eq 0 _ (by omega) (by omega) (by omega) (by omega), vStep_eq _ _ (by omega) (by omega) (by omega) (by omega)]
  omega
theorem vOf_be4 (n : Int) (h0 : 0 ≤ n) (h1 : n < 4294967296) : vOf (be n 4) = n := by
  show vStep (vStep (vStep (vStep 0 (n / 16777216 % 256)) (n / 65536 % 256)) (n / 256 % 256)) (n / 1 % 256) = n
  obtain ⟨a, ha⟩ : ∃ a, a = vStep 0 (n / 16777216 % 256) := ⟨_, rfl⟩
  rw [← ha]
  rw [vStep_eq 0 _ (by omega) (by omega) (by omega) (by omega)] at ha
  rw [vStep_eq a _ (by omega) (by omega) (by omega) (by omega)]
  obtain ⟨c, hc⟩ : ∃ c, c = a * 256 + n / 65536 % 256 := ⟨_, rfl⟩
  rw [← hc, vStep_eq c _ (by omega) (by omega) (by omega) (by omega), vStep_eq _ _ (by omega) (by omega) (by omega) (by omega)]
  omega
theorem vOf_be1 (n : Int) (h0 : 0 ≤ n) (h1 : n < 256) : vOf (be n 1) = n := by
  show vStep 0 (n / 1 % 256) = n
  rw [vStep_eq 0 _ (by omega) (by omega) (by omega) (by omega)]
  omega
theorem below_A {w a c : World} (h : Below w.heap.size w a) (f : Frm (fun k => ¬ k < w.heap.size) a c) : Below w.heap.size w c := below_frm h f (fun k hk hn => hn hk)
theorem hA_of {w a : World} (h : Below w.heap.size w a) : ∀ k, k < w.heap.size → k < a.heap.size := fun k hk => Nat.lt_of_lt_of_le hk h.size
theorem wrap_u16 (n : Int) : IntKind.u16.wrap n = n % 65536 := by simp [IntKind.wrap, IntKind.bits, IntKind.signed]
theorem wrap_u32 (n : Int) : IntKind.u32.wrap n = n % 4294967296 := by simp [IntKind.wrap, IntKind.bits, IntKind.signed]
theorem vOf_be8 (n : Int) (h0 : 0 ≤ n) (h1 : n < 18446744073709551616) : vOf (be n 8) = n := by
  show vStep (vStep (vStep (vStep (vStep (vStep (vStep (vStep 0 (n / 72057594037927936 % 256)) (n / 281474976710656 % 256)) (n / 1099511627776 % 256)) (n / 4294967296 % 256)) (n / 16777216 % 256)) (n / 65536 % 256)) (n / 256 % 256)) (n / 1 % 256) = n
  obtain ⟨a1, h⟩ : ∃ a, a = vStep 0 (n / 72057594037927936 % 256) := ⟨_, rfl⟩
  rw [← h]; rw [vStep_eq 0 _ (by omega) (by omega) (by omega) (by omega)] at h
  obtain ⟨a2, h2⟩ : ∃ a, a = vStep a1 (n / 281474976710656 % 256) := ⟨_, rfl⟩
  rw [← h2]; rw [vStep_eq a1 _ (by omega) (by omega) (by omega) (by omega)] at h2
  obtain ⟨a3, h3⟩ : ∃ a, a = vStep a2 (n / 1099511627776 % 256) := ⟨_, rfl⟩
  rw [← h3]; rw [vStep_eq a2 _ (by omega) (by omega) (by omega) (by omega)] at h3
  obtain ⟨a4, h4⟩ : ∃ a, a = vStep a3 (n / 4294967296 % 256) := ⟨_, rfl⟩
  rw [← h4]; rw [vStep_eq a3 _ (by omega) (by omega) (by omega) (by omega)] at h4
  obtain ⟨a5, h5⟩ : ∃ a, a = vStep a4 (n / 16777216 % 256) := ⟨_, rfl⟩
  rw [← h5]; rw [vStep_eq a4 _ (by omega) (by omega) (by omega) (by omega)] at h5
  obtain ⟨a6, h6⟩ : ∃ a, a = vStep a5 (n / 65536 % 256) := ⟨_, rfl⟩
  rw [← h6]; rw [vStep_eq a5 _ (by omega) (by omega) (by omega) (by omega)] at h6
  obtain ⟨a7, h7⟩ : ∃ a, a = vStep a6 (n / 256 % 256) := ⟨_, rfl⟩
  rw [← h7]; rw [vStep_eq a6 _ (by omega) (by omega) (by omega) (by omega)] at h7
  rw [vStep_eq a7 _ (by omega) (by omega) (by omega) (by omega)]
  omega
/-- What is read of so many bytes is below this. -/
theorem vOf_bound (l : List Int) (hl : ∀ x ∈ l, 0 ≤ x ∧ x ≤ 255) (h8 : l.length ≤ 8) : 0 ≤ vOf l ∧ vOf l < 256 ^ l.length := by
  have key : ∀ (r : List Int), (∀ x ∈ r, 0 ≤ x ∧ x ≤ 255) → ∀ (n : Int) (j : Nat), 0 ≤ n → n < 256 ^ j → j + r.length ≤ 8 → 0 ≤ r.foldl vStep n ∧ r.foldl vStep n < 256 ^ (j + r.length) := by
    intro r
    induction r with
    | nil => intro _ n j h0 h1 _; exact ⟨h0, h1⟩
    | cons c r ih =>
      intro hr n j h0 h1 hj
      rw [List.length_cons] at hj
      have hc := hr c List.mem_cons_self
      have hp : (256 : Int) ^ j ≤ 256 ^ 7 := by
        have : (256 : Nat) ^ j ≤ 256 ^ 7 := Nat.pow_le_pow_right (by decide) (by omega)
        have h2 : ((256 ^ j : Nat) : Int) ≤ ((256 ^ 7 : Nat) : Int) := Int.ofNat_le.2 this
        simpa using h2
      have hp7 : (256 : Int) ^ 7 = 72057594037927936 := by decide
      have he := vStep_eq n c h0 (by omega) hc.1 hc.2
      have hs : (256 : Int) ^ (j + 1) = 256 ^ j * 256 := Int.pow_succ ..
      have := ih (fun x hx => hr x (List.mem_cons_of_mem _ hx)) (vStep n c) (j + 1) (by omega) (by omega) (by omega)
      rw [List.length_cons, show j + (r.length + 1) = j + 1 + r.length by omega]
      exact this
  have := key l hl 0 0 (by decide) (by decide) (by omega)
  rw [Nat.zero_add] at this
  exact this
theorem bts_of {x : List Int} (h : ∀ n ∈ x, (Lit.int .u8 n).wf = true) : ∀ n ∈ x, 0 ≤ n ∧ n ≤ 255 := fun n hn => bounds_u8 (h n hn)
theorem vOf_take_bound (y : List Int) (h : ∀ n ∈ y, (Lit.int .u8 n).wf = true) (m : Nat) (hm : m ≤ 8) (hy : m ≤ y.length) : 0 ≤ vOf (y.take m) ∧ vOf (y.take m) < 256 ^ m := by
  have := vOf_bound (y.take m) (fun x hx => bts_of h x (List.mem_of_mem_take hx)) (by rw [List.length_take]; omega)
  rwa [List.length_take, Nat.min_eq_left hy] at this
end Go.Proofs.Ytknaalaajmhjgaa
