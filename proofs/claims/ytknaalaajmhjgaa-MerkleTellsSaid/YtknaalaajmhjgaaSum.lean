/- The sum of bytes: plain numbers, and the two functions that tell it. -/
import Derived.Test.YtknaalaajmhjgaaWireNum
import Derived.Laws.BitsAllLaws
namespace Go.Proofs.Ytknaalaajmhjgaa
open Go.RowKit Go.ChangeShapes
set_option linter.unusedVariables false
set_option linter.unusedSimpArgs false
def sStep (n c : Int) : Int := IntKind.u64.wrap ((Go.bits .xor .u64 n (IntKind.u64.wrap c)) * 1099511628211)
def sFrom (n : Int) (l : List Int) : Int := l.foldl sStep n
def sN (n c : Nat) : Nat := (n ^^^ c) * 1099511628211 % 18446744073709551616
theorem sStep_nat (n c : Nat) (hn : n < 18446744073709551616) (hc : c < 256) : sStep n c = (sN n c : Nat) := by
  unfold sStep sN
  rw [wrapsu (c : Int) (by omega) (by omega), u64_xor_nat n c hn (by omega), wrap64u]
  omega
theorem sN_lt (n c : Nat) : sN n c < 18446744073709551616 := Nat.mod_lt _ (by decide)
theorem sN_inj (n c m d : Nat) (hn : n < 18446744073709551616) (hc : c < 256) (hm : m < 18446744073709551616) (hd : d < 256) (h : sN n c = sN m d) : n ^^^ c = m ^^^ d := by
  have key : ∀ x : Nat, x < 18446744073709551616 → (x * 1099511628211 % 18446744073709551616) * 14886173955864302971 % 18446744073709551616 = x := by
    intro x hx
    rw [Nat.mod_mul_mod, Nat.mul_assoc, show 1099511628211 * 14886173955864302971 = 18446744073709551616 * 887285111055 + 1 by decide, Nat.mul_add, Nat.mul_one, Nat.mul_left_comm, Nat.mul_add_mod, Nat.mod_eq_of_lt hx]
  have hx : n ^^^ c < 2 ^ 64 := Nat.xor_lt_two_pow hn (by omega)
  have hy : m ^^^ d < 2 ^ 64 := Nat.xor_lt_two_pow hm (by omega)
  unfold sN at h
  rw [← key _ hx, ← key _ hy, h]
theorem range_sStep (n c : Int) (hn : 0 ≤ n ∧ n < 18446744073709551616) (hc : 0 ≤ c ∧ c ≤ 255) : 0 ≤ sStep n c ∧ sStep n c < 18446744073709551616 := by
  obtain ⟨a, rfl⟩ := Int.eq_ofNat_of_zero_le hn.1
  obtain ⟨b, rfl⟩ := Int.eq_ofNat_of_zero_le hc.1
  rw [sStep_nat a b (by omega) (by omega)]
  have := sN_lt a b
  omega
theorem sStep_inj1 (n m c : Int) (hn : 0 ≤ n ∧ n < 18446744073709551616) (hm : 0 ≤ m ∧ m < 18446744073709551616) (hc : 0 ≤ c ∧ c ≤ 255) (h : sStep n c = sStep m c) : n = m := by
  obtain ⟨a, rfl⟩ := Int.eq_ofNat_of_zero_le hn.1
  obtain ⟨b, rfl⟩ := Int.eq_ofNat_of_zero_le hm.1
  obtain ⟨d, rfl⟩ := Int.eq_ofNat_of_zero_le hc.1
  rw [sStep_nat a d (by omega) (by omega), sStep_nat b d (by omega) (by omega)] at h
  have := sN_inj a d b d (by omega) (by omega) (by omega) (by omega) (by omega)
  have h2 : (a ^^^ d) ^^^ d = (b ^^^ d) ^^^ d := by rw [this]
  rw [Nat.xor_assoc, Nat.xor_assoc, Nat.xor_self, Nat.xor_zero, Nat.xor_zero] at h2
  rw [h2]
theorem sStep_inj2 (n c d : Int) (hn : 0 ≤ n ∧ n < 18446744073709551616) (hc : 0 ≤ c ∧ c ≤ 255) (hd : 0 ≤ d ∧ d ≤ 255) (h : sStep n c = sStep n d) : c = d := by
  obtain ⟨a, rfl⟩ := Int.eq_ofNat_of_zero_le hn.1
  obtain ⟨b, rfl⟩ := Int.eq_ofNat_of_zero_le hc.1
  obtain ⟨e, rfl⟩ := Int.eq_ofNat_of_zero_le hd.1
  rw [sStep_nat a b (by omega) (by omega), sStep_nat a e (by omega) (by omega)] at h
  have := sN_inj a b a e (by omega) (by omega) (by omega) (by omega) (by omega)
  have h2 : a ^^^ (a ^^^ b) = a ^^^ (a ^^^ e) := by rw [this]
  rw [← Nat.xor_assoc, ← Nat.xor_assoc, Nat.xor_self, Nat.zero_xor, Nat.zero_xor] at h2
  rw [h2]
def Bts (l : List Int) : Prop := ∀ x ∈ l, 0 ≤ x ∧ x ≤ 255
theorem range_sFrom (l : List Int) (hl : Bts l) : ∀ n : Int, 0 ≤ n ∧ n < 18446744073709551616 → 0 ≤ sFrom n l ∧ sFrom n l < 18446744073709551616 := by
  induction l with
  | nil => exact fun n h => h
  | cons c l ih => exact fun n h => ih (fun x hx => hl x (List.mem_cons_of_mem _ hx)) _ (range_sStep n c h (hl c List.mem_cons_self))
theorem sFrom_inj (l : List Int) (hl : Bts l) : ∀ n m : Int, 0 ≤ n ∧ n < 18446744073709551616 → 0 ≤ m ∧ m < 18446744073709551616 → sFrom n l = sFrom m l → n = m := by
  induction l with
  | nil => exact fun n m _ _ h => h
  | cons c l ih =>
    intro n m hn hm h
    have hc := hl c List.mem_cons_self
    exact sStep_inj1 n m c hn hm hc (ih (fun x hx => hl x (List.mem_cons_of_mem _ hx)) _ _ (range_sStep n c hn hc) (range_sStep m c hm hc) h)
theorem sFrom_set (l : List Int) (hl : Bts l) (d : Int) (hd : 0 ≤ d ∧ d ≤ 255) : ∀ (i : Nat) (n : Int), 0 ≤ n ∧ n < 18446744073709551616 → i < l.length → l.getD i 0 ≠ d → sFrom n (l.set i d) ≠ sFrom n l := by
  induction l with
  | nil => exact fun i n _ h => absurd h (by simp)
  | cons c l ih =>
    intro i n hn hi hne h
    have hc := hl c List.mem_cons_self
    have hl' : Bts l := fun x hx => hl x (List.mem_cons_of_mem _ hx)
    cases i with
    | zero => exact hne (sStep_inj2 n c d hn hc hd (sFrom_inj l hl' _ _ (range_sStep n d hn hd) (range_sStep n c hn hc) h).symm)
    | succ i => exact ih hl' i _ (range_sStep n c hn hc) (by simpa using hi) (by simpa using hne) h
theorem sFrom_take (l : List Int) (n : Int) (k : Nat) (hk : k < l.length) : sFrom n (l.take (k + 1)) = IntKind.u64.wrap ((Go.bits .xor .u64 (sFrom n (l.take k)) (IntKind.u64.wrap (l.getD k 0))) * 1099511628211) := by
  rw [List.take_add_one, List.getElem?_eq_getElem hk, List.getD_eq_getElem?_getD, List.getElem?_eq_getElem hk]
  show sFrom n (l.take k ++ [l[k]]) = _
  unfold sFrom
  rw [List.foldl_append]
  rfl
set_option maxHeartbeats 2000000 in
theorem Sum_calls {w : World} {A : Option Addr} {c : Nat} {x : List Int} (h : IsInts .u8 w A c x) (n : Nat) (hn : x.length = n) (S : Int) (hS : sFrom 14695981039346656037 x = S) :
    Calls Try.prog 36 #[.slice A n c] w fun e w' => e = .returned (.int .u64 S) ∧ w = w' := by
  subst hn
  have hS' := hid hS; clear hS
  have hle := h.le
  have hsm := h.small
  go_enter Try.func36, Try.ntmps36
  go_wp2
  go_loopw [3, 8] (fun v i wr => ∃ k : Nat, k ≤ x.length ∧ v = .int .u64 (sFrom 14695981039346656037 (x.take k)) ∧ i = .int .i64 k ∧ wr = w) (fun _ i _ => x.length - (intOf i).toNat)
  case atStart => exact ⟨0, by omega, rfl, rfl, rfl⟩
  case round =>
    obtain ⟨k, hk, rfl, rfl, rfl⟩ := hrel
    by_cases hlt : k < x.length
    · obtain ⟨g, off, rfl, hg, hc⟩ := h.at_ (by omega)
      have u0 := hc k hlt
      have hv := hid (sFrom_take x 14695981039346656037 k hlt)
      have hkx : (k : Int) < (x.length : Int) := by omega
      generalize x.getD k 0 = d at *
      generalize sFrom 14695981039346656037 (x.take k) = v at *
      have hc' := hid hc; clear hc h
      go_wp2
      go_roundw
      case rel => exact ⟨k + 1, by omega, by rw [hv.out], by go_num, by first | rfl | trivial⟩
      case measure => simp [intOf]; omega
    · obtain rfl : k = x.length := by omega
      rw [List.take_length, hS'.out]
      go_wp2
      go_ret
      exact ⟨rfl, by first | rfl | trivial⟩
set_option maxHeartbeats 2000000 in
theorem RSum_calls {w : World} {A : Option Addr} {c : Nat} {x : List Int} (h : IsInts .u8 w A c x) (n : Nat) (hn : x.length = n) (S : Int) (hS : sFrom 14695981039346656037 x = S) :
    Calls Try.prog 14 #[.slice A n c] w fun e w' => e = .returned (.int .u64 S) ∧ w = w' := by
  subst hn
  have hS' := hid hS; clear hS
  have hle := h.le
  have hsm := h.small
  go_enter Try.func14, Try.ntmps14
  go_wp2
  go_loopw [3, 4] (fun v i wr => ∃ k : Nat, k ≤ x.length ∧ v = .int .u64 (sFrom 14695981039346656037 (x.take k)) ∧ i = .int .i64 k ∧ wr = w) (fun _ i _ => x.length - (intOf i).toNat)
  case atStart => exact ⟨0, by omega, rfl, rfl, rfl⟩
  case round =>
    obtain ⟨k, hk, rfl, rfl, rfl⟩ := hrel
    by_cases hlt : k < x.length
    · obtain ⟨g, off, rfl, hg, hc⟩ := h.at_ (by omega)
      have u0 := hc k hlt
      have hv := hid (sFrom_take x 14695981039346656037 k hlt)
      have hkx : (k : Int) < (x.length : Int) := by omega
      generalize x.getD k 0 = d at *
      generalize sFrom 14695981039346656037 (x.take k) = v at *
      have hc' := hid hc; clear hc h
      go_wp2
      go_roundw
      case rel => exact ⟨k + 1, by omega, by rw [hv.out], by go_num, by first | rfl | trivial⟩
      case measure => simp [intOf]; omega
    · obtain rfl : k = x.length := by omega
      rw [List.take_length, hS'.out]
      go_wp2
      go_ret
      exact ⟨rfl, by first | rfl | trivial⟩
end Go.Proofs.Ytknaalaajmhjgaa
