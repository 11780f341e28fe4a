/- The sum of bytes: what it comes to, in plain numbers. -/
import Derived.Test.YtgaahjilfdfphaaBitsFns
import Derived.Test.YtgaahjilfdfphaaAppend
import Derived.Laws.BitsAllLaws
namespace Go.Proofs.Ytgaahjilfdfphaa
open Go.RowKit Go.Proofs.Ytgaahjilfdfphaa.PBitsTells Go.Proofs.YtgaahjilfdfphaaW.PrintWords Go.Proofs.YtgaahjilfdfphaaW.PrintMore Go.Proofs.YtgaahjilfdfphaaW.PrintLast
def sStep (n c : Int) : Int := IntKind.u64.wrap ((Go.bits .xor .u64 n (IntKind.u64.wrap c)) * 1099511628211)
def sFrom (n : Int) (l : List Int) : Int := l.foldl sStep n
def sN (n c : Nat) : Nat := (n ^^^ c) * 1099511628211 % 18446744073709551616
theorem sStep_nat (n c : Nat) (hn : n < 18446744073709551616) (hc : c < 256) : sStep n c = (sN n c : Nat) := by
  unfold sStep sN
  rw [wraps_u64 (c : Int) (by omega) (by omega), u64_xor_nat n c hn (by omega), wrap_u64]
  omega
theorem sN_lt (n c : Nat) : sN n c < 18446744073709551616 := Nat.mod_lt _ (by decide)
theorem sN_inj (n c m d : Nat) (hn : n < 18446744073709551616) (hc : c < 256) (hm : m < 18446744073709551616) (hd : d < 256) (h : sN n c = sN m d) : n ^^^ c = m ^^^ d := by
  have key : ∀ x : Nat, x < 18446744073709551616 → (x * 1099511628211 % 18446744073709551616) * 14886173955864302971 % 18446744073709551616 = x := by
    intro x hx
    rw [Nat.mod_mul_mod, Nat.mul_assoc, show 1099511628211 * 14886173955864302971 = 18446744073709551616 * 887285111055 + 1 by decide, Nat.mul_add, Nat.mul_one, Nat.mul_left_comm, Nat.mul_add_mod, Nat.mod_eq_of_lt hx]
  have hx : n ^^^ c < 2 ^ 64 := Nat.xor_lt_two_pow hn (by omega)
  have hy : m ^^^ d < 2 ^ 64 := Nat.xor_lt_two_pow hm (by omega)
  unfold sN at h
  rw [← key _ hx, ← key _ hy, h]
theorem range_sStep (n c : Int) (hn : 0 ≤ n ∧ n < 18446744073709551616) (hc : 0 ≤ c ∧ c ≤ 255) : 0 ≤ sStep n c ∧ sStep n c < 18446744073709551616 := by
  obtain ⟨a, rfl⟩ := Int.eq_ofNat_of_zero_le hn.1
  obtain ⟨b, rfl⟩ := Int.eq_ofNat_of_zero_le hc.1
  rw [sStep_nat a b (by omega) (by omega)]
  have := sN_lt a b
  omega
theorem sStep_inj1 (n m c : Int) (hn : 0 ≤ n ∧ n < 18446744073709551616) (hm : 0 ≤ m ∧ m < 18446744073709551616) (hc : 0 ≤ c ∧ c ≤ 255) (h : sStep n c = sStep m c) : n = m := by
  obtain ⟨a, rfl⟩ := Int.eq_ofNat_of_zero_le hn.1
  obtain ⟨b, rfl⟩ := Int.eq_ofNat_of_zero_le hm.1
  obtain ⟨d, rfl⟩ := Int.eq_ofNat_of_zero_le hc.1
  rw [sStep_nat a d (by omega) (by omega), sStep_nat b d (by omega) (by omega)] at h
  have := sN_inj a d b d (by omega) (by omega) (by omega) (by omega) (by omega)
  have h2 : (a ^^^ d) ^^^ d = (b ^^^ d) ^^^ d := by rw [this]
  rw [Nat.xor_assoc, Nat.xor_assoc, Nat.xor_self, Nat.xor_zero, Nat.xor_zero] at h2
  rw [h2]
theorem sStep_inj2 (n c d : Int) (hn : 0 ≤ n ∧ n < 18446744073709551616) (hc : 0 ≤ c ∧ c ≤ 255) (hd : 0 ≤ d ∧ d ≤ 255) (h : sStep n c = sStep n d) : c = d := by
  obtain ⟨a, rfl⟩ := Int.eq_ofNat_of_zero_le hn.1
  obtain ⟨b, rfl⟩ := Int.eq_ofNat_of_zero_le hc.1
  obtain ⟨e, rfl⟩ := Int.eq_ofNat_of_zero_le hd.1
  rw [sStep_nat a b (by omega) (by omega), sStep_nat a e (by omega) (by omega)] at h
  have := sN_inj a b a e (by omega) (by omega) (by omega) (by omega) (by omega)
  have h2 : a ^^^ (a ^^^ b) = a ^^^ (a ^^^ e) := by rw [this]
  rw [← Nat.xor_assoc, ← Nat.xor_assoc, Nat.xor_self, Nat.zero_xor, Nat.zero_xor] at h2
  rw [h2]
def Bts (l : List Int) : Prop := ∀ x ∈ l, 0 ≤ x ∧ x ≤ 255
theorem range_sFrom (l : List Int) (hl : Bts l) : ∀ n : Int, 0 ≤ n ∧ n < 18446744073709551616 → 0 ≤ sFrom n l ∧ sFrom n l < 18446744073709551616 := by
  induction l with
  | nil => exact fun n h => h
  | cons c l ih => exact fun n h => ih (fun x hx => hl x (List.mem_cons_of_mem _ hx)) _ (range_sStep n c h (hl c List.mem_cons_self))
theorem sFrom_inj (l : List Int) (hl : Bts l) : ∀ n m : Int, 0 ≤ n ∧ n < 18446744073709551616 → 0 ≤ m ∧ m < 18446744073709551616 → sFrom n l = sFrom m l → n = m := by
  induction l with
  | nil => exact fun n m _ _ h => h
  | cons c l ih =>
    intro n m hn hm h
    have hc := hl c List.mem_cons_self
    exact sStep_inj1 n m c hn hm hc (ih (fun x hx => hl x (List.mem_cons_of_mem _ hx)) _ _ (range_sStep n c hn hc) (range_sStep m c hm hc) h)
theorem sFrom_set (l : List Int) (hl : Bts l) (d : Int) (hd : 0 ≤ d ∧ d ≤ 255) : ∀ (i : Nat) (n : Int), 0 ≤ n ∧ n < 18446744073709551616 → i < l.length → l.getD i 0 ≠ d → sFrom n (l.set i d) ≠ sFrom n l := by
  induction l with
  | nil => exact fun i n _ h => absurd h (by simp)
  | cons c l ih =>
    intro i n hn hi hne h
    have hc := hl c List.mem_cons_self
    have hl' : Bts l := fun x hx => hl x (List.mem_cons_of_mem _ hx)
    cases i with
    | zero => exact hne (sStep_inj2 n c d hn hc hd (sFrom_inj l hl' _ _ (range_sStep n d hn hd) (range_sStep n c hn hc) h).symm)
    | succ i => exact ih hl' i _ (range_sStep n c hn hc) (by simpa using hi) (by simpa using hne) h
theorem sFrom_cons (n c : Int) (l : List Int) : sFrom n (c :: l) = sFrom (sStep n c) l := rfl
theorem sStep_rd (l : List Int) (n : Int) (i : Nat) (hi : i < l.length) : IntKind.u64.wrap ((Go.bits .xor .u64 n (IntKind.u64.wrap (rd l (i : Int)))) * 1099511628211) = sStep n l[i] := by
  unfold sStep rd
  rw [Int.toNat_natCast, List.getD_eq_getElem?_getD, List.getElem?_eq_getElem hi]
  simp only [Option.getD_some]
theorem Sum_l0 (l : List Int) : ∀ (k : Nat) (n : Int) (i : Nat), l.length < 9223372036854775807 → l.length - i < k → bits_Sum.l0 k n l (l.length : Int) i = some (sFrom n (l.drop i)) := by
  intro k
  induction k with
  | zero => intro n i _ h; omega
  | succ k ih =>
    intro n i hl h
    rw [bits_Sum.l0]
    by_cases hi : i < l.length
    · rw [if_pos (by omega), if_pos (by omega), if_pos (by omega), show wrap64 ((i : Int) + 1) = ((i + 1 : Nat) : Int) by rw [wrap64_eq]; omega, ih _ (i + 1) hl (by omega), List.drop_eq_getElem_cons hi]
      rw [sFrom_cons, ← sStep_rd l n i hi]
    · rw [if_neg (by omega), List.drop_eq_nil_of_le (by omega)]
      rfl
theorem sum_some (l : List Int) (hl : l.length < 9223372036854775807) : bits_Sum.f (l.length + 1) l = some (sFrom 14695981039346656037 l) := by
  unfold bits_Sum.f
  exact Sum_l0 l _ _ 0 hl (by omega)
theorem refSum_l0 (l : List Int) : ∀ (k : Nat) (n : Int) (i : Nat), l.length < 9223372036854775807 → l.length - i < k → palisaderef1_Sum.l0 k l n i = some (sFrom n (l.drop i)) := by
  intro k
  induction k with
  | zero => intro n i _ h; omega
  | succ k ih =>
    intro n i hl h
    rw [palisaderef1_Sum.l0]
    by_cases hi : i < l.length
    · rw [if_pos (by omega), if_pos (by omega), show wrap64 ((i : Int) + 1) = ((i + 1 : Nat) : Int) by rw [wrap64_eq]; omega, ih _ (i + 1) hl (by omega), List.drop_eq_getElem_cons hi]
      rw [sFrom_cons, ← sStep_rd l n i hi]
    · rw [if_neg (by omega), List.drop_eq_nil_of_le (by omega)]
      rfl
theorem refSum_some (l : List Int) (hl : l.length < 9223372036854775807) : palisaderef1_Sum.f (l.length + 1) l = some (sFrom 14695981039346656037 l) := by
  unfold palisaderef1_Sum.f
  exact refSum_l0 l _ _ 0 hl (by omega)
theorem IsInts.kd {w : World} {A : Option Addr} {c : Nat} {x : List Int} (h : IsInts .u8 w A c x) : Kd.C (Kd.int .u8) w A x.length x := by
  refine Kd.C_of_reads (d := (0 : Int)) ⟨rfl, by have := h.le; have := h.small; omega, fun hn => ?_⟩
  obtain ⟨b, off, rfl, _, hc⟩ := h.at_ (by omega)
  refine ⟨_, rfl, fun j hj => ?_⟩
  rw [addr_add]
  exact hc j hj
theorem Sum_calls {w : World} {A : Option Addr} {c : Nat} {x : List Int} (h : IsInts .u8 w A c x) (n : Nat) (hn : x.length = n) (hl : n < 9223372036854775807) (S : Int) (hS : sFrom 14695981039346656037 x = S) :
    Calls Try.prog 14 #[.slice A n c] w fun e w' => e = .returned (.int .u64 S) ∧ Drawn0 w w' := by
  subst hn hS
  exact bits_Sum.calls (x.length + 1) A c x _ w h.kd h.le (sum_some x hl)
theorem RSum_calls {w : World} {A : Option Addr} {c : Nat} {x : List Int} (h : IsInts .u8 w A c x) (n : Nat) (hn : x.length = n) (hl : n < 9223372036854775807) (S : Int) (hS : sFrom 14695981039346656037 x = S) :
    Calls Try.prog 18 #[.slice A n c] w fun e w' => e = .returned (.int .u64 S) ∧ Drawn0 w w' := by
  subst hn hS
  exact palisaderef1_Sum.calls (x.length + 1) A c x _ w h.kd h.le (refSum_some x hl)
end Go.Proofs.Ytgaahjilfdfphaa
