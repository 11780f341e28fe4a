/- Plain laws on turning, narrowing and packing: numbers alone. -/
import Derived.Test.YtgaahjilfdfphaaWMore
import Derived.WalkKit
namespace Go.Proofs.Ytgaahjilfdfphaa
open Go.RowKit Go.Proofs.YtgaahjilfdfphaaW.PrintWords Go.Proofs.YtgaahjilfdfphaaW.PrintMore
theorem wrap_u64 (n : Int) : IntKind.u64.wrap n = n % 18446744073709551616 := by simp [IntKind.wrap, IntKind.bits, IntKind.signed]
theorem wraps_u64 (n : Int) (h₀ : 0 ≤ n) (h₁ : n < 2 ^ 64) : IntKind.u64.wrap n = n := by rw [wrap_u64]; omega
theorem or_add (i : Nat) (x y : Int) (hx₀ : 0 ≤ x) (hx : x % 2 ^ i = 0) (hx₁ : x < 2 ^ 64) (hy₀ : 0 ≤ y) (hy : y < 2 ^ i) (hy₁ : y < 2 ^ 64) : Go.bits .or .u64 x y = x + y :=
  bits_join .u64 64 (by decide) wraps_u64 i x y hx₀ hx hx₁ hy₀ hy hy₁

/-- Turning left in naturals: modulo 2^64 - 1. -/
def M : Nat := 18446744073709551615
def R (x k : Nat) : Nat := if x = M then M else x * 2 ^ k % M

theorem rot_nat (x k : Nat) (hk : k ≤ 64) (hx : x < 2 ^ 64) : x * 2 ^ k % 2 ^ 64 + x / 2 ^ (64 - k) = R x k := by
  have hP : 0 < 2 ^ k := Nat.two_pow_pos k
  have hR : 0 < 2 ^ (64 - k) := Nat.two_pow_pos _
  have hPR : 2 ^ k * 2 ^ (64 - k) = 18446744073709551616 := by rw [← Nat.pow_add, Nat.add_sub_cancel' hk]
  have e64 : (2 : Nat) ^ 64 = 18446744073709551616 := by decide
  rw [e64] at *
  unfold R M
  generalize 2 ^ k = P at *
  generalize 2 ^ (64 - k) = Q at *
  have hx' := Nat.div_add_mod x Q
  have hlo : x % Q < Q := Nat.mod_lt _ hR
  generalize hhi : x / Q = hi at *
  generalize hlo' : x % Q = lo at *
  have e1 : x * P = 18446744073709551616 * hi + P * lo := by rw [← hx', ← hPR, Nat.add_mul, Nat.mul_comm (Q * hi) P, ← Nat.mul_assoc, Nat.mul_comm lo P]
  have hPlo : P * lo + P ≤ 18446744073709551616 := by rw [← hPR, ← Nat.mul_succ]; exact Nat.mul_le_mul_left _ hlo
  have hhiP : hi < P := by
    rw [← hhi, Nat.div_lt_iff_lt_mul hR, hPR]; exact hx
  have e2 : x * P % 18446744073709551616 = P * lo := by rw [e1, Nat.mul_add_mod]; exact Nat.mod_eq_of_lt (by omega)
  rw [e2]
  by_cases hM : x = 18446744073709551615
  · rw [if_pos hM]
    -- then lo = Q - 1 and hi = P - 1
    have h1 : P * lo + P = 18446744073709551616 := by
      rcases Nat.lt_or_ge (P * lo + P) 18446744073709551616 with h | h
      · exfalso
        have h2 : P * lo + P ≤ P * Q - P := by
          have : lo + 1 < Q := by
            rcases Nat.lt_or_ge (lo + 1) Q with h3 | h3
            · exact h3
            · exfalso
              have : P * Q ≤ P * (lo + 1) := Nat.mul_le_mul_left _ h3
              rw [Nat.mul_succ] at this; omega
          have h4 : P * (lo + 1 + 1) ≤ P * Q := Nat.mul_le_mul_left _ this
          rw [Nat.mul_succ, Nat.mul_succ] at h4; omega
        have h5 : Q * hi + Q ≤ 18446744073709551616 := by rw [← hPR, Nat.mul_comm P Q, ← Nat.mul_succ]; exact Nat.mul_le_mul_left _ hhiP
        have h6 : lo + 1 = Q := by omega
        rw [← h6] at hPR
        rw [Nat.mul_succ] at hPR
        omega
      · omega
    have h7 : hi + 1 = P := by
      have h6 : lo + 1 = Q := by
        have : P * (lo + 1) = P * Q := by rw [Nat.mul_succ, hPR]; exact h1
        exact Nat.eq_of_mul_eq_mul_left hP this
      rcases Nat.lt_or_ge (hi + 1) P with h | h
      · exfalso
        have h4 : Q * (hi + 1 + 1) ≤ Q * P := Nat.mul_le_mul_left _ h
        rw [Nat.mul_comm Q P, hPR, Nat.mul_succ, Nat.mul_succ] at h4
        omega
      · omega
    omega
  · rw [if_neg hM]
    have hs : P * lo + hi ≤ 18446744073709551615 := by omega
    have hne : P * lo + hi ≠ 18446744073709551615 := by
      intro he
      have h7 : hi + 1 = P := by omega
      have h1 : P * lo + P = 18446744073709551616 := by omega
      have h6 : lo + 1 = Q := by
        have : P * (lo + 1) = P * Q := by rw [Nat.mul_succ, hPR]; exact h1
        exact Nat.eq_of_mul_eq_mul_left hP this
      have : Q * hi + Q = 18446744073709551616 := by rw [← Nat.mul_succ, Nat.succ_eq_add_one, h7, Nat.mul_comm, hPR]
      omega
    rw [e1, show 18446744073709551616 * hi + P * lo = P * lo + hi + 18446744073709551615 * hi by omega, Nat.add_mul_mod_self_left]
    exact (Nat.mod_eq_of_lt (by omega)).symm

theorem R_lt (x k : Nat) : R x k < 2 ^ 64 := by
  unfold R M
  split
  · decide
  · have : x * 2 ^ k % 18446744073709551615 < 18446744073709551615 := Nat.mod_lt _ (by decide)
    omega
theorem R_zero (x : Nat) (hx : x < 2 ^ 64) : R x 0 = x := by
  unfold R M
  split
  · omega
  · rw [Nat.pow_zero, Nat.mul_one]; exact Nat.mod_eq_of_lt (by omega)
theorem R_64 (x k : Nat) : R x (k + 64) = R x k := by
  unfold R
  split
  · rfl
  · rw [Nat.pow_add, ← Nat.mul_assoc, Nat.mul_mod, show 2 ^ 64 % M = 1 by decide, Nat.mul_one, Nat.mod_mod]
theorem R_R (x a b : Nat) : R (R x a) b = R x (a + b) := by
  by_cases h : x = M
  · subst h; simp [R]
  · have h1 : R x a = x * 2 ^ a % M := by unfold R; rw [if_neg h]
    have h2 : R x a ≠ M := by rw [h1]; exact Nat.ne_of_lt (Nat.mod_lt _ (by decide))
    have h3 : R (R x a) b = R x a * 2 ^ b % M := by rw [R, if_neg h2]
    rw [h3, h1]
    unfold R; rw [if_neg h, Nat.pow_add, ← Nat.mul_assoc, Nat.mod_mul_mod]

theorem tmod_pos (a b : Int) (h : 0 ≤ a) : Int.tmod a b = a % b := Int.tmod_eq_emod_of_nonneg h
theorem wrap64_eq (n : Int) : wrap64 n = (n + 9223372036854775808) % 18446744073709551616 - 9223372036854775808 := by unfold wrap64; rfl
theorem rot_int (x : Int) (k : Nat) (hk : k < 64) (h0 : 0 ≤ x) (h1 : x < 18446744073709551616) :
    Go.bits .or .u64 (shl .u64 x k) (shr .u64 x (64 - k)) = (R x.toNat k : Nat) := by
  obtain ⟨n, rfl⟩ := Int.eq_ofNat_of_zero_le h0
  have hn : n < 2 ^ 64 := by omega
  have e1 : shl .u64 (n : Int) k = ((n * 2 ^ k % 2 ^ 64 : Nat) : Int) := by
    unfold shl
    rw [Int.toNat_natCast, Nat.min_eq_left (by simp [IntKind.bits]; omega), wrap_u64, Int.natCast_emod, Int.natCast_mul, Int.natCast_pow]
    rfl
  have e2 : shr .u64 (n : Int) (64 - k) = ((n / 2 ^ (64 - k) : Nat) : Int) := by
    unfold shr
    rw [show ((64 : Int) - k).toNat = 64 - k by omega, Nat.min_eq_left (by simp only [IntKind.bits]; omega), Int.natCast_ediv, Int.natCast_pow]
    rfl
  have hP : 0 < 2 ^ k := Nat.two_pow_pos k
  have hPR : 2 ^ k * 2 ^ (64 - k) = 2 ^ 64 := by rw [← Nat.pow_add]; congr 1; omega
  have hhi : n / 2 ^ (64 - k) < 2 ^ k := by rw [Nat.div_lt_iff_lt_mul (Nat.two_pow_pos _), hPR]; exact hn
  have hdv : n * 2 ^ k % 2 ^ 64 % 2 ^ k = 0 := by
    rw [← hPR, Nat.mod_mul_right_mod, Nat.mul_mod_left]
  have hle : 2 ^ k ≤ 2 ^ 64 := Nat.pow_le_pow_right (by decide) (by omega)
  have hlt : n * 2 ^ k % 2 ^ 64 < 2 ^ 64 := Nat.mod_lt _ (by decide)
  rw [e1, e2, or_add k _ _ (Int.natCast_nonneg _) (by exact_mod_cast hdv) (by exact_mod_cast hlt) (Int.natCast_nonneg _) (by exact_mod_cast hhi) (by exact_mod_cast (Nat.lt_of_lt_of_le hhi hle))]
  rw [Int.toNat_natCast, ← rot_nat n k (by omega) hn]
  exact (Int.natCast_add _ _).symm
/-- How far a number turns. -/
def turn (n : Int) : Nat := (n % 64).toNat
theorem turn_lt (n : Int) : turn n < 64 := by unfold turn; omega
theorem turn_neg (n : Int) : turn n + turn (-n) = 0 ∨ turn n + turn (-n) = 64 := by unfold turn; omega
theorem turn_64 (n : Int) : turn (n + 64) = turn n := by unfold turn; omega
theorem turn_7 (n : Int) : turn n + 7 = turn (n + 7) ∨ turn n + 7 = turn (n + 7) + 64 := by unfold turn; omega
theorem RI_bound (x : Int) (k : Nat) : (0 : Int) ≤ (R x.toNat k : Nat) ∧ ((R x.toNat k : Nat) : Int) < 18446744073709551616 := by
  have := R_lt x.toNat k
  omega
/-- Narrowing is going round. -/
theorem narrow_int (z : Int) (n : Nat) (h1 : 1 ≤ n) (h2 : n ≤ 64) : wrap64 (z * 2 ^ (64 - n)) / 2 ^ (64 - n) = (z + 2 ^ (n - 1)) % 2 ^ n - 2 ^ (n - 1) := by
  have hS : (0 : Int) < 2 ^ (64 - n) := Int.pow_pos (by decide)
  have hN : (2 : Int) ^ n = 2 * 2 ^ (n - 1) := by rw [← Int.pow_succ']; congr 1; omega
  have hSN : (2 : Int) ^ (64 - n) * 2 ^ n = 18446744073709551616 := by rw [← Int.pow_add, Nat.sub_add_cancel h2]; rfl
  have hSH : (2 : Int) ^ (64 - n) * 2 ^ (n - 1) = 9223372036854775808 := by rw [← Int.pow_add, show 64 - n + (n - 1) = 63 by omega]; rfl
  rw [wrap64_eq, hN]
  rw [hN] at hSN
  generalize (2 : Int) ^ (64 - n) = S at *
  generalize (2 : Int) ^ (n - 1) = H at *
  rw [← hSN, ← hSH, show z * S + S * H = S * (z + H) by rw [Int.mul_add, Int.mul_comm z S], Int.mul_emod_mul_of_pos _ _ hS, ← Int.mul_sub, Int.mul_ediv_cancel_left _ (by omega)]
theorem shift_zero (x y P : Int) (h : (x - y) * P % 18446744073709551616 = 0) : IntKind.u64.wrap (IntKind.u64.wrap (IntKind.u64.wrap x - IntKind.u64.wrap y) * P) = 0 := by
  simp only [wrap_u64]
  rw [← Int.sub_emod, Int.mul_emod, Int.emod_emod_of_dvd _ (Int.dvd_refl _), ← Int.mul_emod]
  exact h
end Go.Proofs.Ytgaahjilfdfphaa
