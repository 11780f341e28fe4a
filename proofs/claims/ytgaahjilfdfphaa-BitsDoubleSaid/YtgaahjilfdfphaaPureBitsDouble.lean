/- Timeouts double up to the cap: the law's plain statement. -/
import Derived.Test.YtgaahjilfdfphaaPBitsDoublex1
import Derived.Test.YtgaahjilfdfphaaBitsMath
import Derived.OpenShut
namespace Go.Proofs.Ytgaahjilfdfphaa.Pure
open Go.RowKit Go.ChangeShapes Go.Proofs.Ytgaahjilfdfphaa.PBitsDouble Go.Proofs.YtgaahjilfdfphaaW.PrintWords Go.Proofs.YtgaahjilfdfphaaW.PrintLast Go.Proofs.YtgaahjilfdfphaaW.PrintMore

theorem known_true (k : Nat) : palisadelaw1_known.f (k + 1) = some true := by
  have h : palisadelaw1_known.f 1 = some true := by decide +kernel
  induction k with
  | zero => exact h
  | succ k ih => exact palisadelaw1_known.mono (k + 1) _ ih
theorem double_some (t n : Int) (h0 : 0 ≤ t) (h1 : t ≤ 4294967295) : bits_Double.f t n = some (min (t * 2 ^ (min (max n 0) 6).toNat) 2147483648) := by
  unfold bits_Double.f
  have e1 : mn (mx n 0) 6 = min (max n 0) 6 := by unfold mx mn; omega
  rw [e1, wrap_u64, wrap_u64]
  have hk : (min (max n 0) 6).toNat ≤ 6 := by omega
  generalize (min (max n 0) 6).toNat = k at *
  have hk' : k = 0 ∨ k = 1 ∨ k = 2 ∨ k = 3 ∨ k = 4 ∨ k = 5 ∨ k = 6 := by omega
  unfold mn
  rcases hk' with rfl | rfl | rfl | rfl | rfl | rfl | rfl <;> (congr 1; split <;> omega)
theorem BitsDouble : palisadelaw1_BitsDouble.Pure := by
  intro t k w0 w1
  have h0 := bounds_u32 w0
  have h1 := bounds_u8 w1
  clear w0 w1
  refine ⟨10, ?_⟩
  have hw : wrap64 k = k := by rw [wrap64_eq]; omega
  have hwn : wrap64 (-k) = -k := by rw [wrap64_eq]; omega
  have hj : ∀ m x5, x5 = min (t * 2 ^ (min (max k 0) 6).toNat) 2147483648 ∨ (x5 > 2147483648 ∧ 2147483648 = min (t * 2 ^ (min (max k 0) 6).toNat) 2147483648) → palisadelaw1_BitsDouble.j1 (m + 1) t k x5 = some true := by
    intro m x5 h
    simp only [palisadelaw1_BitsDouble.j1, hw, hwn]
    rw [double_some t k h0.1 h0.2, double_some t (-k) h0.1 h0.2, double_some t 0 h0.1 h0.2]
    simp only [Option.bind_some]
    have e : (min (max (-k) 0) 6).toNat = 0 := by omega
    have e0 : (min (max (0 : Int) 0) 6).toNat = 0 := by omega
    rw [e, e0]
    have hb : 0 ≤ min (t * 2 ^ (min (max k 0) 6).toNat) 2147483648 := by
      have : 0 ≤ t * 2 ^ (min (max k 0) 6).toNat := Int.mul_nonneg h0.1 (Int.le_of_lt (Int.pow_pos (by decide)))
      omega
    rw [wrap_u64, show min (t * 2 ^ (min (max k 0) 6).toNat) 2147483648 % 18446744073709551616 = min (t * 2 ^ (min (max k 0) 6).toNat) 2147483648 by omega]
    rcases h with h | ⟨h, h'⟩
    · rw [if_neg (by omega), if_pos h.symm]; simp
    · rw [if_pos h, if_pos h'.symm]; simp
  unfold palisadelaw1_BitsDouble.f
  rw [known_true, Option.bind_some, if_pos rfl, wrap_u64, show t % 18446744073709551616 = t by omega]
  have hl : ∀ d m (i : Nat), d + i = 6 → m = d + 2 → (i : Int) ≤ k ∨ i = 0 → palisadelaw1_BitsDouble.l0 m t k (t * 2 ^ i) i = some true := by
    intro d
    induction d with
    | zero =>
      intro m i hi hm hik
      subst hm
      obtain rfl : i = 6 := by omega
      simp only [palisadelaw1_BitsDouble.l0, hw]
      have hf : palisadelaw1_BitsDouble.j1 1 t k (t * 2 ^ 6) = some true := hj 0 _ (by
        have : (min (max k 0) 6).toNat = 6 := by omega
        rw [this]; omega)
      split
      · rw [if_neg (by decide)]; exact hf
      · exact hf
    | succ d ih =>
      intro m i hi hm hik
      subst hm
      rw [show d + 1 + 2 = (d + 2) + 1 from by omega, palisadelaw1_BitsDouble.l0, hw]
      by_cases hlt : (i : Int) < k
      · rw [if_pos hlt, if_pos (by omega)]
        have hi6 : i = 0 ∨ i = 1 ∨ i = 2 ∨ i = 3 ∨ i = 4 ∨ i = 5 := by omega
        have e1 : IntKind.u64.wrap (t * 2 ^ i + t * 2 ^ i) = t * 2 ^ (i + 1) := by
          rw [wrap_u64]
          rcases hi6 with rfl | rfl | rfl | rfl | rfl | rfl <;> omega
        have e2 : wrap64 ((i : Int) + 1) = ((i + 1 : Nat) : Int) := by rw [wrap64_eq]; omega
        rw [e1, e2]
        exact ih (d + 2) (i + 1) (by omega) rfl (.inl (by omega))
      · rw [if_neg hlt]
        refine hj (d + 1) _ ?_
        have : (min (max k 0) 6).toNat = i := by omega
        rw [this]
        omega
  have := hl 6 8 0 rfl rfl (.inr rfl)
  rw [Int.pow_zero, Int.mul_one] at this
  exact (palisadelaw1_BitsDouble.mono_l 9).2 t k t 0 true ((palisadelaw1_BitsDouble.mono_l 8).2 t k t 0 true this)
end Go.Proofs.Ytgaahjilfdfphaa.Pure
