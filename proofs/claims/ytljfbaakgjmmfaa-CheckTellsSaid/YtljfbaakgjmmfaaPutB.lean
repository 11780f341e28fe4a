/- The document's Put. -/
import Derived.Test.YtljfbaakgjmmfaaWire
namespace Go.Proofs.Ytljfbaakgjmmfaa
open Go.RowKit Go.ChangeShapes
set_option linter.unusedVariables false
set_option linter.unusedSimpArgs false
set_option maxHeartbeats 2000000 in
theorem Put_calls {w : World} {A : Nat → Prop} {v : Value} {y : List Int} (h : OwnB w A v y) (hA : ∀ k, A k → k < w.heap.size) (n : Int) (h0 : 0 ≤ n) (h1 : n < 18446744073709551616) (M : Int) (m : Nat) (hM : M = m) (hm : m ≤ 8) (hl : y.length + 8 ≤ 140737488355328) :
    Calls Try.prog 32 #[v, .int .u64 n, .int .i64 M] w fun e w' => ∃ v', e = .returned v' ∧ OwnB w' A v' (y ++ be n m) ∧ Frm (fun k => ¬ A k) w w' := by
  subst hM
  go_enter Try.func32, Try.ntmps32
  go_wp2
  go_loopw [0, 7] (fun u i wr => ∃ i' : Int, -1 ≤ i' ∧ i' < m ∧ i = .int .i64 i' ∧ OwnB wr A u (y ++ (be n m).take (m - 1 - i').toNat) ∧ Frm (fun k => ¬ A k) w wr) (fun _ i _ => (intOf i + 1).toNat)
  case atStart => exact ⟨m - 1, by omega, by omega, by go_num, by rw [show ((m : Int) - 1 - (m - 1)).toNat = 0 by omega]; simpa using h, Frm.refl _ _⟩
  case round =>
    obtain ⟨i', hi0, hi1, rfl, ho, hf⟩ := hrel
    by_cases hneg : i' < 0
    · obtain rfl : i' = -1 := by omega
      rw [show ((m : Int) - 1 - -1).toNat = m by omega, List.take_of_length_le (by rw [be_len]; omega)] at ho
      go_wp2
      go_ret
      exact ⟨_, rfl, ho, hf⟩
    · obtain ⟨q, rfl⟩ : ∃ q : Nat, i' = q := ⟨i'.toNat, by omega⟩
      have HO := hid ho; clear ho
      have HF := hid hf; clear hf
      have hAw := hid (show ∀ o k, A k → k < (wr.alloc o).heap.size from fun o k hk => by have := hA k hk; have := HF.out.size; simp; omega)
      have hlw : (y ++ List.take (↑m - 1 - (q : Int)).toNat (be n m)).length + 1 ≤ 140737488355328 := by
        rw [List.length_append, List.length_take, be_len]; omega
      have hy1 := hid (one_ints wr (IntKind.u8.wrap (n / 2 ^ (8 * (q : Int)).toNat)) 5 (wfw _))
      have hwq : IntKind.i64.wrap (8 * (q : Int)) = ((8 * q : Nat) : Int) := by
        simp [IntKind.wrap, IntKind.bits, IntKind.signed]; omega
      have hq7 : (q : Int) ≤ 7 := by omega
      have hmin : min (8 * q) 64 = 8 * q := by omega
      have hlwh := hid hlw; clear hlw
      go_wp2_with (at_builtin; refine wpList_more rfl _ _ rfl rfl (HO.out.frm0 ((Frm.refl _ _).alloc _)) (hAw.out _) hy1.out rfl hlwh.out rfl rfl ?_; intro a' l' c' wq ho' hf' hat'; have HO' := hid ho'; have HF' := hid hf'; clear ho' hf' hat')
      go_roundw
      case measure => simp [intOf]
      case rel =>
        refine ⟨q - 1, by omega, by omega, by go_num, ?_, ?_⟩
        · have e1 : ((m : Int) - 1 - (q : Int)).toNat = m - 1 - q := by omega
          have e2 : ((m : Int) - 1 - ((q : Int) - 1)).toNat = m - q := by omega
          have e3 : IntKind.u8.wrap (n / 2 ^ (8 * (q : Int)).toNat) = n / 2 ^ (8 * q) % 256 := by
            rw [wrap_u8, show (8 * (q : Int)).toNat = 8 * q by omega]
          have ho := HO'.out
          rw [e1, e3] at ho
          rw [e2, be_take n m q (by omega), ← List.append_assoc]
          exact ho
        · exact HF.out.trans (((Frm.refl (fun k => ¬ A k) wr).alloc _).trans' HF'.out (fun k _ hk => HO.out.off k hk))
end Go.Proofs.Ytljfbaakgjmmfaa
