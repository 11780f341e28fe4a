/- The wire's writer: its object; number. -/
import Derived.Test.YtljfbaakgjmmfaaOwn
import Derived.Deep.RegionLaw
import Derived.Deep.RegionHeld3
namespace Go.Proofs.Ytljfbaakgjmmfaa
open Go.RowKit Go.ChangeShapes
set_option linter.unusedVariables false
set_option linter.unusedSimpArgs false
abbrev TWr : Nat := 101
/-- The writer at b; the blocks of A are others'. -/
structure IsWr (w : World) (b : Nat) (A : Nat → Prop) (x : List Int) : Prop where
  blk : ∃ v, Blk w b [v] TWr ∧ OwnB w A v x ∧ v.ownBlock ≠ some b
  nA : ¬ A b
def be (n : Int) (m : Nat) : List Int := (List.range m).map fun j => n / 2 ^ (8 * (m - 1 - j)) % 256
theorem be_len (n : Int) (m : Nat) : (be n m).length = m := by simp [be]
theorem be_take (n : Int) (m q : Nat) (h : q < m) : (be n m).take (m - q) = (be n m).take (m - 1 - q) ++ [n / 2 ^ (8 * q) % 256] := by
  rw [show m - q = (m - 1 - q) + 1 by omega, List.take_add_one, List.getElem?_eq_getElem (by rw [be_len]; omega)]
  simp only [be, List.getElem_map, List.getElem_range, Option.toList_some]
  rw [show m - 1 - (m - 1 - q) = q by omega]
theorem wf8 (n : Int) : (Lit.int .u8 (n % 256)).wf = true := by
  simp [Lit.wf, IntKind.min, IntKind.max, IntKind.bits, IntKind.signed]; omega
theorem wrap_u8 (n : Int) : IntKind.u8.wrap n = n % 256 := by simp [IntKind.wrap, IntKind.bits, IntKind.signed]
theorem wfw (n : Int) : (Lit.int .u8 (IntKind.u8.wrap n)).wf = true := by rw [wrap_u8]; exact wf8 n
set_option maxHeartbeats 2000000 in
theorem Wnum {w : World} {b : Nat} {A : Nat → Prop} {x : List Int} (h : IsWr w b A x) (hA : ∀ k, A k → k < w.heap.size) (n : Int) (h0 : 0 ≤ n) (h1 : n < 18446744073709551616) (m : Nat) (hm : m ≤ 8) (hl : x.length + 8 ≤ 140737488355328) :
    Calls Try.prog 42 #[.pointer (some ⟨b, 0, none⟩), .int .u64 n, .int .i64 m] w fun e w' => e = .returned (.tuple #[]) ∧ IsWr w' b A (x ++ be n m) ∧ Frm (fun k => ¬ A k) w w' := by
  go_enter Try.func42, Try.ntmps42
  go_wp2
  go_loopw [6] (fun i wr => ∃ i' : Int, -1 ≤ i' ∧ i' < m ∧ i = .int .i64 i' ∧ IsWr wr b A (x ++ (be n m).take (m - 1 - i').toNat) ∧ Frm (fun k => ¬ A k) w wr) (fun i _ => (intOf i + 1).toNat)
  case atStart => exact ⟨m - 1, by omega, by omega, by go_num, by rw [show ((m : Int) - 1 - (m - 1)).toNat = 0 by omega]; simpa using h, Frm.refl _ _⟩
  case round =>
    obtain ⟨i', hi0, hi1, rfl, hw, hf⟩ := hrel
    by_cases hneg : i' < 0
    · obtain rfl : i' = -1 := by omega
      rw [show ((m : Int) - 1 - -1).toNat = m by omega, List.take_of_length_le (by rw [be_len]; omega)] at hw
      go_wp2
      go_end0
      exact ⟨rfl, hw, hf⟩
    · obtain ⟨q, rfl⟩ : ∃ q : Nat, i' = q := ⟨i'.toNat, by omega⟩
      obtain ⟨v, hb, ho, hne⟩ := hw.blk
      have hnA := hid hw.nA
      have q0 := hb.cell 0
      simp only [List.getElem?_cons_zero] at q0
      have q1 : ∀ o, (wr.alloc o).cell? ⟨b, 0, none⟩ = some v := fun o => (hb.alloc o).cell 0
      have HB := hid hb; clear hb
      have HO := hid ho; clear ho
      have HF := hid hf; clear hf
      clear hw
      have hwq : IntKind.i64.wrap (8 * (q : Int)) = ((8 * q : Nat) : Int) := by
        simp [IntKind.wrap, IntKind.bits, IntKind.signed]; omega
      have hq0 : (0 : Int) ≤ ((8 * q : Nat) : Int) := by omega
      have hAw := hid (show ∀ o k, A k → k < (wr.drew.alloc o).heap.size from fun o k hk => by have := hA k hk; have := HF.out.size; simp; omega)
      have hlw : (x ++ List.take (↑m - 1 - (q : Int)).toNat (be n m)).length + 1 ≤ 140737488355328 := by
        rw [List.length_append, List.length_take, be_len]; omega
      have hy1 := hid (one_ints wr.drew (IntKind.u8.wrap (n / 2 ^ (8 * (q : Int)).toNat)) 5 (wfw _))
      have hmin : min (8 * q) 64 = 8 * q := by omega
      go_wp2_with (fail)
      go_region_law (refine step_more rfl _ _ rfl rfl (HO.out.frm0 ((Frm.refl _ _).drew.alloc _)) (hAw.out _) hy1.out rfl hlw rfl rfl ?_; intro a' l' c' wq ho' hf' hat'; have hB' := hid ((HB.out.drew.alloc _).frm hf' hne); have u0 := hB'.out.cell 0; have u1 := hB'.out.free 0; (simp only [List.getElem?_cons_zero] at u0); have HO' := hid ho'; have HF' := hid hf'; have HAT := hid hat'; clear ho' hf' hat')
      all_goals
        go_wp2_with (fail)
        go_roundw
        case measure => simp [intOf]
        case rel =>
          refine ⟨q - 1, by omega, by omega, by go_num, ?_, ?_⟩
          · have e1 : ((m : Int) - 1 - (q : Int)).toNat = m - 1 - q := by omega
            have e2 : ((m : Int) - 1 - ((q : Int) - 1)).toNat = m - q := by omega
            have e3 : IntKind.u8.wrap (n / 2 ^ (8 * (q : Int)).toNat) = n / 2 ^ (8 * q) % 256 := by
              rw [wrap_u8, show (8 * (q : Int)).toNat = 8 * q by omega]
            have ho := HO'.out
            rw [e1, e3] at ho
            rw [e2, be_take n m q (by omega), ← List.append_assoc]
            have hv : ∀ k, (Value.slice a' l' c').ownBlock = some k → k ≠ b := fun k hk e => by
              subst e
              rcases HAT.out k hk with h1 | h1
              · exact hne h1
              · have := HB.out.lt; simp at h1; omega
            exact ⟨⟨_, hB'.out.setCell 0 _, ho.frm (S := (· = b)) ((Frm.refl _ _).setCell _ _ (.inr rfl)) hv, fun e => hv b e rfl⟩, hnA.out⟩
          · have f1 : Frm (fun k => ¬ A k) wr wq := ((Frm.refl (fun k => ¬ A k) wr).drew.alloc _).trans' HF'.out (fun k _ hk => HO.out.off k hk)
            exact HF.out.trans (f1.setCell _ _ (.inr hnA.out))
end Go.Proofs.Ytljfbaakgjmmfaa
