/- A number's decimal digits: FormatUint at base 10. -/
import Derived.Test.YtipalebaaejfjaaDoorShelf
import Derived.Test.YtipalebaaejfjaaDoorLib
import Derived.Lib.AppendIntMem
namespace Go.Proofs.YtipalebaaejfjaaDoor
open Go.RowKit Go.ChangeShapes
set_option linter.unusedVariables false
set_option linter.unusedSimpArgs false
set_option maxRecDepth 100000
/-- A number's decimal digits, as a string; where the table of powers lies. -/
def decS (u : Nat) : ByteArray := ⟨(Lib.decDigits u).toArray⟩
abbrev Tab (w : World) : Prop := Lib.TabIs Tryd.prog w "internal/strconv.uint64pow10" .u64 Lib.pow10Tab
theorem Tab.alloc {w : World} (h : Tab w) (o : Obj) : Tab (w.alloc o) := Lib.tabIs_alloc h o
theorem frm_grow (w : World) (k : Nat) (os : Array Obj) : Frm (fun _ => False) w (Sort.grow (w.drewN k) os) :=
  ⟨rfl, rfl, rfl, by show w.heap.size ≤ (w.heap ++ os).size; simp, fun i hi _ => by
    show (w.heap ++ os)[i]? = w.heap[i]?
    rw [Array.getElem?_append, if_pos hi]⟩
abbrev T24 : Nat := 87
set_option maxHeartbeats 8000000 in
theorem IFormat_calls (u : Nat) (hu : u < 18446744073709551616) (w : World) (htab : Tab w) :
    Calls Tryd.prog 54 #[.int .u64 u, .int .i64 10] w fun e w' => e = .returned (.string (decS u)) ∧ Frm (fun _ => False) w w' := by
  by_cases hs : u < 100
  · have hs2 : (u : Int) < 100 := by omega
    have e1 : IntKind.i64.wrap (u : Int) = (u : Int) := by simp [IntKind.wrap, IntKind.bits, IntKind.signed]; omega
    have HS := hid hs
    clear hs
    go_enter Tryd.func54, Tryd.ntmps54
    go_wp2_with (go_at_call 58; (with_reducible refine (Tryd.internal_strconv_small u HS.out _).mono ?_); rintro e w' ⟨rfl, rfl⟩)
    go_ret
    exact ⟨rfl, Frm.refl _ _⟩
  · have hs2 : ¬ (u : Int) < 100 := by omega
    have hu1 : 1 ≤ u := by omega
    have hnd20 : Lib.nDigits u ≤ 20 := by have := Lib.numDigits_eq u hu1 hu; split at this <;> omega
    have hal : Tryd.prog.arrayLen T24 = 24 := by kernel_rfl
    have hsl1 : ∀ W, (Instr.sliceAt T24 (.pointer (some ⟨w.heap.size, 0, none⟩)) none (some (.int .i64 (Lib.nDigits u : Int))) none).run Tryd.prog W = .ok (.slice (some ⟨w.heap.size, 0, none⟩) (Lib.nDigits u) 24) W := fun W => by
      rw [run_sliceAt_array_h W T24 ⟨w.heap.size, 0, none⟩ (by simp [Program.arrayLen, Program.elem, Tryd.underlying87]) .i64 (Lib.nDigits u : Int) (by omega) (by rw [hal]; omega)]
      go_simp
    have hH0 := Lib.holds_zero0 w T24 (Lib.nDigits u) (by omega)
    have hfmt := Tryd.internal_strconv_formatBase10 w.heap.size 0 24 u (Array.replicate (Lib.nDigits u) 0) (w.alloc (.cells Lib.zeros24 T24)) hH0 (by rw [Array.size_replicate]; exact Lib.lt_pow_nDigits u) hu (by rw [Array.size_replicate]; omega)
    rw [Array.size_replicate] at hfmt
    have HH0 := hid hH0
    have HFM := hid hfmt
    have HU := hid hu
    have HTB := hid htab
    clear hH0 hal hfmt hu htab hs
    go_enter Tryd.func54, Tryd.ntmps54
    go_wp2_with (first
      | (go_at_call 59; (with_reducible refine (Tryd.internal_strconv_numDigits u hu1 HU.out _ (HTB.out.alloc _)).mono ?_); rintro e w' ⟨rfl, rfl⟩))
    go_at_call 60
    refine HFM.out.mono ?_
    rintro e w' ⟨rfl, k, v', dk, rfl, hF⟩
    have hcv : (convert 77 9 (.slice (some ⟨w.heap.size, 0, none⟩) (Lib.nDigits u) 24)).run Tryd.prog ((Sort.putRow (fun (b : UInt8) => Value.int .u8 (b.toNat : Int)) (w.alloc (.cells Lib.zeros24 T24)) w.heap.size 0 dk).drewN k) = .ok (.string (decS u)) ((Sort.putRow (fun (b : UInt8) => Value.int .u8 (b.toNat : Int)) (w.alloc (.cells Lib.zeros24 T24)) w.heap.size 0 dk).drewN k) := by
      have h := run_convert_bytes_back (P := Tryd.prog) ((Sort.putRow (fun (b : UInt8) => Value.int .u8 (b.toNat : Int)) (w.alloc (.cells Lib.zeros24 T24)) w.heap.size 0 dk).drewN k) 77 9 5 ⟨w.heap.size, 0, none⟩ 24 (Lib.decDigits u) Tryd.underlying77 Tryd.underlying5 Tryd.underlying9 (fun j hj => by
        rw [Lib.row_is_numeral hF j hj, Lib.add_plain, World.cell?_drewN]
        exact Sort.cell?_putRow (fun (b : UInt8) => Value.int .u8 (b.toNat : Int)) _ w.heap.size 0 _ dk HH0.out (by rw [hF.size, Array.size_replicate]) j (by rw [hF.size]; rw [Lib.decDigits_length] at hj; exact hj))
      rw [Lib.decDigits_length] at h
      exact h
    go_wp2
    go_ret
    obtain ⟨os, eo⟩ := Lib.fin_at w (.cells Lib.zeros24 T24) dk k 0
    exact ⟨rfl, by rw [eo]; exact frm_grow w k os⟩
theorem FormatUint_calls (u : Nat) (hu : u < 18446744073709551616) (w : World) (htab : Tab w) :
    Calls Tryd.prog 51 #[.int .u64 u, .int .i64 10] w fun e w' => e = .returned (.string (decS u)) ∧ Frm (fun _ => False) w w' := by
  go_enter Tryd.func51, Tryd.ntmps51
  go_wp2_with (go_at_call 54; (with_reducible refine (IFormat_calls u hu _ htab).mono ?_); rintro e w' ⟨rfl, f'⟩)
  go_ret
  exact ⟨rfl, f'⟩
end Go.Proofs.YtipalebaaejfjaaDoor
