/- Helps that hold lists against one another: like lists are told to be. -/
import Derived.Test.YtknaalaajmhjgaaMerkKnown
namespace Go.Proofs.Ytknaalaajmhjgaa
open Go.RowKit Go.ChangeShapes
set_option linter.unusedVariables false
set_option linter.unusedSimpArgs false
set_option maxHeartbeats 2000000 in
theorem HInts_eq {w : World} {A B : Option Addr} {c d : Nat} {x : List Int} (n m : Nat) (hx : IsInts .i64 w A c x) (hy : IsInts .i64 w B d x) (hn : x.length = n) (hm : x.length = m) :
    Calls Try.prog 21 #[.slice A n c, .slice B m d] w fun e w' => e = .returned (.bool true) ∧ Frm (fun _ => False) w w' := by
  obtain rfl : n = m := by omega
  have hle := hx.le; have hle2 := hy.le; have hsm := hx.small; have hsm2 := hy.small
  rw [hn] at hle hle2
  have HX := hid hx; have HY := hid hy; have HN := hid hn
  clear hx hy hn hm
  go_enter Try.func21, Try.ntmps21
  go_wp2
  go_loopw [5] (fun i wr => ∃ k : Nat, k ≤ n ∧ i = .int .i64 k ∧ Frm (fun _ => False) w wr) (fun i _ => n - (intOf i).toNat)
  case atStart => exact ⟨0, by omega, rfl, Frm.refl _ _⟩
  case round =>
    obtain ⟨k, hk, rfl, hf⟩ := hrel
    have HF := hid hf; clear hf
    by_cases hlt : k < n
    · obtain ⟨ga, oa, rfl, hga, hca⟩ := HX.out.at_ (by have := HN.out; omega)
      obtain ⟨gb, ob, rfl, hgb, hcb⟩ := HY.out.at_ (by have := HN.out; omega)
      have q0 := (HF.out.cell (p := ⟨ga, oa + k, none⟩) hga (fun h => h)).trans (hca k (by have := HN.out; omega))
      have q1 := (HF.out.cell (p := ⟨gb, ob + k, none⟩) hgb (fun h => h)).trans (hcb k (by have := HN.out; omega))
      generalize x.getD k 0 = u at q0 q1
      have hkn : (k : Int) < (n : Int) := by omega
      clear hca hcb
      go_wp2
      go_region_held3 (fun wx => wx.cell? ⟨ga, oa + k, none⟩ = some (.int .i64 u) ∧ wx.cell? ⟨gb, ob + k, none⟩ = some (.int .i64 u)) (go_keep) (fail)
      go_wp2
      go_roundw
      case rel => exact ⟨k + 1, by omega, by go_num, HF.out.drew⟩
      case measure => simp [intOf]; omega
    · have hkn : (n : Int) ≤ (k : Int) := by omega
      go_wp2
      go_ret
      exact ⟨rfl, HF.out⟩
set_option maxHeartbeats 2000000 in
theorem HSums_eq {w : World} {A B : Option Addr} {c d : Nat} {x : List Int} (n m : Nat) (hx : IsInts .u64 w A c x) (hy : IsInts .u64 w B d x) (hn : x.length = n) (hm : x.length = m) :
    Calls Try.prog 22 #[.slice A n c, .slice B m d] w fun e w' => e = .returned (.bool true) ∧ Frm (fun _ => False) w w' := by
  obtain rfl : n = m := by omega
  have hle := hx.le; have hle2 := hy.le; have hsm := hx.small; have hsm2 := hy.small
  rw [hn] at hle hle2
  have HX := hid hx; have HY := hid hy; have HN := hid hn
  clear hx hy hn hm
  go_enter Try.func22, Try.ntmps22
  go_wp2
  go_loopw [5] (fun i wr => ∃ k : Nat, k ≤ n ∧ i = .int .i64 k ∧ Frm (fun _ => False) w wr) (fun i _ => n - (intOf i).toNat)
  case atStart => exact ⟨0, by omega, rfl, Frm.refl _ _⟩
  case round =>
    obtain ⟨k, hk, rfl, hf⟩ := hrel
    have HF := hid hf; clear hf
    by_cases hlt : k < n
    · obtain ⟨ga, oa, rfl, hga, hca⟩ := HX.out.at_ (by have := HN.out; omega)
      obtain ⟨gb, ob, rfl, hgb, hcb⟩ := HY.out.at_ (by have := HN.out; omega)
      have q0 := (HF.out.cell (p := ⟨ga, oa + k, none⟩) hga (fun h => h)).trans (hca k (by have := HN.out; omega))
      have q1 := (HF.out.cell (p := ⟨gb, ob + k, none⟩) hgb (fun h => h)).trans (hcb k (by have := HN.out; omega))
      generalize x.getD k 0 = u at q0 q1
      have hkn : (k : Int) < (n : Int) := by omega
      clear hca hcb
      go_wp2
      go_region_held3 (fun wx => wx.cell? ⟨ga, oa + k, none⟩ = some (.int .u64 u) ∧ wx.cell? ⟨gb, ob + k, none⟩ = some (.int .u64 u)) (go_keep) (fail)
      go_wp2
      go_roundw
      case rel => exact ⟨k + 1, by omega, by go_num, HF.out.drew⟩
      case measure => simp [intOf]; omega
    · have hkn : (n : Int) ≤ (k : Int) := by omega
      go_wp2
      go_ret
      exact ⟨rfl, HF.out⟩
end Go.Proofs.Ytknaalaajmhjgaa
