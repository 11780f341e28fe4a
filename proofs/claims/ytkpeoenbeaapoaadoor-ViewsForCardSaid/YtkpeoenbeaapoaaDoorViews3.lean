/- Votes: Join. -/
import Derived.Test.YtkpeoenbeaapoaaDoorViews2
import Derived.Deep.MidRow
namespace Go.Proofs.YtkpeoenbeaapoaaDoor
open Go.RowKit Go.ChangeShapes
set_option linter.unusedVariables false
set_option linter.unusedSimpArgs false
set_option maxRecDepth 100000
abbrev TVr : Nat := 40
theorem vidx0 (f0 e0 v0 f1 e1 v1 f2 e2 v2 f3 e3 v3 : Int) (w : World) : (Instr.index TVr (.agg (vsC [(f0, e0, v0), (f1, e1, v1), (f2, e2, v2), (f3, e3, v3)]).toArray) (.int .i64 0)).run Tryd.prog w = .ok (.agg #[.int .u8 f0, .int .u8 e0, .int .u32 v0, .int .u32 0, .slice none 0 0, .slice none 0 0, .slice none 0 0]) w := by kernel_rfl
theorem vidx1 (f0 e0 v0 f1 e1 v1 f2 e2 v2 f3 e3 v3 : Int) (w : World) : (Instr.index TVr (.agg (vsC [(f0, e0, v0), (f1, e1, v1), (f2, e2, v2), (f3, e3, v3)]).toArray) (.int .i64 1)).run Tryd.prog w = .ok (.agg #[.int .u8 f1, .int .u8 e1, .int .u32 v1, .int .u32 0, .slice none 0 0, .slice none 0 0, .slice none 0 0]) w := by kernel_rfl
theorem vidx2 (f0 e0 v0 f1 e1 v1 f2 e2 v2 f3 e3 v3 : Int) (w : World) : (Instr.index TVr (.agg (vsC [(f0, e0, v0), (f1, e1, v1), (f2, e2, v2), (f3, e3, v3)]).toArray) (.int .i64 2)).run Tryd.prog w = .ok (.agg #[.int .u8 f2, .int .u8 e2, .int .u32 v2, .int .u32 0, .slice none 0 0, .slice none 0 0, .slice none 0 0]) w := by kernel_rfl
theorem vidx3 (f0 e0 v0 f1 e1 v1 f2 e2 v2 f3 e3 v3 : Int) (w : World) : (Instr.index TVr (.agg (vsC [(f0, e0, v0), (f1, e1, v1), (f2, e2, v2), (f3, e3, v3)]).toArray) (.int .i64 3)).run Tryd.prog w = .ok (.agg #[.int .u8 f3, .int .u8 e3, .int .u32 v3, .int .u32 0, .slice none 0 0, .slice none 0 0, .slice none 0 0]) w := by kernel_rfl
theorem vsize (f0 e0 v0 f1 e1 v1 f2 e2 v2 f3 e3 v3 : Int) : (Tryd.prog.info? TVr).map (·.size) = some (vsC [(f0, e0, v0), (f1, e1, v1), (f2, e2, v2), (f3, e3, v3)]).length := by kernel_rfl
theorem IsVs.range {w : World} {b : Nat} {T : List Vt} (h : IsVs w b T) : w.rangeAt b 0 (vsC T) := fun j v hj => by rw [Nat.zero_add, h.blk.cell]; exact hj
def jF (view : Int) (a : Nat × Int) (v : Int) : Nat × Int := if v ≤ view then a else (a.1 + 1, if a.1 = 0 ∨ v < a.2 then v else a.2)
def jAll (view : Int) (l : List Int) : Nat × Int := l.foldl (jF view) (0, 0)
theorem jF_le {view v : Int} {a : Nat × Int} (h : v ≤ view) : jF view a v = a := if_pos h
theorem jF_new {view v : Int} {N : Nat} {L : Int} (h : ¬ v ≤ view) (h2 : N = 0 ∨ v < L) : jF view (N, L) v = (N + 1, v) := by unfold jF; rw [if_neg h]; show (N + 1, if N = 0 ∨ v < L then v else L) = _; rw [if_pos h2]
theorem jF_old {view v : Int} {N : Nat} {L : Int} (h : ¬ v ≤ view) (h2 : ¬ (N = 0 ∨ v < L)) : jF view (N, L) v = (N + 1, L) := by unfold jF; rw [if_neg h]; show (N + 1, if N = 0 ∨ v < L then v else L) = _; rw [if_neg h2]
theorem jF_n (view v : Int) (a : Nat × Int) (n : Nat) (h : a.1 ≤ n) : (jF view a v).1 ≤ n + 1 := by unfold jF; split; omega; show a.1 + 1 ≤ n + 1; omega
theorem jAll_n (view : Int) (l : List Int) : ∀ a : Nat × Int, (l.foldl (jF view) a).1 ≤ a.1 + l.length := by
  induction l with
  | nil => intro a; exact Nat.le_refl _
  | cons v l ih => intro a; have h1 := ih (jF view a v); have h2 := jF_n view v a a.1 (Nat.le_refl _); show (l.foldl (jF view) (jF view a v)).1 ≤ a.1 + (l.length + 1); omega
theorem jAll_succ (view : Int) (vs : List Int) (k : Nat) (v : Int) (hk : vs[k]? = some v) : jAll view (vs.take (k + 1)) = jF view (jAll view (vs.take k)) v := by
  rw [List.take_add_one, hk]; exact List.foldl_append
theorem ret_join {n : Nat} {l a : Int} {b : Bool} (h1 : a = if 2 ≤ n then l else 0) (h2 : b = decide (2 ≤ n)) : Ending.returned (.tuple #[.int .u32 a, .bool b]) = Ending.returned (.tuple #[.int .u32 (if 2 ≤ n then l else 0), .bool (decide (2 ≤ n))]) := by rw [h1, h2]
set_option maxHeartbeats 16000000 in
theorem VJoin_calls {w : World} {b : Nat} {f0 e0 v0 f1 e1 v1 f2 e2 v2 f3 e3 v3 : Int} (h : IsVs w b [(f0, e0, v0), (f1, e1, v1), (f2, e2, v2), (f3, e3, v3)]) (view : Int) (n : Nat) (l : Int) (hj : jAll view [v0, v1, v2, v3] = (n, l)) :
    Calls Tryd.prog 10 #[.pointer (some ⟨b, 0, none⟩), .int .u32 view] w fun e w' => e = .returned (.tuple #[.int .u32 (if 2 ≤ n then l else 0), .bool (decide (2 ≤ n))]) ∧ Frm (fun _ => False) w w' := by
  have hn4 : n ≤ 4 := by have := jAll_n view [v0, v1, v2, v3] (0, 0); rw [show [v0, v1, v2, v3].foldl (jF view) (0, 0) = (n, l) from hj] at this; exact this
  obtain ⟨Z, hZ⟩ : ∃ Z, (vsC [(f0, e0, v0), (f1, e1, v1), (f2, e2, v2), (f3, e3, v3)]).toArray = Z := ⟨_, rfl⟩
  have HZ := hid hZ
  have HJ := hid hj
  have HN4 := hid hn4
  have HX := hid h.range
  have HS := hid (vsize f0 e0 v0 f1 e1 v1 f2 e2 v2 f3 e3 v3)
  clear hj h hn4 hZ
  go_enter Tryd.func10, Tryd.ntmps10
  go_wp2_with ((with_reducible show wpList _ _ _ _ _ _); refine wpList_load_mid rfl TVr (.tmp 12) rfl b 0 rfl (vsC [(f0, e0, v0), (f1, e1, v1), (f2, e2, v2), (f3, e3, v3)]) (.array 4 TVt) HX.out Tryd.underlying40 rfl HS.out ?_; rw [HZ.out])
  go_loopw [6, 7, 14] (fun nv lv iv wr => ∃ (k : Nat) (N : Nat) (L : Int), k ≤ 4 ∧ jAll view ([v0, v1, v2, v3].take k) = (N, L) ∧ nv = .int .i64 N ∧ lv = .int .u32 L ∧ iv = .int .i64 k ∧ Frm (fun _ => False) w wr) (fun _ _ i _ => 4 - (intOf i).toNat)
  case atStart => exact ⟨0, 0, 0, by omega, rfl, rfl, rfl, rfl, Frm.refl _ _⟩
  case round =>
    obtain ⟨k, N, L, hk, hJ, rfl, rfl, rfl, hf⟩ := hrel
    have HF := hid hf; clear hf
    rcases (show k = 0 ∨ k = 1 ∨ k = 2 ∨ k = 3 ∨ k = 4 by omega) with rfl | rfl | rfl | rfl | rfl
    · have ix := fun w => vidx0 f0 e0 v0 f1 e1 v1 f2 e2 v2 f3 e3 v3 w
      rw [HZ.out] at ix
      have HNk := hid (show N ≤ 0 by have := jAll_n view ([v0, v1, v2, v3].take 0) (0, 0); rw [show ([v0, v1, v2, v3].take 0).foldl (jF view) (0, 0) = (N, L) from hJ] at this; exact this)
      by_cases hv : v0 ≤ view
      · have hJ1 : jAll view ([v0, v1, v2, v3].take 1) = (N, L) := by rw [jAll_succ view _ 0 v0 rfl, hJ]; exact jF_le hv
        have HJ1 := hid hJ1; clear hJ hJ1 hk
        go_wp2
        go_roundw
        case rel => exact ⟨1, N, L, by omega, HJ1.out, rfl, rfl, rfl, HF.out.alloc _⟩
        case measure => simp [intOf]
      · by_cases hN : N = 0
        · subst hN
          have hJ1 : jAll view ([v0, v1, v2, v3].take 1) = (1, v0) := by rw [jAll_succ view _ 0 v0 rfl, hJ]; exact jF_new hv (.inl rfl)
          have HJ1 := hid hJ1; clear hJ hJ1 hk
          go_wp2
          go_roundw
          case rel => exact ⟨1, 1, v0, by omega, HJ1.out, rfl, rfl, rfl, HF.out.alloc _⟩
          case measure => simp [intOf]
        · exact absurd (Nat.le_zero.1 HNk.out) hN
    · have ix := fun w => vidx1 f0 e0 v0 f1 e1 v1 f2 e2 v2 f3 e3 v3 w
      rw [HZ.out] at ix
      have HNk := hid (show N ≤ 1 by have := jAll_n view ([v0, v1, v2, v3].take 1) (0, 0); rw [show ([v0, v1, v2, v3].take 1).foldl (jF view) (0, 0) = (N, L) from hJ] at this; exact this)
      by_cases hv : v1 ≤ view
      · have hJ1 : jAll view ([v0, v1, v2, v3].take 2) = (N, L) := by rw [jAll_succ view _ 1 v1 rfl, hJ]; exact jF_le hv
        have HJ1 := hid hJ1; clear hJ hJ1 hk
        go_wp2
        go_roundw
        case rel => exact ⟨2, N, L, by omega, HJ1.out, rfl, rfl, rfl, HF.out.alloc _⟩
        case measure => simp [intOf]
      · by_cases hN : N = 0
        · subst hN
          have hJ1 : jAll view ([v0, v1, v2, v3].take 2) = (1, v1) := by rw [jAll_succ view _ 1 v1 rfl, hJ]; exact jF_new hv (.inl rfl)
          have HJ1 := hid hJ1; clear hJ hJ1 hk
          go_wp2
          go_roundw
          case rel => exact ⟨2, 1, v1, by omega, HJ1.out, rfl, rfl, rfl, HF.out.alloc _⟩
          case measure => simp [intOf]
        · have hN1 : (((N : Int) + 1) == 1) = false := beq_eq_false_iff_ne.2 (by omega)
          have hNk : (N : Int) ≤ 1 := by have := HNk.out; omega
          have hN0 : 0 ≤ (N : Int) := by omega
          have hN2 : ((N : Int) == 0) = false := beq_eq_false_iff_ne.2 (by omega)
          have hN3 : ¬ (N : Int) = 0 := by omega
          by_cases hl : v1 < L
          · have hJ1 : jAll view ([v0, v1, v2, v3].take 2) = (N + 1, v1) := by rw [jAll_succ view _ 1 v1 rfl, hJ]; exact jF_new hv (.inr hl)
            have HJ1 := hid hJ1; clear hJ hJ1 hk
            go_wp2
            go_roundw
            case rel => exact ⟨2, N + 1, v1, by omega, HJ1.out, rfl, rfl, rfl, HF.out.alloc _⟩
            case measure => simp [intOf]
          · have hJ1 : jAll view ([v0, v1, v2, v3].take 2) = (N + 1, L) := by rw [jAll_succ view _ 1 v1 rfl, hJ]; exact jF_old hv (fun h => h.elim hN hl)
            have HJ1 := hid hJ1; clear hJ hJ1 hk
            go_wp2
            go_roundw
            case rel => exact ⟨2, N + 1, L, by omega, HJ1.out, rfl, rfl, rfl, HF.out.alloc _⟩
            case measure => simp [intOf]
    · have ix := fun w => vidx2 f0 e0 v0 f1 e1 v1 f2 e2 v2 f3 e3 v3 w
      rw [HZ.out] at ix
      have HNk := hid (show N ≤ 2 by have := jAll_n view ([v0, v1, v2, v3].take 2) (0, 0); rw [show ([v0, v1, v2, v3].take 2).foldl (jF view) (0, 0) = (N, L) from hJ] at this; exact this)
      by_cases hv : v2 ≤ view
      · have hJ1 : jAll view ([v0, v1, v2, v3].take 3) = (N, L) := by rw [jAll_succ view _ 2 v2 rfl, hJ]; exact jF_le hv
        have HJ1 := hid hJ1; clear hJ hJ1 hk
        go_wp2
        go_roundw
        case rel => exact ⟨3, N, L, by omega, HJ1.out, rfl, rfl, rfl, HF.out.alloc _⟩
        case measure => simp [intOf]
      · by_cases hN : N = 0
        · subst hN
          have hJ1 : jAll view ([v0, v1, v2, v3].take 3) = (1, v2) := by rw [jAll_succ view _ 2 v2 rfl, hJ]; exact jF_new hv (.inl rfl)
          have HJ1 := hid hJ1; clear hJ hJ1 hk
          go_wp2
          go_roundw
          case rel => exact ⟨3, 1, v2, by omega, HJ1.out, rfl, rfl, rfl, HF.out.alloc _⟩
          case measure => simp [intOf]
        · have hN1 : (((N : Int) + 1) == 1) = false := beq_eq_false_iff_ne.2 (by omega)
          have hNk : (N : Int) ≤ 2 := by have := HNk.out; omega
          have hN0 : 0 ≤ (N : Int) := by omega
          have hN2 : ((N : Int) == 0) = false := beq_eq_false_iff_ne.2 (by omega)
          have hN3 : ¬ (N : Int) = 0 := by omega
          by_cases hl : v2 < L
          · have hJ1 : jAll view ([v0, v1, v2, v3].take 3) = (N + 1, v2) := by rw [jAll_succ view _ 2 v2 rfl, hJ]; exact jF_new hv (.inr hl)
            have HJ1 := hid hJ1; clear hJ hJ1 hk
            go_wp2
            go_roundw
            case rel => exact ⟨3, N + 1, v2, by omega, HJ1.out, rfl, rfl, rfl, HF.out.alloc _⟩
            case measure => simp [intOf]
          · have hJ1 : jAll view ([v0, v1, v2, v3].take 3) = (N + 1, L) := by rw [jAll_succ view _ 2 v2 rfl, hJ]; exact jF_old hv (fun h => h.elim hN hl)
            have HJ1 := hid hJ1; clear hJ hJ1 hk
            go_wp2
            go_roundw
            case rel => exact ⟨3, N + 1, L, by omega, HJ1.out, rfl, rfl, rfl, HF.out.alloc _⟩
            case measure => simp [intOf]
    · have ix := fun w => vidx3 f0 e0 v0 f1 e1 v1 f2 e2 v2 f3 e3 v3 w
      rw [HZ.out] at ix
      have HNk := hid (show N ≤ 3 by have := jAll_n view ([v0, v1, v2, v3].take 3) (0, 0); rw [show ([v0, v1, v2, v3].take 3).foldl (jF view) (0, 0) = (N, L) from hJ] at this; exact this)
      by_cases hv : v3 ≤ view
      · have hJ1 : jAll view ([v0, v1, v2, v3].take 4) = (N, L) := by rw [jAll_succ view _ 3 v3 rfl, hJ]; exact jF_le hv
        have HJ1 := hid hJ1; clear hJ hJ1 hk
        go_wp2
        go_roundw
        case rel => exact ⟨4, N, L, by omega, HJ1.out, rfl, rfl, rfl, HF.out.alloc _⟩
        case measure => simp [intOf]
      · by_cases hN : N = 0
        · subst hN
          have hJ1 : jAll view ([v0, v1, v2, v3].take 4) = (1, v3) := by rw [jAll_succ view _ 3 v3 rfl, hJ]; exact jF_new hv (.inl rfl)
          have HJ1 := hid hJ1; clear hJ hJ1 hk
          go_wp2
          go_roundw
          case rel => exact ⟨4, 1, v3, by omega, HJ1.out, rfl, rfl, rfl, HF.out.alloc _⟩
          case measure => simp [intOf]
        · have hN1 : (((N : Int) + 1) == 1) = false := beq_eq_false_iff_ne.2 (by omega)
          have hNk : (N : Int) ≤ 3 := by have := HNk.out; omega
          have hN0 : 0 ≤ (N : Int) := by omega
          have hN2 : ((N : Int) == 0) = false := beq_eq_false_iff_ne.2 (by omega)
          have hN3 : ¬ (N : Int) = 0 := by omega
          by_cases hl : v3 < L
          · have hJ1 : jAll view ([v0, v1, v2, v3].take 4) = (N + 1, v3) := by rw [jAll_succ view _ 3 v3 rfl, hJ]; exact jF_new hv (.inr hl)
            have HJ1 := hid hJ1; clear hJ hJ1 hk
            go_wp2
            go_roundw
            case rel => exact ⟨4, N + 1, v3, by omega, HJ1.out, rfl, rfl, rfl, HF.out.alloc _⟩
            case measure => simp [intOf]
          · have hJ1 : jAll view ([v0, v1, v2, v3].take 4) = (N + 1, L) := by rw [jAll_succ view _ 3 v3 rfl, hJ]; exact jF_old hv (fun h => h.elim hN hl)
            have HJ1 := hid hJ1; clear hJ hJ1 hk
            go_wp2
            go_roundw
            case rel => exact ⟨4, N + 1, L, by omega, HJ1.out, rfl, rfl, rfl, HF.out.alloc _⟩
            case measure => simp [intOf]
    · have hJ2 : jAll view [v0, v1, v2, v3] = (N, L) := hJ
      have HJ2 := HJ.out.symm.trans hJ2
      injection HJ2 with hA hB
      subst hA hB
      have HN := HN4
      clear hJ hJ2 hk
      by_cases h2 : n < 2
      · have HD := hid h2
        have hd : (n : Int) < 2 := by omega
        clear h2
        go_wp2
        go_ret2
        exact ⟨rfl, HF.out⟩
      · have HD := hid h2
        have hd : ¬ (n : Int) < 2 := by omega
        clear h2
        go_wp2
        go_ret2
        exact ⟨rfl, HF.out⟩
end Go.Proofs.YtkpeoenbeaapoaaDoor
