/- Requests: which are some, which is null. -/
import Derived.Test.YtljfbaakgjmmfaaPage
namespace Go.Proofs.Ytljfbaakgjmmfaa
open Go.RowKit Go.ChangeShapes
set_option linter.unusedVariables false
set_option linter.unusedSimpArgs false
def isNull (c t k y v : Int) : Bool := decide (c = 0 ∧ t = 0 ∧ k = 0 ∧ y = 0 ∧ v = 0)
def isReal (c t k y v : Int) : Bool := decide (1 ≤ c ∧ c ≤ 4 ∧ t ≠ 0 ∧ 1 ≤ k ∧ k ≤ 3 ∧ y < 64 ∧ (k ≠ 2 ∨ v = 0))
/-- What was laid first is there behind a call that turns nothing. -/
theorem blk_after {w w' : World} {cs : Array Value} {T : Nat} (f : Frm (fun _ => False) (w.alloc (.cells cs T)) w') (i : Nat) : w'.cell? ⟨w.heap.size, i, none⟩ = cs[i]? := by
  have hb := (Blk.new w cs.toList T).frm f (fun h => h)
  rw [hb.cell]; simp
set_option maxHeartbeats 4000000 in
theorem MIsReq_calls (w : World) (c t k y v : Int) (z : Bool) (hz : (isNull c t k y v || isReal c t k y v) = z) :
    Calls Try.prog 44 #[.agg #[.int .u8 c, .int .u32 t, .int .u8 k, .int .u8 y, .int .u16 v]] w fun e w' => e = .returned (.bool z) ∧ Frm (fun _ => False) w w' := by
  have HZ := hid hz; clear hz
  go_enter Try.func44, Try.ntmps44
  go_wp2
  all_goals
    go_ret
    refine ⟨ret_bool ?_, by first | exact ((Frm.refl _ _).alloc _).alloc _ | exact (Frm.refl _ _).alloc _⟩
    rw [← HZ.out, Bool.eq_iff_iff]
    simp only [isNull, isReal, Bool.or_eq_true, decide_eq_true_eq, Bool.false_eq_true, true_iff, false_iff, beq_iff_eq, eq_self_iff_true, Bool.and_eq_true, bne_iff_ne]
    omega
set_option maxHeartbeats 4000000 in
theorem Real_calls (w : World) (c t k y v : Int) (z : Bool) (hz : isReal c t k y v = z) :
    Calls Try.prog 35 #[.agg #[.int .u8 c, .int .u32 t, .int .u8 k, .int .u8 y, .int .u16 v]] w fun e w' => e = .returned (.bool z) ∧ Frm (fun _ => False) w w' := by
  have HZ := hid hz; clear hz
  by_cases hn : c = 0 ∧ t = 0 ∧ k = 0 ∧ y = 0 ∧ v = 0
  · obtain ⟨rfl, rfl, rfl, rfl, rfl⟩ := hn
    go_enter Try.func35, Try.ntmps35
    go_wp2_with (go_at_call 44; (with_reducible refine (MIsReq_calls _ 0 0 0 0 0 true rfl).mono ?_); rintro e w1 ⟨rfl, f'⟩; have HF := hid ((((Frm.refl (fun _ => False) w).alloc _)).trans f'); have q0 : w1.cell? ⟨w.heap.size, 0, none⟩ = some (.int .u8 0) := blk_after f' 0; have q1 : w1.cell? ⟨w.heap.size, 1, none⟩ = some (.int .u32 0) := blk_after f' 1; have q2 : w1.cell? ⟨w.heap.size, 2, none⟩ = some (.int .u8 0) := blk_after f' 2; have q3 : w1.cell? ⟨w.heap.size, 3, none⟩ = some (.int .u8 0) := blk_after f' 3; have q4 : w1.cell? ⟨w.heap.size, 4, none⟩ = some (.int .u16 0) := blk_after f' 4; clear f')
    go_ret
    refine ⟨ret_bool ?_, HF.out⟩
    rw [← HZ.out]
    decide
  · have hn2 : isNull c t k y v = false := decide_eq_false hn
    have hzz := hid (show (isNull c t k y v || isReal c t k y v) = z by rw [hn2, HZ.out]; rfl)
    clear hn2
    go_enter Try.func35, Try.ntmps35
    go_wp2_with (go_at_call 44; (with_reducible refine (MIsReq_calls _ c t k y v z hzz.out).mono ?_); rintro e w1 ⟨rfl, f'⟩; have HF := hid ((((Frm.refl (fun _ => False) w).alloc _)).trans f'); have q0 : w1.cell? ⟨w.heap.size, 0, none⟩ = some (.int .u8 c) := blk_after f' 0; have q1 : w1.cell? ⟨w.heap.size, 1, none⟩ = some (.int .u32 t) := blk_after f' 1; have q2 : w1.cell? ⟨w.heap.size, 2, none⟩ = some (.int .u8 k) := blk_after f' 2; have q3 : w1.cell? ⟨w.heap.size, 3, none⟩ = some (.int .u8 y) := blk_after f' 3; have q4 : w1.cell? ⟨w.heap.size, 4, none⟩ = some (.int .u16 v) := blk_after f' 4; clear f')
    all_goals
      go_ret
      refine ⟨ret_bool ?_, HF.out⟩
      first | rfl | assumption | (symm; assumption) | simp_all
end Go.Proofs.Ytljfbaakgjmmfaa
