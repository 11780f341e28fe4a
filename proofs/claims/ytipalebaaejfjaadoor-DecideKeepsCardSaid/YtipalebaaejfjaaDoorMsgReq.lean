/- Requests: which are some, which is null. -/
import Derived.Test.YtipalebaaejfjaaDoorProg
import Derived.Test.YtipalebaaejfjaaDoorLib
import Derived.Test.YtipalebaaejfjaaDoorArgs
namespace Go.Proofs.YtipalebaaejfjaaDoor
open Go.RowKit Go.ChangeShapes
set_option linter.unusedVariables false
set_option linter.unusedSimpArgs false
def isNull (c t k y v : Int) : Bool := decide (c = 0 ∧ t = 0 ∧ k = 0 ∧ y = 0 ∧ v = 0)
def isReal (c t k y v : Int) : Bool := decide (1 ≤ c ∧ c ≤ 4 ∧ t ≠ 0 ∧ 1 ≤ k ∧ k ≤ 3 ∧ y < 64 ∧ (k ≠ 2 ∨ v = 0))
/-- What was laid first is there behind a call that turns nothing. -/
theorem blk_after {w w' : World} {cs : Array Value} {T : Nat} (f : Frm (fun _ => False) (w.alloc (.cells cs T)) w') (i : Nat) : w'.cell? ⟨w.heap.size, i, none⟩ = cs[i]? := by
  have hb := (Blk.new w cs.toList T).frm f (fun h => h)
  rw [hb.cell]; simp
set_option maxHeartbeats 4000000 in
theorem MIsReq_calls (w : World) (c t k y v : Int) (z : Bool) (hz : (isNull c t k y v || isReal c t k y v) = z) :
    Calls Tryd.prog 47 #[.agg #[.int .u8 c, .int .u32 t, .int .u8 k, .int .u8 y, .int .u16 v]] w fun e w' => e = .returned (.bool z) ∧ Frm (fun _ => False) w w' := by
  have HZ := hid hz; clear hz
  go_enter Tryd.func47, Tryd.ntmps47
  go_wp2
  all_goals
    go_ret
    refine ⟨ret_bool ?_, by first | exact ((Frm.refl _ _).alloc _).alloc _ | exact (Frm.refl _ _).alloc _⟩
    rw [← HZ.out, Bool.eq_iff_iff]
    simp only [isNull, isReal, Bool.or_eq_true, decide_eq_true_eq, Bool.false_eq_true, true_iff, false_iff, beq_iff_eq, eq_self_iff_true, Bool.and_eq_true, bne_iff_ne]
    omega
end Go.Proofs.YtipalebaaejfjaaDoor
