/- A log of which one place alone is filled. -/
import Derived.Test.YtijomhinfcahpaaSlotKnown
import Derived.Test.YtijomhinfcahpaaRq
import Derived.Laws.BitsAllLaws
namespace Go.Proofs.Ytijomhinfcahpaa
open Go.RowKit Go.ChangeShapes
set_option linter.unusedVariables false
set_option linter.unusedSimpArgs false
theorem frm0_of {w w' : World} (f : Below w.heap.size w w') : Frm (fun _ => False) w w' := Frm.of_below f (fun k hk hk' => absurd (Nat.lt_of_lt_of_le hk hk') (Nat.lt_irrefl _))
def one (s : Int) (a : Sl) : Int → Sl := updS (fun _ => sl0) s a
theorem one_at (s : Int) (a : Sl) : one s a s = a := updS_eq _ _ _
theorem one_upd (s : Int) (a b : Sl) : updS (one s a) s b = one s b := by
  funext i
  by_cases e : i = s
  · subst e; rw [updS_eq, one_at]
  · rw [updS_ne e, one, one, updS_ne e, updS_ne e]
theorem O_acc0 {w : World} {B lb N : Nat} (h : Lg w B lb 0 N (fun _ => sl0)) (hN : N < 100000) (view s c t k y v : Int) (hvw : 0 ≤ view ∧ view ≤ 4294967295) (hs : 1 ≤ s ∧ s ≤ 8) (a : Sl) (ha : sl0.accept ⟨true, view, c, t, k, y, v⟩ = a) :
    Calls Try.prog 10 #[.pointer (some ⟨lb, 0, none⟩), .int .u32 view, .int .u32 s, .agg #[.int .u8 c, .int .u32 t, .int .u8 k, .int .u8 y, .int .u16 v]] w fun e w' => e = .returned (.int .i64 0) ∧ Lg w' B lb 0 (N + 1) (one s a) ∧ LF B w w' := by
  subst ha
  have hin : inW 0 s = true := decide_eq_true ⟨by omega, by omega⟩
  have ht : taken sl0.acc view c t k y v = false := rfl
  refine GAccept_calls h hN view s c t k y v hvw ⟨by omega, by omega⟩ 0 ?_ _ ?_
  · unfold accC; rw [if_pos hin]; exact if_neg (by rw [ht]; decide)
  · unfold accX; rw [if_pos hin, if_neg (by rw [ht]; decide)]; rfl
theorem O_acc {w : World} {B lb N : Nat} {a : Sl} {s : Int} (h : Lg w B lb 0 N (one s a)) (hN : N < 100000) (view c t k y v : Int) (hvw : 0 ≤ view ∧ view ≤ 4294967295) (hs : 1 ≤ s ∧ s ≤ 8) (ht : taken a.acc view c t k y v = false) (a' : Sl) (ha : a.accept ⟨true, view, c, t, k, y, v⟩ = a') :
    Calls Try.prog 10 #[.pointer (some ⟨lb, 0, none⟩), .int .u32 view, .int .u32 s, .agg #[.int .u8 c, .int .u32 t, .int .u8 k, .int .u8 y, .int .u16 v]] w fun e w' => e = .returned (.int .i64 0) ∧ Lg w' B lb 0 (N + 1) (one s a') ∧ LF B w w' := by
  subst ha
  have hin : inW 0 s = true := decide_eq_true ⟨by omega, by omega⟩
  refine GAccept_calls h hN view s c t k y v hvw ⟨by omega, by omega⟩ 0 ?_ _ ?_
  · unfold accC; rw [if_pos hin, one_at]; exact if_neg (by rw [ht]; decide)
  · unfold accX; rw [if_pos hin, one_at, if_neg (by rw [ht]; decide), one_upd]
theorem O_accT {w : World} {B lb N : Nat} {a : Sl} {s : Int} (h : Lg w B lb 0 N (one s a)) (hN : N < 100000) (view c t k y v : Int) (hvw : 0 ≤ view ∧ view ≤ 4294967295) (hs : 1 ≤ s ∧ s ≤ 8) (ht : taken a.acc view c t k y v = true) :
    Calls Try.prog 10 #[.pointer (some ⟨lb, 0, none⟩), .int .u32 view, .int .u32 s, .agg #[.int .u8 c, .int .u32 t, .int .u8 k, .int .u8 y, .int .u16 v]] w fun e w' => e = .returned (.int .i64 121) ∧ Lg w' B lb 0 (N + 1) (one s a) ∧ LF B w w' := by
  have hin : inW 0 s = true := decide_eq_true ⟨by omega, by omega⟩
  refine GAccept_calls h hN view s c t k y v hvw ⟨by omega, by omega⟩ 121 ?_ _ ?_
  · unfold accC; rw [if_pos hin, one_at]; exact if_pos ht
  · unfold accX; rw [if_pos hin, one_at, if_pos ht]
theorem O_Prepare {w : World} {B lb N : Nat} {a : Sl} {s : Int} (h : Lg w B lb 0 N (one s a)) (hN : N < 100000) (i : Nat) (hi : i < 4) (from_ : Int) (hfr : from_ = i) (view c t k y v : Int) (hs : 1 ≤ s ∧ s ≤ 8) (ho : old (a.get (0 + i)) view = false) (a' : Sl) (ha : a.put (0 + i) ⟨true, view, c, t, k, y, v⟩ = a') :
    Calls Try.prog 11 #[.pointer (some ⟨lb, 0, none⟩), .int .u8 from_, .int .u32 view, .int .u32 s, .agg #[.int .u8 c, .int .u32 t, .int .u8 k, .int .u8 y, .int .u16 v]] w fun e w' => e = .returned (.int .i64 0) ∧ Lg w' B lb 0 (N + 1) (one s a') ∧ LF B w w' := by
  subst ha
  have hin : inW 0 s = true := decide_eq_true ⟨by omega, by omega⟩
  refine GPrepare_calls h hN i hi from_ hfr view s c t k y v ⟨by omega, by omega⟩ 0 ?_ _ ?_
  · unfold sayC; rw [if_pos hin, one_at, oldC_new ho]
  · unfold sayZ; rw [if_pos hin, one_at, sayX_new ho, one_upd]
theorem O_PrepareT {w : World} {B lb N : Nat} {a : Sl} {s : Int} (h : Lg w B lb 0 N (one s a)) (hN : N < 100000) (i : Nat) (hi : i < 4) (from_ : Int) (hfr : from_ = i) (view c t k y v : Int) (hs : 1 ≤ s ∧ s ≤ 8) (ho : old (a.get (0 + i)) view = true) :
    Calls Try.prog 11 #[.pointer (some ⟨lb, 0, none⟩), .int .u8 from_, .int .u32 view, .int .u32 s, .agg #[.int .u8 c, .int .u32 t, .int .u8 k, .int .u8 y, .int .u16 v]] w fun e w' => e = .returned (.int .i64 121) ∧ Lg w' B lb 0 (N + 1) (one s a) ∧ LF B w w' := by
  have hin : inW 0 s = true := decide_eq_true ⟨by omega, by omega⟩
  refine GPrepare_calls h hN i hi from_ hfr view s c t k y v ⟨by omega, by omega⟩ 121 ?_ _ ?_
  · unfold sayC; rw [if_pos hin, one_at, oldC_old ho]
  · unfold sayZ; rw [if_pos hin, one_at, sayX_old ho, one_upd]
theorem O_Commit {w : World} {B lb N : Nat} {a : Sl} {s : Int} (h : Lg w B lb 0 N (one s a)) (hN : N < 100000) (i : Nat) (hi : i < 4) (from_ : Int) (hfr : from_ = i) (view c t k y v : Int) (hs : 1 ≤ s ∧ s ≤ 8) (ho : old (a.get (4 + i)) view = false) (a' : Sl) (ha : a.put (4 + i) ⟨true, view, c, t, k, y, v⟩ = a') :
    Calls Try.prog 12 #[.pointer (some ⟨lb, 0, none⟩), .int .u8 from_, .int .u32 view, .int .u32 s, .agg #[.int .u8 c, .int .u32 t, .int .u8 k, .int .u8 y, .int .u16 v]] w fun e w' => e = .returned (.int .i64 0) ∧ Lg w' B lb 0 (N + 1) (one s a') ∧ LF B w w' := by
  subst ha
  have hin : inW 0 s = true := decide_eq_true ⟨by omega, by omega⟩
  refine GCommit_calls h hN i hi from_ hfr view s c t k y v ⟨by omega, by omega⟩ 0 ?_ _ ?_
  · unfold sayC; rw [if_pos hin, one_at, oldC_new ho]
  · unfold sayZ; rw [if_pos hin, one_at, sayX_new ho, one_upd]
theorem O_CommitT {w : World} {B lb N : Nat} {a : Sl} {s : Int} (h : Lg w B lb 0 N (one s a)) (hN : N < 100000) (i : Nat) (hi : i < 4) (from_ : Int) (hfr : from_ = i) (view c t k y v : Int) (hs : 1 ≤ s ∧ s ≤ 8) (ho : old (a.get (4 + i)) view = true) :
    Calls Try.prog 12 #[.pointer (some ⟨lb, 0, none⟩), .int .u8 from_, .int .u32 view, .int .u32 s, .agg #[.int .u8 c, .int .u32 t, .int .u8 k, .int .u8 y, .int .u16 v]] w fun e w' => e = .returned (.int .i64 121) ∧ Lg w' B lb 0 (N + 1) (one s a) ∧ LF B w w' := by
  have hin : inW 0 s = true := decide_eq_true ⟨by omega, by omega⟩
  refine GCommit_calls h hN i hi from_ hfr view s c t k y v ⟨by omega, by omega⟩ 121 ?_ _ ?_
  · unfold sayC; rw [if_pos hin, one_at, oldC_old ho]
  · unfold sayZ; rw [if_pos hin, one_at, sayX_old ho, one_upd]
theorem told_one {s : Int} (hs : 1 ≤ s ∧ s ≤ 8) (a : Sl) (m : Sl → Bool) (ha : a.acc.th = true) (z : Bool) (hz : m a = z) : toldS 0 (one s a) m s = z := by
  have hin : inW 0 s = true := decide_eq_true ⟨by omega, by omega⟩
  unfold toldS
  rw [hin, one_at, ha, hz, Bool.true_and, Bool.true_and]
end Go.Proofs.Ytijomhinfcahpaa
