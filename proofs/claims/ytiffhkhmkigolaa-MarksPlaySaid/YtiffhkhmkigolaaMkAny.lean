/- Marks: Add, whatever comes of it. -/
import Derived.Test.YtiffhkhmkigolaaMkKnown
namespace Go.Proofs.Ytiffhkhmkigolaa
open Go.RowKit Go.ChangeShapes
set_option linter.unusedVariables false
set_option linter.unusedSimpArgs false
set_option maxRecDepth 100000
def addH (H : Nat → List Mk) (n : Nat) (m : Mk) : Nat → List Mk := if hasS m.1 (H n) = true then H else updH H n (addL m (H n))
theorem MAdd_any {w : World} {lb mb N : Nat} {H : Nat → List Mk} (h : IsMs w lb mb N H) (hNN : N ≤ 90000) (n : Nat) (hn : n < 4) (F : Int) (hF : F = n) (m : Mk) (hm : okK m) (hq : m.1 % 4 = 0) (hx : m.1 ≤ 1073741824) :
    Calls Try.prog 9 #[.pointer (some ⟨lb, 0, none⟩), .int .u8 F, .int .u32 m.1, .int .u64 m.2] w fun e w' => (∃ z : Bool, e = .returned (.bool z)) ∧ IsMs w' lb mb (N + 2) (addH H n m) ∧ Frm (· = mb) w w' := by
  unfold addH
  cases hs : hasS m.1 (H n)
  · refine (MAdd_new h hNN n hn F hF m hm hq hx hs).mono ?_
    rintro e w' ⟨rfl, h1, h2⟩
    rw [if_neg (by decide)]
    exact ⟨⟨_, rfl⟩, h1, h2⟩
  · refine (MAdd_dup h n hn F hF m hm hq hx hs).mono ?_
    rintro e w' ⟨rfl, h1, h2⟩
    rw [if_pos rfl]
    exact ⟨⟨_, rfl⟩, h1.more (by omega), h2.mono (fun _ _ h => h.elim)⟩
theorem addH_ne (H : Nat → List Mk) (n : Nat) (m : Mk) {i : Nat} (h : i ≠ n) : addH H n m i = H i := by
  unfold addH
  split
  · rfl
  · unfold updH; rw [if_neg h]
theorem addH_mem {H : Nat → List Mk} {n i : Nat} {m x : Mk} (h : x ∈ addH H n m i) : x ∈ H i ∨ i = n ∧ x = m := by
  unfold addH at h
  split at h
  · exact .inl h
  · unfold updH at h
    split at h
    · rename_i e
      subst e
      rcases (insS_mem m x _).1 (List.mem_of_mem_take h) with e2 | e2
      · exact .inr ⟨rfl, e2⟩
      · exact .inl e2
    · exact .inl h
end Go.Proofs.Ytiffhkhmkigolaa
