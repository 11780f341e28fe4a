/- The image of a disk: last, Load, Turn. -/
import Derived.Test.YtnlmabdbpjbhoaaImgLast
namespace Go.Proofs.Ytnlmabdbpjbhoaa
open Go.RowKit Go.ChangeShapes
set_option linter.unusedVariables false
set_option linter.unusedSimpArgs false
/-- Image, turn, area. -/
def img (x0 x1 : List Int) : Option (List Int × Int × Int) :=
  match parse x0, parse x1 with
  | none, none => none
  | some (t, b), none => some (b, t, 0)
  | none, some (u, c) => some (c, u, 1)
  | some (t, b), some (u, c) => if t < u then some (c, u, 1) else some (b, t, 0)
theorem Last_none {w : World} {b : Nat} {x0 x1 : List Int} {ar : Bool} {n : Int} (h : IsDk w b x0 x1 ar n) (hi : img x0 x1 = none) :
    Calls Try.prog 33 #[.pointer (some ⟨b, 0, none⟩)] w fun e w' => e = .returned (.tuple #[.slice none 0 0, .int .u32 0, .int .i64 (-1)]) ∧ Frm (fun _ => False) w w' := by
  unfold img at hi
  split at hi
  · exact last_nn h (by assumption) (by assumption)
  · cases hi
  · cases hi
  · split at hi <;> cases hi
theorem Last_some {w : World} {b : Nat} {x0 x1 : List Int} {ar : Bool} {n : Int} (h : IsDk w b x0 x1 ar n) (bs : List Int) (t i : Int) (hi : img x0 x1 = some (bs, t, i)) :
    Calls Try.prog 33 #[.pointer (some ⟨b, 0, none⟩)] w fun e w' => ∃ g, e = .returned (.tuple #[.slice (some ⟨g, 0, none⟩) bs.length bs.length, .int .u32 t, .int .i64 i]) ∧ w.heap.size ≤ g ∧ IsInts .u8 w' (some ⟨g, 0, none⟩) bs.length bs ∧ Frm (fun _ => False) w w' := by
  unfold img at hi
  split at hi
  · cases hi
  · cases hi; exact last_sn h _ _ (by assumption) (by assumption)
  · cases hi; exact last_ns h (by assumption) _ _ (by assumption)
  · split at hi
    · cases hi; exact last_ss1 h _ _ (by assumption) _ _ (by assumption) (by assumption)
    · cases hi; exact last_ss0 h _ _ (by assumption) _ _ (by assumption) (by omega)
theorem img_area {x0 x1 bs : List Int} {t i : Int} (hi : img x0 x1 = some (bs, t, i)) : i = 0 ∨ i = 1 := by
  unfold img at hi
  split at hi
  · cases hi
  · cases hi; exact .inl rfl
  · cases hi; exact .inr rfl
  · split at hi <;> cases hi
    · exact .inr rfl
    · exact .inl rfl
theorem Load_none {w : World} {b : Nat} {x0 x1 : List Int} {ar : Bool} {n : Int} (h : IsDk w b x0 x1 ar n) (hi : img x0 x1 = none) :
    Calls Try.prog 15 #[.pointer (some ⟨b, 0, none⟩)] w fun e w' => e = .returned (.tuple #[.slice none 0 0, .int .i64 80]) ∧ Frm (fun _ => False) w w' := by
  go_enter Try.func15, Try.ntmps15
  go_wp2_with (go_at_call 33; (with_reducible refine (Last_none h hi).mono ?_); rintro e w' ⟨rfl, f'⟩)
  go_ret2
  exact ⟨rfl, f'⟩
theorem Load_some {w : World} {b : Nat} {x0 x1 : List Int} {ar : Bool} {n : Int} (h : IsDk w b x0 x1 ar n) (bs : List Int) (t i : Int) (hi : img x0 x1 = some (bs, t, i)) :
    Calls Try.prog 15 #[.pointer (some ⟨b, 0, none⟩)] w fun e w' => ∃ g, e = .returned (.tuple #[.slice (some ⟨g, 0, none⟩) bs.length bs.length, .int .i64 0]) ∧ w.heap.size ≤ g ∧ IsInts .u8 w' (some ⟨g, 0, none⟩) bs.length bs ∧ Frm (fun _ => False) w w' := by
  have hi2 := hid hi
  rcases img_area hi with rfl | rfl
  all_goals
    clear hi
    go_enter Try.func15, Try.ntmps15
    go_wp2_with (go_at_call 33; (with_reducible refine (Last_some h bs t _ hi2.out).mono ?_); rintro e w' ⟨g, rfl, hg, hB, f'⟩)
    go_ret2
    exact ⟨_, rfl, hg, hB, f'⟩
theorem Turn_none {w : World} {b : Nat} {x0 x1 : List Int} {ar : Bool} {n : Int} (h : IsDk w b x0 x1 ar n) (hi : img x0 x1 = none) :
    Calls Try.prog 16 #[.pointer (some ⟨b, 0, none⟩)] w fun e w' => e = .returned (.int .u32 0) ∧ Frm (fun _ => False) w w' := by
  go_enter Try.func16, Try.ntmps16
  go_wp2_with (go_at_call 33; (with_reducible refine (Last_none h hi).mono ?_); rintro e w' ⟨rfl, f'⟩)
  go_ret
  exact ⟨rfl, f'⟩
theorem Turn_some {w : World} {b : Nat} {x0 x1 : List Int} {ar : Bool} {n : Int} (h : IsDk w b x0 x1 ar n) (bs : List Int) (t i : Int) (hi : img x0 x1 = some (bs, t, i)) :
    Calls Try.prog 16 #[.pointer (some ⟨b, 0, none⟩)] w fun e w' => e = .returned (.int .u32 t) ∧ Frm (fun _ => False) w w' := by
  go_enter Try.func16, Try.ntmps16
  go_wp2_with (go_at_call 33; (with_reducible refine (Last_some h bs t i hi).mono ?_); rintro e w' ⟨g, rfl, hg, hB, f'⟩)
  go_ret
  exact ⟨rfl, f'⟩
end Go.Proofs.Ytnlmabdbpjbhoaa
