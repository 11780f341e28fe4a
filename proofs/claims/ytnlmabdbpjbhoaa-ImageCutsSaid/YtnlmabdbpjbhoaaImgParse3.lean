/- Parse, told by what an area is. -/
import Derived.Test.YtnlmabdbpjbhoaaImgParse2
namespace Go.Proofs.Ytnlmabdbpjbhoaa
open Go.RowKit Go.ChangeShapes
set_option linter.unusedVariables false
set_option linter.unusedSimpArgs false
theorem Parse_none {w : World} {a : Option Addr} {c : Nat} {x : List Int} (hx : IsInts .u8 w a c x) (hl : x.length ≤ 40040) (n : Nat) (hn : x.length = n) (hp : parse x = none) :
    Calls Try.prog 9 #[.slice a n c] w fun e w' => e = .returned (.tuple #[.int .u32 0, .slice none 0 0, .bool false]) ∧ Frm (fun _ => False) w w' := by
  subst hn
  by_cases h16 : x.length < 16
  · refine Parse_len hx hl ?_
    by_cases h8 : x.length < 8
    · exact .inl h8
    · refine .inr ?_
      have := vOf_take_bound (x.drop 4) (fun n h => hx.wf n (List.mem_of_mem_drop h)) 4 (by decide) (by rw [List.length_drop]; omega)
      omega
  · by_cases hs : vOf ((x.drop 4).take 4) + 16 = (x.length : Int)
    · by_cases hv : vOf (x.drop (x.length - 8)) = sFrom 14695981039346656037 (x.take (x.length - 8))
      · unfold parse at hp
        rw [if_neg h16, if_neg (by omega), if_neg (by simpa using hv)] at hp
        cases hp
      · exact Parse_sum hx hl (by omega) hs _ _ _ rfl rfl rfl hv
    · exact Parse_len hx hl (.inr hs)
theorem Parse_some {w : World} {a : Option Addr} {c : Nat} {x : List Int} (hx : IsInts .u8 w a c x) (hl : x.length ≤ 40040) (n : Nat) (hn : x.length = n) (t : Int) (b : List Int) (hp : parse x = some (t, b)) :
    Calls Try.prog 9 #[.slice a n c] w fun e w' => ∃ gb, e = .returned (.tuple #[.int .u32 t, .slice (some ⟨gb, 0, none⟩) b.length b.length, .bool true]) ∧ w.heap.size ≤ gb ∧ IsInts .u8 w' (some ⟨gb, 0, none⟩) b.length b ∧ Frm (fun _ => False) w w' := by
  subst hn
  unfold parse at hp
  by_cases h16 : x.length < 16
  · rw [if_pos h16] at hp; cases hp
  rw [if_neg h16] at hp
  by_cases hs : vOf ((x.drop 4).take 4) ≠ (x.length : Int) - 16
  · rw [if_pos hs] at hp; cases hp
  rw [if_neg hs] at hp
  by_cases hv : vOf (x.drop (x.length - 8)) ≠ sFrom 14695981039346656037 (x.take (x.length - 8))
  · rw [if_pos hv] at hp; cases hp
  rw [if_neg hv] at hp
  obtain ⟨rfl, rfl⟩ := Prod.mk.inj (Option.some.inj hp)
  have hbl : ((x.drop 8).take (x.length - 16)).length = x.length - 16 := by rw [List.length_take, List.length_drop]; omega
  have h := Parse_ok hx hl (by omega) (by omega) _ _ _ rfl rfl rfl (Decidable.not_not.1 hv)
  rw [hbl]
  exact h
end Go.Proofs.Ytnlmabdbpjbhoaa
