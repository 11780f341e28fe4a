/- The disk's methods. -/
import Derived.Test.YtnlmabdbpjbhoaaBytes
import Derived.Deep.QuietTactic
import Derived.BigQuiet
namespace Go.Proofs.Ytnlmabdbpjbhoaa
open Go.RowKit Go.ChangeShapes
set_option linter.unusedVariables false
set_option linter.unusedSimpArgs false
set_option maxHeartbeats 2000000 in
theorem dcopied_calls (a : Option Addr) (c n : Nat) (zs : List Int) (w : World) (hn : zs.length = n) (h : IsInts .u8 w a c zs) (hb : zs.length ≤ 281474976710656) :
    Calls Try.prog 32 #[.slice a n c] w fun e w' => e = .returned (.slice (some ⟨w.heap.size, 0, none⟩) zs.length zs.length) ∧ Blk w' w.heap.size (byt zs) 5 ∧ Below w.heap.size w w' := by
  subst hn
  have hmk := run_make_row' (P := Try.prog) 23 5 (.int .u8 0) 1 Try.underlying23 u8_info rfl .i64 .i64 zs.length (by omega) (by omega)
  have hbl : Blk (w.alloc (.cells (madeCells #[.int .u8 0] zs.length) 5)) w.heap.size (madeCells #[.int .u8 0] zs.length).toList 5 := by
    have := Blk.new w (madeCells #[.int .u8 0] zs.length).toList 5
    simpa using this
  have hsrc : 0 < (byt zs).length → (some (⟨w.heap.size, 0, none⟩ : Addr)) = some ⟨w.heap.size, 0, none⟩ ∧ ∃ ad, a = some ad ∧ ∀ (j : Nat) v, (byt zs)[j]? = some v → (w.alloc (.cells (madeCells #[.int .u8 0] zs.length) 5)).cell? (ad.add j) = some v := by
    intro hp
    exact ⟨rfl, (h.below ((Below.refl _ _).alloc (Nat.le_refl _) _) (Nat.le_refl _)).cellsrc (by simpa using hp)⟩
  go_enter Try.func32, Try.ntmps32
  go_wp2_with (refine wpList_copy_splice rfl (.tmp 7) (.tmp 8) 23 23 rfl 5 Try.underlying23 u8_size _ _ _ _ _ _ rfl rfl w.heap.size 0 _ 5 hbl (byt zs) (by simp) hsrc (by rw [made_len, List.length_map]; omega) (byt_one zs) w.heap.size w ((Below.refl _ _).alloc (Nat.le_refl _) _) (Nat.le_refl _) ?_; intro w2 hg2 hb2)
  go_ret
  refine ⟨rfl, ?_, hb2⟩
  have hg2 := hg2.out
  rw [splice_all _ _ (by rw [made_len, List.length_map])] at hg2
  exact hg2
end Go.Proofs.Ytnlmabdbpjbhoaa
