/- Images: what a frame is, in plain lists; rows of one's own out of a block. -/
import Derived.Test.YtnlmabdbpjbhoaaSum
namespace Go.Proofs.Ytnlmabdbpjbhoaa
open Go.RowKit Go.ChangeShapes
set_option linter.unusedVariables false
set_option linter.unusedSimpArgs false
def frame0 (t : Int) (b : List Int) : List Int := be t 4 ++ be (b.length : Int) 4 ++ b
def frame (t : Int) (b : List Int) : List Int := frame0 t b ++ be (sFrom 14695981039346656037 (frame0 t b)) 8
theorem frame0_len (t : Int) (b : List Int) : (frame0 t b).length = b.length + 8 := by simp [frame0, be_len]; omega
theorem frame_len (t : Int) (b : List Int) : (frame t b).length = b.length + 16 := by simp [frame, frame0_len, be_len]
/-- What an area tells: turn and image. -/
def parse (x : List Int) : Option (Int × List Int) :=
  if x.length < 16 then none else if vOf ((x.drop 4).take 4) ≠ (x.length : Int) - 16 then none else
    if vOf (x.drop (x.length - 8)) ≠ sFrom 14695981039346656037 (x.take (x.length - 8)) then none else some (vOf (x.take 4), (x.drop 8).take (x.length - 16))
theorem bts_be (n : Int) (m : Nat) : Bts (be n m) := by
  intro x hx
  simp only [be, List.mem_map] at hx
  obtain ⟨j, _, rfl⟩ := hx
  omega
theorem bts_app {x y : List Int} (hx : Bts x) (hy : Bts y) : Bts (x ++ y) := fun n hn => (List.mem_append.1 hn).elim (hx n) (hy n)
theorem bts_frame0 (t : Int) {b : List Int} (hb : Bts b) : Bts (frame0 t b) := bts_app (bts_app (bts_be _ _) (bts_be _ _)) hb
theorem parse_frame (t : Int) (b : List Int) (h0 : 0 ≤ t) (h1 : t < 4294967296) (hb : Bts b) (hl : b.length < 4294967296) : parse (frame t b) = some (t, b) := by
  have hS := range_sFrom (frame0 t b) (bts_frame0 t hb) 14695981039346656037 (by omega)
  have e1 : frame t b = be t 4 ++ (be (b.length : Int) 4 ++ (b ++ be (sFrom 14695981039346656037 (frame0 t b)) 8)) := by simp [frame, frame0, List.append_assoc]
  have d4 : (frame t b).drop 4 = be (b.length : Int) 4 ++ (b ++ be (sFrom 14695981039346656037 (frame0 t b)) 8) := by rw [e1, List.drop_left' (be_len _ _)]
  have t4 : (frame t b).take 4 = be t 4 := by rw [e1, List.take_left' (be_len _ _)]
  have t44 : ((frame t b).drop 4).take 4 = be (b.length : Int) 4 := by rw [d4, List.take_left' (be_len _ _)]
  have d8 : (frame t b).drop 8 = b ++ be (sFrom 14695981039346656037 (frame0 t b)) 8 := by
    rw [show 8 = 4 + 4 from rfl, ← List.drop_drop, d4, List.drop_left' (be_len _ _)]
  have hn : (frame t b).length - 8 = (frame0 t b).length := by rw [frame_len, frame0_len]; omega
  have dn : (frame t b).drop ((frame t b).length - 8) = be (sFrom 14695981039346656037 (frame0 t b)) 8 := by rw [hn]; exact List.drop_left' rfl
  have tn : (frame t b).take ((frame t b).length - 8) = frame0 t b := by rw [hn]; exact List.take_left' rfl
  unfold parse
  rw [t44, dn, tn, t4, d8, vOf_be4 _ (by omega) (by omega), vOf_be8 _ hS.1 hS.2, vOf_be4 _ h0 h1, frame_len]
  rw [if_neg (by omega), if_neg (by simp), if_neg (by simp), Nat.add_sub_cancel, List.take_left' rfl]
theorem OwnB.of_blk {w : World} {g : Nat} {x : List Int} {A : Nat → Prop} (h : Blk w g (byt x) TU8) (hA : ¬ A g) (hl : x.length ≤ 281474976710656) (hw : ∀ n ∈ x, (Lit.int .u8 n).wf = true) : OwnB w A (.slice (some ⟨g, 0, none⟩) x.length x.length) x := by
  refine ⟨⟨by simp, .inr ⟨g, x.length, (byt x).toArray, rfl, Nat.zero_le _, h, Nat.le_refl _, by simp only [maxLen]; omega, by simp, ?_⟩⟩, fun k hk => ?_, hw⟩
  · exact List.take_of_length_le (by simp)
  · simp [Value.ownBlock] at hk; subst hk; exact hA
end Go.Proofs.Ytnlmabdbpjbhoaa
