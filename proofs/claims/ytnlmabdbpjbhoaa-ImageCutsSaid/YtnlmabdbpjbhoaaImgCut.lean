/- Images, some of which were cut off: the disk behind each save. -/
import Derived.Test.YtnlmabdbpjbhoaaImgMore
import Derived.Test.YtnlmabdbpjbhoaaSlInts
namespace Go.Proofs.Ytnlmabdbpjbhoaa
open Go.RowKit Go.ChangeShapes
set_option linter.unusedVariables false
set_option linter.unusedSimpArgs false
/-- Behind k saves: whether there is an image, and which. -/
def Kept (k : Nat) (s : Bool) (p x0 x1 : List Int) : Prop :=
  s = false ∧ parse x0 = none ∧ parse x1 = none ∨ s = true ∧ ∃ t i : Int, 0 ≤ t ∧ t ≤ k ∧ img x0 x1 = some (p, t, i) ∧ (i = 0 ∧ parse x0 = some (t, p) ∨ i = 1 ∧ parse x1 = some (t, p))
def SDk (w : World) (b k : Nat) (ar : Bool) (m : Int) (s : Bool) (p : List Int) : Prop := ∃ x0 x1 n, (ar = true → n = m) ∧ IsDk w b x0 x1 ar n ∧ Kept k s p x0 x1
theorem SDk.frm {w w' : World} {b k : Nat} {ar s : Bool} {m : Int} {p : List Int} (h : SDk w b k ar m s p) (f : Frm (fun _ => False) w w') : SDk w' b k ar m s p := by
  obtain ⟨x0, x1, n, hn, hd, ht⟩ := h
  exact ⟨x0, x1, n, hn, hd.frm f, ht⟩
theorem Arm_S {w : World} {b k : Nat} {s : Bool} {p : List Int} (h : SDk w b k false 0 s p) (m : Int) (hm : 0 ≤ m) :
    Calls Try.prog 19 #[.pointer (some ⟨b, 0, none⟩), .int .i64 m] w fun e w' => e = .returned (.tuple #[]) ∧ SDk w' b k true m s p ∧ Frm (· = b) w w' := by
  obtain ⟨x0, x1, n, _, hd, ht⟩ := h
  refine (Arm_calls hd m).mono ?_
  rintro e w' ⟨rfl, h', f'⟩
  exact ⟨rfl, ⟨x0, x1, _, fun _ => by omega, h', ht⟩, f'⟩
theorem kept_none {k : Nat} {p x0 x1 : List Int} (h : Kept k false p x0 x1) : parse x0 = none ∧ parse x1 = none := by
  rcases h with ⟨_, h⟩ | ⟨h, _⟩
  · exact h
  · cases h
theorem kept_some {k : Nat} {p x0 x1 : List Int} (h : Kept k true p x0 x1) : ∃ t i : Int, 0 ≤ t ∧ t ≤ k ∧ img x0 x1 = some (p, t, i) ∧ (i = 0 ∧ parse x0 = some (t, p) ∨ i = 1 ∧ parse x1 = some (t, p)) := by
  rcases h with ⟨h, _⟩ | ⟨_, h⟩
  · cases h
  · exact h
/-- What a save makes of both areas: one of these. -/
theorem kept_put0 {k : Nat} {p x0 x1 y z : List Int} {t : Int} (ht0 : 0 ≤ t) (htk : t ≤ k) (h1 : parse x1 = none ∨ parse x1 = some (t, p)) (hz : parse z = some (t + 1, y)) : Kept (k + 1) true y z x1 := by
  refine .inr ⟨rfl, t + 1, 0, by omega, by omega, ?_, .inl ⟨rfl, hz⟩⟩
  rcases h1 with h1 | h1
  · exact img_of_sn hz h1
  · exact img_of_ss0 hz h1 (by omega)
theorem kept_put1 {k : Nat} {p x0 x1 y z : List Int} {t : Int} (ht0 : 0 ≤ t) (htk : t ≤ k) (h0 : parse x0 = some (t, p)) (hz : parse z = some (t + 1, y)) : Kept (k + 1) true y x0 z :=
  .inr ⟨rfl, t + 1, 1, by omega, by omega, img_of_ss1 h0 hz (by omega), .inr ⟨rfl, hz⟩⟩
theorem Save_S {w : World} {b k : Nat} {s : Bool} {p : List Int} (h : SDk w b k false 0 s p) (hk : k ≤ 100) {a : Option Addr} {c : Nat} {y : List Int} (hy : IsInts .u8 w a c y) (hl : y.length ≤ 40000) :
    Calls Try.prog 17 #[.pointer (some ⟨b, 0, none⟩), .slice a y.length c] w fun e w' => e = .returned (.int .i64 0) ∧ SDk w' b (k + 1) false 0 true y ∧ Frm (· = b) w w' := by
  obtain ⟨x0, x1, n, _, hd, ht⟩ := h
  have hb : Bts y := fun n hn => bounds_u8 (hy.wf n hn)
  cases s
  · obtain ⟨h0, h1⟩ := kept_none ht
    refine (Save_nk hd (img_of_nn h0 h1) hy hl).mono ?_
    rintro e w' ⟨rfl, h', f'⟩
    exact ⟨rfl, ⟨_, _, _, (fun h => nomatch h), h', kept_put0 (p := p) (x0 := x0) (t := 0) (by omega) (by omega) (.inl h1) (parse_frame 1 y (by omega) (by omega) hb (by omega))⟩, f'⟩
  · obtain ⟨t, i, ht0, htk, hi, ⟨rfl, h0⟩ | ⟨rfl, h1⟩⟩ := kept_some ht
    · refine (Save_0k hd _ _ hi ht0 (by omega) hy hl).mono ?_
      rintro e w' ⟨rfl, h', f'⟩
      exact ⟨rfl, ⟨_, _, _, (fun h => nomatch h), h', kept_put1 (p := p) (x1 := x1) ht0 htk h0 (parse_frame _ y (by omega) (by omega) hb (by omega))⟩, f'⟩
    · refine (Save_1k hd _ _ hi ht0 (by omega) hy hl).mono ?_
      rintro e w' ⟨rfl, h', f'⟩
      exact ⟨rfl, ⟨_, _, _, (fun h => nomatch h), h', kept_put0 (p := p) (x0 := x0) ht0 htk (.inr h1) (parse_frame _ y (by omega) (by omega) hb (by omega))⟩, f'⟩
/-- The power fails, but behind the last byte. -/
theorem Save_SW {w : World} {b k : Nat} {s : Bool} {p : List Int} {m : Int} (h : SDk w b k true m s p) (hk : k ≤ 100) {a : Option Addr} {c : Nat} {y : List Int} (hy : IsInts .u8 w a c y) (hl : y.length ≤ 40000) (hm : (y.length : Int) + 16 ≤ m) :
    Calls Try.prog 17 #[.pointer (some ⟨b, 0, none⟩), .slice a y.length c] w fun e w' => e = .returned (.int .i64 70) ∧ SDk w' b (k + 1) false 0 true y ∧ Frm (· = b) w w' := by
  obtain ⟨x0, x1, n, hn, hd, ht⟩ := h
  obtain rfl := hn rfl
  have hb : Bts y := fun n hn => bounds_u8 (hy.wf n hn)
  have hall : ∀ t, (frame t y).take (y.length + 16) = frame t y := fun t => List.take_of_length_le (by rw [frame_len]; omega)
  have hmin : ∀ t, y.length + 16 = min (frame t y).length n.toNat := fun t => by rw [frame_len]; omega
  cases s
  · obtain ⟨h0, h1⟩ := kept_none ht
    refine (Save_nc hd (img_of_nn h0 h1) hy hl _ (hmin 1)).mono ?_
    rintro e w' ⟨rfl, h', f'⟩
    rw [hall] at h'
    exact ⟨rfl, ⟨_, _, _, (fun h => nomatch h), h', kept_put0 (p := p) (x0 := x0) (t := 0) (by omega) (by omega) (.inl h1) (parse_frame 1 y (by omega) (by omega) hb (by omega))⟩, f'⟩
  · obtain ⟨t, i, ht0, htk, hi, ⟨rfl, h0⟩ | ⟨rfl, h1⟩⟩ := kept_some ht
    · refine (Save_0c hd _ _ hi ht0 (by omega) hy hl _ (hmin (t + 1))).mono ?_
      rintro e w' ⟨rfl, h', f'⟩
      rw [hall] at h'
      exact ⟨rfl, ⟨_, _, _, (fun h => nomatch h), h', kept_put1 (p := p) (x1 := x1) ht0 htk h0 (parse_frame _ y (by omega) (by omega) hb (by omega))⟩, f'⟩
    · refine (Save_1c hd _ _ hi ht0 (by omega) hy hl _ (hmin (t + 1))).mono ?_
      rintro e w' ⟨rfl, h', f'⟩
      rw [hall] at h'
      exact ⟨rfl, ⟨_, _, _, (fun h => nomatch h), h', kept_put0 (p := p) (x0 := x0) ht0 htk (.inr h1) (parse_frame _ y (by omega) (by omega) hb (by omega))⟩, f'⟩
/-- The power fails ahead of the last byte. -/
theorem Save_SC {w : World} {b k : Nat} {s : Bool} {p : List Int} {m : Int} (h : SDk w b k true m s p) (hk : k ≤ 100) {a : Option Addr} {c : Nat} {y : List Int} (hy : IsInts .u8 w a c y) (hl : y.length ≤ 40000) (h0m : 0 ≤ m) (hm : m < (y.length : Int) + 16) :
    Calls Try.prog 17 #[.pointer (some ⟨b, 0, none⟩), .slice a y.length c] w fun e w' => e = .returned (.int .i64 70) ∧ SDk w' b (k + 1) false 0 s p ∧ Frm (· = b) w w' := by
  obtain ⟨x0, x1, n, hn, hd, ht⟩ := h
  obtain rfl := hn rfl
  have hmin : ∀ t, n.toNat = min (frame t y).length n.toNat := fun t => by rw [frame_len]; omega
  have hcut : ∀ t, parse ((frame t y).take n.toNat) = none := fun t => parse_cut t y (by omega) _ (by omega)
  cases s
  · obtain ⟨h0, h1⟩ := kept_none ht
    refine (Save_nc hd (img_of_nn h0 h1) hy hl _ (hmin 1)).mono ?_
    rintro e w' ⟨rfl, h', f'⟩
    exact ⟨rfl, ⟨_, _, _, (fun h => nomatch h), h', .inl ⟨rfl, hcut 1, h1⟩⟩, f'⟩
  · obtain ⟨t, i, ht0, htk, hi, ⟨rfl, h0⟩ | ⟨rfl, h1⟩⟩ := kept_some ht
    · refine (Save_0c hd _ _ hi ht0 (by omega) hy hl _ (hmin (t + 1))).mono ?_
      rintro e w' ⟨rfl, h', f'⟩
      exact ⟨rfl, ⟨_, _, _, (fun h => nomatch h), h', .inr ⟨rfl, t, 0, ht0, by omega, img_of_sn h0 (hcut _), .inl ⟨rfl, h0⟩⟩⟩, f'⟩
    · refine (Save_1c hd _ _ hi ht0 (by omega) hy hl _ (hmin (t + 1))).mono ?_
      rintro e w' ⟨rfl, h', f'⟩
      exact ⟨rfl, ⟨_, _, _, (fun h => nomatch h), h', .inr ⟨rfl, t, 1, ht0, by omega, img_of_ns (hcut _) h1, .inr ⟨rfl, h1⟩⟩⟩, f'⟩
theorem Load_Sn {w : World} {b k : Nat} {p : List Int} (h : SDk w b k false 0 false p) :
    Calls Try.prog 15 #[.pointer (some ⟨b, 0, none⟩)] w fun e w' => e = .returned (.tuple #[.slice none 0 0, .int .i64 80]) ∧ Frm (fun _ => False) w w' := by
  obtain ⟨x0, x1, n, hn, hd, ht⟩ := h
  obtain ⟨h0, h1⟩ := kept_none ht
  exact Load_none hd (img_of_nn h0 h1)
theorem Load_Ss {w : World} {b k : Nat} {p : List Int} (h : SDk w b k false 0 true p) :
    Calls Try.prog 15 #[.pointer (some ⟨b, 0, none⟩)] w fun e w' => ∃ g, e = .returned (.tuple #[.slice (some ⟨g, 0, none⟩) p.length p.length, .int .i64 0]) ∧ w.heap.size ≤ g ∧ IsInts .u8 w' (some ⟨g, 0, none⟩) p.length p ∧ Frm (fun _ => False) w w' := by
  obtain ⟨x0, x1, n, hn, hd, ht⟩ := h
  obtain ⟨t, i, _, _, hi, _⟩ := kept_some ht
  exact Load_some hd _ _ _ hi
end Go.Proofs.Ytnlmabdbpjbhoaa
