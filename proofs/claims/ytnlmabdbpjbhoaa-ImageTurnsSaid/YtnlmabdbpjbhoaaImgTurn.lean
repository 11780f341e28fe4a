/- Images written in turn: the disk behind k saves. -/
import Derived.Test.YtnlmabdbpjbhoaaImgMore
import Derived.Test.YtnlmabdbpjbhoaaSlInts
import Derived.Test.YtnlmabdbpjbhoaaHeld
namespace Go.Proofs.Ytnlmabdbpjbhoaa
open Go.RowKit Go.ChangeShapes
set_option linter.unusedVariables false
set_option linter.unusedSimpArgs false
/-- Behind k saves: p was the last, q the one ahead of it. -/
def Turned (k : Nat) (p q x0 x1 : List Int) : Prop :=
  k = 0 ∧ x0 = [] ∧ x1 = [] ∨ k % 2 = 1 ∧ parse x0 = some ((k : Int), p) ∧ (k = 1 ∧ x1 = [] ∨ 2 ≤ k ∧ parse x1 = some ((k : Int) - 1, q)) ∨
    k % 2 = 0 ∧ 2 ≤ k ∧ parse x1 = some ((k : Int), p) ∧ parse x0 = some ((k : Int) - 1, q)
def TDk (w : World) (b k : Nat) (p q : List Int) : Prop := ∃ x0 x1, IsDk w b x0 x1 false 0 ∧ Turned k p q x0 x1
theorem TDk.frm {w w' : World} {b k : Nat} {p q : List Int} (h : TDk w b k p q) (f : Frm (fun _ => False) w w') : TDk w' b k p q := by
  obtain ⟨x0, x1, hd, ht⟩ := h
  exact ⟨x0, x1, hd.frm f, ht⟩
theorem TDk.img {k : Nat} {p q x0 x1 : List Int} (h : Turned k p q x0 x1) : k = 0 ∧ img x0 x1 = none ∨ 0 < k ∧ ∃ i, img x0 x1 = some (p, (k : Int), i) ∧ (k % 2 = 1 ∧ i = 0 ∨ k % 2 = 0 ∧ i = 1) := by
  rcases h with ⟨rfl, rfl, rfl⟩ | ⟨hk, h0, h1⟩ | ⟨hk, h2, h1, h0⟩
  · exact .inl ⟨rfl, img_nil⟩
  · refine .inr ⟨by omega, 0, ?_, .inl ⟨hk, rfl⟩⟩
    rcases h1 with ⟨rfl, rfl⟩ | ⟨_, h1⟩
    · exact img_of_sn h0 parse_nil
    · exact img_of_ss0 h0 h1 (by omega)
  · exact .inr ⟨by omega, 1, img_of_ss1 h0 h1 (by omega), .inr ⟨hk, rfl⟩⟩
theorem Save_T {w : World} {b k : Nat} {p q : List Int} (h : TDk w b k p q) (hk : k ≤ 100) {a : Option Addr} {c : Nat} {y : List Int} (hy : IsInts .u8 w a c y) (hl : y.length ≤ 40000) :
    Calls Try.prog 17 #[.pointer (some ⟨b, 0, none⟩), .slice a y.length c] w fun e w' => e = .returned (.int .i64 0) ∧ TDk w' b (k + 1) y p ∧ Frm (· = b) w w' := by
  obtain ⟨x0, x1, hd, ht⟩ := h
  have hb : Bts y := fun n hn => bounds_u8 (hy.wf n hn)
  have hpf := parse_frame ((k : Int) + 1) y (by omega) (by omega) hb (by omega)
  rcases TDk.img ht with ⟨rfl, hi⟩ | ⟨h0, i, hi, hik⟩
  · rcases ht with ⟨_, rfl, rfl⟩ | ⟨hk, _⟩ | ⟨_, h2, _⟩
    · refine (Save_nk hd hi hy hl).mono ?_
      rintro e w' ⟨rfl, h', f'⟩
      exact ⟨rfl, ⟨_, _, h', .inr (.inl ⟨rfl, hpf, .inl ⟨rfl, rfl⟩⟩)⟩, f'⟩
    · omega
    · omega
  · rcases hik with ⟨hp, rfl⟩ | ⟨hp, rfl⟩
    · refine (Save_0k hd _ _ hi (by omega) (by omega) hy hl).mono ?_
      rintro e w' ⟨rfl, h', f'⟩
      refine ⟨rfl, ⟨_, _, h', .inr (.inr ⟨by omega, by omega, ?_, ?_⟩)⟩, f'⟩
      · exact hpf
      · rcases ht with ⟨rfl, _⟩ | ⟨_, h0, _⟩ | ⟨hp', _⟩
        · omega
        · rw [h0]; congr 2; omega
        · omega
    · refine (Save_1k hd _ _ hi (by omega) (by omega) hy hl).mono ?_
      rintro e w' ⟨rfl, h', f'⟩
      refine ⟨rfl, ⟨_, _, h', .inr (.inl ⟨by omega, ?_, .inr ⟨by omega, ?_⟩⟩)⟩, f'⟩
      · exact hpf
      · rcases ht with ⟨rfl, _⟩ | ⟨hp', _⟩ | ⟨_, _, h1, _⟩
        · omega
        · omega
        · rw [h1]; congr 2; omega
theorem Turn_T {w : World} {b k : Nat} {p q : List Int} (h : TDk w b (k + 1) p q) (n : Int) (hn : (k : Int) + 1 = n) :
    Calls Try.prog 16 #[.pointer (some ⟨b, 0, none⟩)] w fun e w' => e = .returned (.int .u32 n) ∧ Frm (fun _ => False) w w' := by
  subst hn
  obtain ⟨x0, x1, hd, ht⟩ := h
  rcases TDk.img ht with ⟨h0, _⟩ | ⟨_, i, hi, _⟩
  · omega
  · exact Turn_some hd _ _ _ hi
theorem Read_T {w : World} {b : Nat} {x0 x1 : List Int} (hd : IsDk w b x0 x1 false 0) (i : Int) (x : List Int) (hx : arOf x0 x1 i = x) : Calls Try.prog 18 #[.pointer (some ⟨b, 0, none⟩), .int .i64 i] w fun e w' =>
    ∃ A c, e = .returned (.slice A x.length c) ∧ IsInts .u8 w' A c x ∧ Below w.heap.size w w' := by
  subst hx; exact Read_calls hd i
theorem Read_T0 {w : World} {b k : Nat} {p q : List Int} (h : TDk w b (k + 1) p q) (i : Int) (hi : i = (k : Int) % 2) (t : Int) (ht : (k : Int) + 1 = t) : Calls Try.prog 18 #[.pointer (some ⟨b, 0, none⟩), .int .i64 i] w fun e w' =>
    ∃ A c x, e = .returned (.slice A x.length c) ∧ IsInts .u8 w' A c x ∧ x.length ≤ 40040 ∧ parse x = some (t, p) ∧ Below w.heap.size w w' := by
  subst ht
  obtain ⟨x0, x1, hd, ht⟩ := h
  rcases ht with ⟨h0, _⟩ | ⟨hk, h0, _⟩ | ⟨hk, _, h1, _⟩
  · omega
  · obtain rfl : i = 0 := by omega
    refine (Read_T hd 0 x0 rfl).mono ?_
    rintro e w' ⟨A, c, rfl, hI, f'⟩
    exact ⟨A, c, x0, rfl, hI, hd.l0, h0, f'⟩
  · obtain rfl : i = 1 := by omega
    refine (Read_T hd 1 x1 rfl).mono ?_
    rintro e w' ⟨A, c, rfl, hI, f'⟩
    exact ⟨A, c, x1, rfl, hI, hd.l1, h1, f'⟩
theorem Read_T1 {w : World} {b k : Nat} {p q : List Int} (h : TDk w b (k + 1) p q) (hk0 : 0 < k) (i : Int) (hi : i = ((k : Int) + 1) % 2) : Calls Try.prog 18 #[.pointer (some ⟨b, 0, none⟩), .int .i64 i] w fun e w' =>
    ∃ A c x, e = .returned (.slice A x.length c) ∧ IsInts .u8 w' A c x ∧ x.length ≤ 40040 ∧ parse x = some ((k : Int), q) ∧ Below w.heap.size w w' := by
  obtain ⟨x0, x1, hd, ht⟩ := h
  rcases ht with ⟨h0, _⟩ | ⟨hk, _, h1⟩ | ⟨hk, _, _, h0⟩
  · omega
  · rcases h1 with ⟨h1, _⟩ | ⟨_, h1⟩
    · omega
    obtain rfl : i = 1 := by omega
    refine (Read_T hd 1 x1 rfl).mono ?_
    rintro e w' ⟨A, c, rfl, hI, f'⟩
    exact ⟨A, c, x1, rfl, hI, hd.l1, by rw [h1]; congr 2; omega, f'⟩
  · obtain rfl : i = 0 := by omega
    refine (Read_T hd 0 x0 rfl).mono ?_
    rintro e w' ⟨A, c, rfl, hI, f'⟩
    exact ⟨A, c, x0, rfl, hI, hd.l0, by rw [h0]; congr 2; omega, f'⟩
end Go.Proofs.Ytnlmabdbpjbhoaa
