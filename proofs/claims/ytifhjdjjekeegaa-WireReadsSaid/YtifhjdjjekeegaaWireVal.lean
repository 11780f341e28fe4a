/- What is read back of what is written: plain numbers; bytes as strings; known. -/
import Derived.Test.YtifhjdjjekeegaaWireRb
import Derived.Laws.BytesArg
import Derived.Laws.BitsLemmas
namespace Go.Proofs.Ytifhjdjjekeegaa
open Go.RowKit Go.ChangeShapes
set_option linter.unusedVariables false
set_option linter.unusedSimpArgs false
theorem IsInts.conv {w : World} {A : Option Addr} {c : Nat} {x : List Int} (h : IsInts .u8 w A c x) :
    (convert 25 9 (.slice A x.length c)).run Try.prog w = .ok (.string (strOfNums x)) w := by
  cases A with
  | none =>
    have h0 : x.length = 0 := by
      rcases Nat.eq_zero_or_pos x.length with e | e
      · exact e
      · obtain ⟨_, _, hh, _⟩ := h.at_ (by omega)
        cases hh
    obtain rfl : x = [] := List.eq_nil_of_length_eq_zero h0
    exact run_convert_bytes_nil w 25 5 Try.underlying25 Try.underlying5 _ _ _ Try.underlying9
  | some p =>
    rcases Nat.eq_zero_or_pos x.length with e | e
    · obtain rfl : x = [] := List.eq_nil_of_length_eq_zero e
      obtain ⟨pb, po, ps⟩ := p
      rw [run_convert_bytes_string w 25 9 5 _ _ _ Try.underlying25 Try.underlying5 Try.underlying9]
      exact run_bytesToString w _ 0 c [] (by simpa using run_loadCells_list (P := Try.prog) w ⟨pb, po, ps⟩ [] (by simp))
    · obtain ⟨g, off, hh, _, hc⟩ := h.at_ (by omega)
      cases hh
      exact run_convert_bytes_arg w 25 5 Try.underlying25 Try.underlying5 g off x.length c x rfl hc _ Try.underlying9
theorem conv_of {w : World} {A : Option Addr} {c l : Nat} {x : List Int} (h : IsInts .u8 w A c x) (hl : x.length = l) : (convert 25 9 (.slice A l c)).run Try.prog w = .ok (.string (strOfNums x)) w := by
  subst hl; exact h.conv
theorem frm0_of {w w' : World} (f : Below w.heap.size w w') : Frm (fun _ => False) w w' := Frm.of_below f (fun k hk hk' => absurd (Nat.lt_of_lt_of_le hk hk') (Nat.lt_irrefl _))
/-- An argument's block is an old one. (The address of nothing may be anything: there it is not said.) -/
theorem IsInts.cell {w : World} {g c : Nat} {x : List Int} (h : IsInts .u8 w (some ⟨g, 0, none⟩) c x) (i : Nat) (v : Int) (hv : x[i]? = some v) : w.cell? ⟨g, i, none⟩ = some (.int .u8 v) := by
  obtain ⟨hi, he⟩ := List.getElem?_eq_some_iff.1 hv
  obtain ⟨g', off, e, _, hc⟩ := h.at_ (by omega)
  cases e
  have := hc i hi
  rw [Nat.zero_add, List.getD_eq_getElem?_getD, hv] at this
  exact this

theorem wrap64u (n : Int) : IntKind.u64.wrap n = n % 18446744073709551616 := by simp [IntKind.wrap, IntKind.bits, IntKind.signed]
theorem wrapsu (n : Int) (h₀ : 0 ≤ n) (h₁ : n < 2 ^ 64) : IntKind.u64.wrap n = n := by rw [wrap64u]; omega
theorem vStep_eq (n c : Int) (h0 : 0 ≤ n) (h1 : n < 72057594037927936) (c0 : 0 ≤ c) (c1 : c ≤ 255) : vStep n c = n * 256 + c := by
  unfold vStep
  rw [wrapsu (n * 256) (by omega) (by omega), wrapsu c c0 (by omega)]
  exact bits_join .u64 64 (by decide) wrapsu 8 (n * 256) c (by omega) (by omega) (by omega) c0 (by omega) (by omega)
theorem vOf_be2 (n : Int) (h0 : 0 ≤ n) (h1 : n < 65536) : vOf (be n 2) = n := by
  show vStep (vStep 0 (n / 256 % 256)) (n / 1 % 256) = n
  rw [vStep_eq 0 _ (by omega) (by omega) (by omega) (by omega), vStep_eq _ _ (by omega) (by omega) (by omega) (by omega)]
  omega
theorem vOf_be4 (n : Int) (h0 : 0 ≤ n) (h1 : n < 4294967296) : vOf (be n 4) = n := by
  show vStep (vStep (vStep (vStep 0 (n / 16777216 % 256)) (n / 65536 % 256)) (n / 256 % 256)) (n / 1 % 256) = n
  obtain ⟨a, ha⟩ : ∃ a, a = vStep 0 (n / 16777216 % 256) := ⟨_, rfl⟩
  rw [← ha]
  rw [vStep_eq 0 _ (by omega) (by omega) (by omega) (by omega)] at ha
  rw [vStep_eq a _ (by omega) (by omega) (by omega) (by omega)]
  obtain ⟨c, hc⟩ : ∃ c, c = a * 256 + n / 65536 % 256 := ⟨_, rfl⟩
  rw [← hc, vStep_eq c _ (by omega) (by omega) (by omega) (by omega), vStep_eq _ _ (by omega) (by omega) (by omega) (by omega)]
  omega
theorem vOf_be1 (n : Int) (h0 : 0 ≤ n) (h1 : n < 256) : vOf (be n 1) = n := by
  show vStep 0 (n / 1 % 256) = n
  rw [vStep_eq 0 _ (by omega) (by omega) (by omega) (by omega)]
  omega
theorem below_A {w a c : World} (h : Below w.heap.size w a) (f : Frm (fun k => ¬ k < w.heap.size) a c) : Below w.heap.size w c := below_frm h f (fun k hk hn => hn hk)
theorem hA_of {w a : World} (h : Below w.heap.size w a) : ∀ k, k < w.heap.size → k < a.heap.size := fun k hk => Nat.lt_of_lt_of_le hk h.size
theorem IsInts.nil (w : World) (k : IntKind) : IsInts k w none 0 [] := ⟨Nat.le_refl _, by omega, fun h => absurd rfl h, fun _ h => by cases h⟩
theorem WBytes7 {w w0 : World} {b : Nat} {x : List Int} (h : IsWr w b (fun k => k < w0.heap.size) x) (hA : ∀ k, k < w0.heap.size → k < w.heap.size) (hl : x.length = 2) : Calls Try.prog 15 #[.pointer (some ⟨b, 0, none⟩), .slice (some ⟨w.heap.size, 0, none⟩) 1 1]
    (w.alloc (.cells #[.int .u8 7] 5)) fun e w' => e = .returned (.tuple #[]) ∧ IsWr w' b (fun k => k < w0.heap.size) (x ++ be 1 2 ++ [7]) ∧ Frm (fun k => ¬ k < w0.heap.size) w w' := by
  have f0 : Frm (fun _ => False) w (w.alloc (.cells #[.int .u8 7] 5)) := (Frm.refl _ _).alloc _
  have h1 : IsWr (w.alloc (.cells #[.int .u8 7] 5)) b (fun k => k < w0.heap.size ∨ k = w.heap.size) x := h.more f0 (fun k hk => hk.imp id (fun e => by omega)) h.lt
  have hi := one_ints w 7 5 (by decide)
  refine (WBytes_calls h1 (fun k hk => by rcases hk with hk | hk; have := hA k hk; simp; omega; simp; omega) hi (fun w' f => hi.frm f (fun p hp hn => hn (by cases hp; exact .inr rfl))) (by decide) (by omega)).mono ?_
  rintro e w' ⟨rfl, h', f'⟩
  exact ⟨rfl, h'.less (fun k hk => .inl hk), (Frm0.any f0).trans' f' (fun k _ hk hk2 => hk (.inl hk2))⟩
set_option maxHeartbeats 2000000 in
theorem known_calls (w : World) : Calls Try.prog 8 #[] w fun e w' => e = .returned (.bool true) ∧ Below w.heap.size w w' := by
  have hst : (strOfNums ([] ++ be 258 2 ++ be 1 2 ++ [7])).toList = [1, 2, 0, 1, 7] := by kernel_rfl
  have hst2 : decide (strOfNums ([] ++ be 258 2 ++ be 1 2 ++ [7]) = (⟨#[1, 2, 0, 1, 7]⟩ : ByteArray)) = true := by kernel_rfl
  have hst3 : (strOfNums ([] ++ be 258 2 ++ be 1 2 ++ [7]) == (⟨#[1, 2, 0, 1, 7]⟩ : ByteArray)) = true := by kernel_rfl
  go_enter Try.func8, Try.ntmps8
  go_wp2_with (first
          | (go_at_call 9; (with_reducible refine (WNew_calls _ (fun k => k < w.heap.size) (fun k hk => hk)).mono ?_); rintro e w' ⟨rfl, h', f'⟩; have HF := hid f'; have HW := hid h'; clear h' f')
          | (go_at_call 12; (with_reducible refine (WU16_calls HW.out (hA_of HF.out) 258 (by decide) (by decide) (by decide)).mono ?_); rintro e w' ⟨rfl, h', f'⟩; have nF := hid (below_A HF.out f'); clear HF HW f'; have HF := nF; have HW := hid h'; clear h' nF)
          | (go_at_call 15; (with_reducible refine (WBytes7 HW.out (hA_of HF.out) (by simp [be_len])).mono ?_); rintro e w' ⟨rfl, h', f'⟩; have nF := hid (below_A HF.out f'); clear HF HW f'; have HF := nF; have HW := hid h'; clear h' nF)
          | (go_at_call 16; (with_reducible refine (Open_calls (x := []) (m := 0) (IsInts.nil _ _) rfl (by decide)).mono ?_); rintro e w' ⟨b', hb', rfl, hR, f'⟩; have nF := hid (below_next HF.out f'); have nW := hid (HW.out.quiet (frm0_of f')); clear HF HW f'; have HF := nF; have HW := nW; clear nF nW; have HR := hid hR; clear hR)
          | (go_at_call 19; (with_reducible refine (RU8_short HR.out (by decide)).mono ?_); rintro e w' ⟨rfl, rfl⟩)
          | (go_at_call 11; (with_reducible refine (WAll_calls HW.out (by first | (simp [be_len]; done) | (simp [be_len]; omega)) 5 (by simp [be_len])).mono ?_); rintro e w' ⟨rfl, hI, f'⟩; have nF := hid (below_next HF.out f'); have nW := hid (HW.out.quiet (frm0_of f')); clear HF HW f'; have HF := nF; have HW := nW; clear nF nW; have HI := hid hI; clear hI; have hcv := conv_of (l := 5) HI.out (by simp [be_len])))
  go_ret
  exact ⟨rfl, HF.out⟩
end Go.Proofs.Ytifhjdjjekeegaa
