/- Mix: the sum of two numbers' bytes. -/
import Derived.Test.YtknaalaajmhjgaaPut
import Derived.Test.YtknaalaajmhjgaaSum
namespace Go.Proofs.Ytknaalaajmhjgaa
open Go.RowKit Go.ChangeShapes
set_option maxRecDepth 20000
set_option linter.unusedVariables false
set_option linter.unusedSimpArgs false
def b8 (a : Int) : List Int := [a / 72057594037927936 % 256, a / 281474976710656 % 256, a / 1099511627776 % 256, a / 4294967296 % 256, a / 16777216 % 256, a / 65536 % 256, a / 256 % 256, a % 256]
def mixL (a b : Int) (k : Nat) : List Int := (b8 a).take k ++ List.replicate (8 - k) 0 ++ ((b8 b).take k ++ List.replicate (8 - k) 0)
theorem b8_wf (a : Int) : ∀ n ∈ b8 a, (Lit.int .u8 n).wf = true := by
  intro n hn
  simp only [b8, List.mem_cons, List.not_mem_nil, or_false] at hn
  rcases hn with rfl | rfl | rfl | rfl | rfl | rfl | rfl | rfl <;> exact wf8 _
set_option maxHeartbeats 2000000 in
theorem Mix_calls (a b : Int) (w : World) (S : Int) (hS : sFrom 14695981039346656037 (b8 a ++ b8 b) = S) : Calls Try.prog 35 #[.int .u64 a, .int .u64 b] w fun e w' =>
    e = .returned (.int .u64 S) ∧ Below w.heap.size w w' := by
  go_enter Try.func35, Try.ntmps35
  go_wp2
  generalize hwz : w.alloc (Obj.cells _ 82) = wz
  have h0 : Blk wz w.heap.size (byt (mixL a b 0)) 82 := hwz ▸ Blk.new w (byt (mixL a b 0)) 82
  have f0 : Below w.heap.size w wz := hwz ▸ (Below.refl _ _).alloc (Nat.le_refl _) _
  clear hwz
  generalize hg : w.heap.size = g at *
  go_loopw [7] (fun i wr => ∃ k : Nat, k ≤ 8 ∧ i = .int .i64 k ∧ Blk wr g (byt (mixL a b k)) 82 ∧ Below g w wr) (fun i _ => 8 - (intOf i).toNat)
  case atStart => exact ⟨0, by omega, rfl, h0, f0⟩
  case round =>
    clear h0 f0
    obtain ⟨k, hk, rfl, hbk, hf⟩ := hrel
    have c8 : k = 0 ∨ k = 1 ∨ k = 2 ∨ k = 3 ∨ k = 4 ∨ k = 5 ∨ k = 6 ∨ k = 7 ∨ k = 8 := by omega
    rcases c8 with rfl | rfl | rfl | rfl | rfl | rfl | rfl | rfl | rfl
    case inr.inr.inr.inr.inr.inr.inr.inr =>
      have HI := hid (IsInts.of_take (x := b8 a ++ b8 b) (cap := 16) (show Blk wr g (byt (b8 a ++ b8 b)) 82 from hbk) (List.take_of_length_le (by simp)) (show 16 ≤ 16 from Nat.le_refl _) (by decide) (fun n hn => by rcases List.mem_append.1 hn with h | h; exact b8_wf a n h; exact b8_wf b n h)); clear hbk
      have HF := hid hf; clear hf
      have hg' := hid hg; clear hg
      go_wp2_with (go_at_call 36; (with_reducible refine (Sum_calls HI.out _ (show (b8 a ++ b8 b).length = 16 from rfl) _ hS).mono ?_); rintro e w' ⟨rfl, rfl⟩)
      go_ret
      refine ⟨rfl, ?_⟩
      rw [hg'.out]; exact HF.out
    · have q0 := hbk.cell 0
      have q1 := hbk.cell 8
      have z0 := hbk.free 0
      have z1 := hbk.free 8
      simp only [byt, mixL, b8, List.take, List.replicate, List.map_cons, List.map_nil, List.cons_append, List.nil_append, List.getElem?_cons_succ, List.getElem?_cons_zero] at q0 q1
      have HB := hid hbk; clear hbk
      go_wp2
      go_roundw
      case rel => exact ⟨1, by omega, by go_num, (HB.out.setCell 0 _).setCell 8 _, (hf.setCell (p := ⟨g, 0, none⟩) (Nat.le_refl g) _).setCell (p := ⟨g, 8, none⟩) (Nat.le_refl g) _⟩
      case measure => simp [intOf]
    · have q0 := hbk.cell 1
      have q1 := hbk.cell 9
      have z0 := hbk.free 1
      have z1 := hbk.free 9
      simp only [byt, mixL, b8, List.take, List.replicate, List.map_cons, List.map_nil, List.cons_append, List.nil_append, List.getElem?_cons_succ, List.getElem?_cons_zero] at q0 q1
      have HB := hid hbk; clear hbk
      go_wp2
      go_roundw
      case rel => exact ⟨2, by omega, by go_num, (HB.out.setCell 1 _).setCell 9 _, (hf.setCell (p := ⟨g, 1, none⟩) (Nat.le_refl g) _).setCell (p := ⟨g, 9, none⟩) (Nat.le_refl g) _⟩
      case measure => simp [intOf]
    · have q0 := hbk.cell 2
      have q1 := hbk.cell 10
      have z0 := hbk.free 2
      have z1 := hbk.free 10
      simp only [byt, mixL, b8, List.take, List.replicate, List.map_cons, List.map_nil, List.cons_append, List.nil_append, List.getElem?_cons_succ, List.getElem?_cons_zero] at q0 q1
      have HB := hid hbk; clear hbk
      go_wp2
      go_roundw
      case rel => exact ⟨3, by omega, by go_num, (HB.out.setCell 2 _).setCell 10 _, (hf.setCell (p := ⟨g, 2, none⟩) (Nat.le_refl g) _).setCell (p := ⟨g, 10, none⟩) (Nat.le_refl g) _⟩
      case measure => simp [intOf]
    · have q0 := hbk.cell 3
      have q1 := hbk.cell 11
      have z0 := hbk.free 3
      have z1 := hbk.free 11
      simp only [byt, mixL, b8, List.take, List.replicate, List.map_cons, List.map_nil, List.cons_append, List.nil_append, List.getElem?_cons_succ, List.getElem?_cons_zero] at q0 q1
      have HB := hid hbk; clear hbk
      go_wp2
      go_roundw
      case rel => exact ⟨4, by omega, by go_num, (HB.out.setCell 3 _).setCell 11 _, (hf.setCell (p := ⟨g, 3, none⟩) (Nat.le_refl g) _).setCell (p := ⟨g, 11, none⟩) (Nat.le_refl g) _⟩
      case measure => simp [intOf]
    · have q0 := hbk.cell 4
      have q1 := hbk.cell 12
      have z0 := hbk.free 4
      have z1 := hbk.free 12
      simp only [byt, mixL, b8, List.take, List.replicate, List.map_cons, List.map_nil, List.cons_append, List.nil_append, List.getElem?_cons_succ, List.getElem?_cons_zero] at q0 q1
      have HB := hid hbk; clear hbk
      go_wp2
      go_roundw
      case rel => exact ⟨5, by omega, by go_num, (HB.out.setCell 4 _).setCell 12 _, (hf.setCell (p := ⟨g, 4, none⟩) (Nat.le_refl g) _).setCell (p := ⟨g, 12, none⟩) (Nat.le_refl g) _⟩
      case measure => simp [intOf]
    · have q0 := hbk.cell 5
      have q1 := hbk.cell 13
      have z0 := hbk.free 5
      have z1 := hbk.free 13
      simp only [byt, mixL, b8, List.take, List.replicate, List.map_cons, List.map_nil, List.cons_append, List.nil_append, List.getElem?_cons_succ, List.getElem?_cons_zero] at q0 q1
      have HB := hid hbk; clear hbk
      go_wp2
      go_roundw
      case rel => exact ⟨6, by omega, by go_num, (HB.out.setCell 5 _).setCell 13 _, (hf.setCell (p := ⟨g, 5, none⟩) (Nat.le_refl g) _).setCell (p := ⟨g, 13, none⟩) (Nat.le_refl g) _⟩
      case measure => simp [intOf]
    · have q0 := hbk.cell 6
      have q1 := hbk.cell 14
      have z0 := hbk.free 6
      have z1 := hbk.free 14
      simp only [byt, mixL, b8, List.take, List.replicate, List.map_cons, List.map_nil, List.cons_append, List.nil_append, List.getElem?_cons_succ, List.getElem?_cons_zero] at q0 q1
      have HB := hid hbk; clear hbk
      go_wp2
      go_roundw
      case rel => exact ⟨7, by omega, by go_num, (HB.out.setCell 6 _).setCell 14 _, (hf.setCell (p := ⟨g, 6, none⟩) (Nat.le_refl g) _).setCell (p := ⟨g, 14, none⟩) (Nat.le_refl g) _⟩
      case measure => simp [intOf]
    · have q0 := hbk.cell 7
      have q1 := hbk.cell 15
      have z0 := hbk.free 7
      have z1 := hbk.free 15
      simp only [byt, mixL, b8, List.take, List.replicate, List.map_cons, List.map_nil, List.cons_append, List.nil_append, List.getElem?_cons_succ, List.getElem?_cons_zero] at q0 q1
      have HB := hid hbk; clear hbk
      go_wp2
      go_roundw
      case rel => exact ⟨8, by omega, by go_num, (HB.out.setCell 7 _).setCell 15 _, (hf.setCell (p := ⟨g, 7, none⟩) (Nat.le_refl g) _).setCell (p := ⟨g, 15, none⟩) (Nat.le_refl g) _⟩
      case measure => simp [intOf]
def mixS (a b : Int) : Int := sFrom 14695981039346656037 (be a 8 ++ be b 8)
theorem b8_be (a : Int) : b8 a = be a 8 := by simp [b8, be, List.range_succ]
theorem BMix_calls (a b : Int) (w : World) (S : Int) (hS : mixS a b = S) : Calls Try.prog 35 #[.int .u64 a, .int .u64 b] w fun e w' => e = .returned (.int .u64 S) ∧ Frm (fun _ => False) w w' := by
  refine (Mix_calls a b w S (by rw [b8_be, b8_be]; exact hS)).mono ?_
  rintro e w' ⟨rfl, f⟩
  exact ⟨rfl, frm0_of f⟩
theorem mixS_bd (a b : Int) : 0 ≤ mixS a b ∧ mixS a b < 18446744073709551616 := range_sFrom _ (fun n hn => by
  rcases List.mem_append.1 hn with h | h
  all_goals
    simp only [be, List.mem_map] at h
    obtain ⟨j, _, rfl⟩ := h
    omega) _ (by decide)
set_option maxHeartbeats 4000000 in
theorem RMix_calls (a b : Int) (w : World) (ha0 : 0 ≤ a) (ha1 : a < 18446744073709551616) (hb0 : 0 ≤ b) (hb1 : b < 18446744073709551616) (S : Int) (hS : mixS a b = S) :
    Calls Try.prog 9 #[.int .u64 a, .int .u64 b] w fun e w' => e = .returned (.int .u64 S) ∧ Frm (fun _ => False) w w' := by
  have HS := hid (show sFrom 14695981039346656037 ([] ++ be a 8 ++ be b 8) = S from hS); clear hS
  go_enter Try.func9, Try.ntmps9
  go_wp2_with (first
    | (go_at_call 34; (with_reducible refine (Put_calls (OwnB.nil w (fun k => k < w.heap.size)) (fun k hk => hk) a ha0 ha1 8 8 rfl (by decide) (by decide)).mono ?_); rintro e w1 ⟨v1, rfl, h', f'⟩; have HF := hid (f'.below (Nat.le_refl _) (fun k hk hn => hn hk)); have HV := hid h'; clear h' f')
    | (go_at_call 34; (with_reducible refine (Put_calls HV.out (fun k hk => Nat.lt_of_lt_of_le hk HF.out.size) b hb0 hb1 8 8 rfl (by decide) (by simp [be_len])).mono ?_); rintro e w2 ⟨v2, rfl, h', f'⟩; have n1 := hid (HF.out.trans (f'.below HF.out.size (fun k hk hn => hn hk))); clear HF HV f'; have HF := n1; have HV := hid h'; clear n1 h')
    | (go_at_call 14; obtain ⟨a9, c9, e9, hi9, _⟩ := HV.out.ints; cases e9; (with_reducible refine (RSum_calls hi9 _ rfl S HS.out).mono ?_); rintro e w' ⟨rfl, rfl⟩; clear hi9))
  go_ret
  exact ⟨rfl, frm0_of HF.out⟩
end Go.Proofs.Ytknaalaajmhjgaa
