/- Mix, and that the document's functions of layer 1 tell what the program's do. -/
import Derived.Test.YtgaahjilfdfphaaBitsSum
import Derived.Test.YtgaahjilfdfphaaBitsSums
namespace Go.Proofs.Ytgaahjilfdfphaa
set_option linter.unusedSimpArgs false
open Go.RowKit Go.ChangeShapes Go.Proofs.Ytgaahjilfdfphaa.PBitsTells Go.Proofs.YtgaahjilfdfphaaW.PrintWords Go.Proofs.YtgaahjilfdfphaaW.PrintMore Go.Proofs.YtgaahjilfdfphaaW.PrintLast
def b8 (a : Int) : List Int := [a / 72057594037927936 % 256, a / 281474976710656 % 256, a / 1099511627776 % 256, a / 4294967296 % 256, a / 16777216 % 256, a / 65536 % 256, a / 256 % 256, a % 256]
def mixL (a b : Int) (k : Nat) : List Int := (b8 a).take k ++ List.replicate (8 - k) 0 ++ ((b8 b).take k ++ List.replicate (8 - k) 0)
theorem IsInts.of_blk {w : World} {g : Nat} {x : List Int} {T : Nat} (h : Blk w g (byt x) T) (hl : x.length ≤ 9223372036854775807) (hw : ∀ n ∈ x, (Lit.int .u8 n).wf = true) : IsInts .u8 w (some ⟨g, 0, none⟩) x.length x :=
  IsInts.of_take h (List.take_of_length_le (by simp)) (Nat.le_refl _) hl hw
theorem b8_wf (a : Int) : ∀ n ∈ b8 a, (Lit.int .u8 n).wf = true := by
  intro n hn
  apply wf_u8
  simp only [b8, List.mem_cons, List.not_mem_nil, or_false] at hn
  rcases hn with rfl | rfl | rfl | rfl | rfl | rfl | rfl | rfl <;> omega
set_option maxHeartbeats 2000000 in
theorem Mix_calls (a b : Int) (w : World) (S : Int) (hS : sFrom 14695981039346656037 (b8 a ++ b8 b) = S) : Calls Try.prog 19 #[.int .u64 a, .int .u64 b] w fun e w' =>
    e = .returned (.int .u64 S) ∧ Below w.heap.size w w' := by
  go_enter Try.func19, Try.ntmps19
  go_wp2
  generalize hwz : w.alloc (Obj.cells _ 42) = wz
  have h0 : Blk wz w.heap.size (byt (mixL a b 0)) 42 := hwz ▸ Blk.new w (byt (mixL a b 0)) 42
  have f0 : Below w.heap.size w wz := hwz ▸ (Below.refl _ _).alloc (Nat.le_refl _) _
  clear hwz
  generalize hg : w.heap.size = g at *
  go_loopw [7] (fun i wr => ∃ k : Nat, k ≤ 8 ∧ i = .int .i64 k ∧ Blk wr g (byt (mixL a b k)) 42 ∧ Below g w wr) (fun i _ => 8 - (intOf i).toNat)
  case atStart => exact ⟨0, by omega, rfl, h0, f0⟩
  case round =>
    clear h0 f0
    obtain ⟨k, hk, rfl, hbk, hf⟩ := hrel
    have c8 : k = 0 ∨ k = 1 ∨ k = 2 ∨ k = 3 ∨ k = 4 ∨ k = 5 ∨ k = 6 ∨ k = 7 ∨ k = 8 := by omega
    rcases c8 with rfl | rfl | rfl | rfl | rfl | rfl | rfl | rfl | rfl
    case inr.inr.inr.inr.inr.inr.inr.inr =>
      have HI := hid (IsInts.of_take (x := b8 a ++ b8 b) (cap := 16) (show Blk wr g (byt (b8 a ++ b8 b)) 42 from hbk) (List.take_of_length_le (by simp)) (show 16 ≤ 16 from Nat.le_refl _) (by decide) (fun n hn => by rcases List.mem_append.1 hn with h | h; exact b8_wf a n h; exact b8_wf b n h)); clear hbk
      have HF := hid hf; clear hf
      have hg' := hid hg; clear hg
      go_wp2_with (go_at_call 14; (with_reducible refine (Sum_calls HI.out _ (show (b8 a ++ b8 b).length = 16 from rfl) (by decide) _ hS).mono ?_); rintro e w' ⟨rfl, ⟨nd, rfl⟩⟩)
      go_ret
      refine ⟨rfl, below_drewN ?_ _⟩
      rw [hg'.out]; exact HF.out
    · have q0 := hbk.cell 0
      have q1 := hbk.cell 8
      have z0 := hbk.free 0
      have z1 := hbk.free 8
      simp only [byt, mixL, b8, List.take, List.replicate, List.map_cons, List.map_nil, List.cons_append, List.nil_append, List.getElem?_cons_succ, List.getElem?_cons_zero] at q0 q1
      have HB := hid hbk; clear hbk
      go_wp2
      go_roundw
      case rel => exact ⟨1, by omega, by go_num, (HB.out.setCell 0 _).setCell 8 _, (hf.setCell (p := ⟨g, 0, none⟩) (Nat.le_refl g) _).setCell (p := ⟨g, 8, none⟩) (Nat.le_refl g) _⟩
      case measure => simp [intOf]
    · have q0 := hbk.cell 1
      have q1 := hbk.cell 9
      have z0 := hbk.free 1
      have z1 := hbk.free 9
      simp only [byt, mixL, b8, List.take, List.replicate, List.map_cons, List.map_nil, List.cons_append, List.nil_append, List.getElem?_cons_succ, List.getElem?_cons_zero] at q0 q1
      have HB := hid hbk; clear hbk
      go_wp2
      go_roundw
      case rel => exact ⟨2, by omega, by go_num, (HB.out.setCell 1 _).setCell 9 _, (hf.setCell (p := ⟨g, 1, none⟩) (Nat.le_refl g) _).setCell (p := ⟨g, 9, none⟩) (Nat.le_refl g) _⟩
      case measure => simp [intOf]
    · have q0 := hbk.cell 2
      have q1 := hbk.cell 10
      have z0 := hbk.free 2
      have z1 := hbk.free 10
      simp only [byt, mixL, b8, List.take, List.replicate, List.map_cons, List.map_nil, List.cons_append, List.nil_append, List.getElem?_cons_succ, List.getElem?_cons_zero] at q0 q1
      have HB := hid hbk; clear hbk
      go_wp2
      go_roundw
      case rel => exact ⟨3, by omega, by go_num, (HB.out.setCell 2 _).setCell 10 _, (hf.setCell (p := ⟨g, 2, none⟩) (Nat.le_refl g) _).setCell (p := ⟨g, 10, none⟩) (Nat.le_refl g) _⟩
      case measure => simp [intOf]
    · have q0 := hbk.cell 3
      have q1 := hbk.cell 11
      have z0 := hbk.free 3
      have z1 := hbk.free 11
      simp only [byt, mixL, b8, List.take, List.replicate, List.map_cons, List.map_nil, List.cons_append, List.nil_append, List.getElem?_cons_succ, List.getElem?_cons_zero] at q0 q1
      have HB := hid hbk; clear hbk
      go_wp2
      go_roundw
      case rel => exact ⟨4, by omega, by go_num, (HB.out.setCell 3 _).setCell 11 _, (hf.setCell (p := ⟨g, 3, none⟩) (Nat.le_refl g) _).setCell (p := ⟨g, 11, none⟩) (Nat.le_refl g) _⟩
      case measure => simp [intOf]
    · have q0 := hbk.cell 4
      have q1 := hbk.cell 12
      have z0 := hbk.free 4
      have z1 := hbk.free 12
      simp only [byt, mixL, b8, List.take, List.replicate, List.map_cons, List.map_nil, List.cons_append, List.nil_append, List.getElem?_cons_succ, List.getElem?_cons_zero] at q0 q1
      have HB := hid hbk; clear hbk
      go_wp2
      go_roundw
      case rel => exact ⟨5, by omega, by go_num, (HB.out.setCell 4 _).setCell 12 _, (hf.setCell (p := ⟨g, 4, none⟩) (Nat.le_refl g) _).setCell (p := ⟨g, 12, none⟩) (Nat.le_refl g) _⟩
      case measure => simp [intOf]
    · have q0 := hbk.cell 5
      have q1 := hbk.cell 13
      have z0 := hbk.free 5
      have z1 := hbk.free 13
      simp only [byt, mixL, b8, List.take, List.replicate, List.map_cons, List.map_nil, List.cons_append, List.nil_append, List.getElem?_cons_succ, List.getElem?_cons_zero] at q0 q1
      have HB := hid hbk; clear hbk
      go_wp2
      go_roundw
      case rel => exact ⟨6, by omega, by go_num, (HB.out.setCell 5 _).setCell 13 _, (hf.setCell (p := ⟨g, 5, none⟩) (Nat.le_refl g) _).setCell (p := ⟨g, 13, none⟩) (Nat.le_refl g) _⟩
      case measure => simp [intOf]
    · have q0 := hbk.cell 6
      have q1 := hbk.cell 14
      have z0 := hbk.free 6
      have z1 := hbk.free 14
      simp only [byt, mixL, b8, List.take, List.replicate, List.map_cons, List.map_nil, List.cons_append, List.nil_append, List.getElem?_cons_succ, List.getElem?_cons_zero] at q0 q1
      have HB := hid hbk; clear hbk
      go_wp2
      go_roundw
      case rel => exact ⟨7, by omega, by go_num, (HB.out.setCell 6 _).setCell 14 _, (hf.setCell (p := ⟨g, 6, none⟩) (Nat.le_refl g) _).setCell (p := ⟨g, 14, none⟩) (Nat.le_refl g) _⟩
      case measure => simp [intOf]
    · have q0 := hbk.cell 7
      have q1 := hbk.cell 15
      have z0 := hbk.free 7
      have z1 := hbk.free 15
      simp only [byt, mixL, b8, List.take, List.replicate, List.map_cons, List.map_nil, List.cons_append, List.nil_append, List.getElem?_cons_succ, List.getElem?_cons_zero] at q0 q1
      have HB := hid hbk; clear hbk
      go_wp2
      go_roundw
      case rel => exact ⟨8, by omega, by go_num, (HB.out.setCell 7 _).setCell 15 _, (hf.setCell (p := ⟨g, 7, none⟩) (Nat.le_refl g) _).setCell (p := ⟨g, 15, none⟩) (Nat.le_refl g) _⟩
      case measure => simp [intOf]
theorem refMix_some (a b : Int) : palisaderef1_Mix.f 30 a b = some (sFrom 14695981039346656037 (b8 a ++ b8 b)) := by
  have p1 : palisaderef1_Put.f 30 [] a 8 = some (b8 a) := by
    simp [palisaderef1_Put.f, palisaderef1_Put.l0, shr, wrap64, IntKind.wrap, IntKind.bits, IntKind.signed, b8]
  have p2 : palisaderef1_Put.f 30 (b8 a) b 8 = some (b8 a ++ b8 b) := by
    simp [palisaderef1_Put.f, palisaderef1_Put.l0, shr, wrap64, IntKind.wrap, IntKind.bits, IntKind.signed, b8]
  have p3 : palisaderef1_Sum.f 30 (b8 a ++ b8 b) = some (sFrom 14695981039346656037 (b8 a ++ b8 b)) := by
    have h := refSum_l0 (b8 a ++ b8 b) 30 14695981039346656037 0 (show 16 < 9223372036854775807 by decide) (show 16 - 0 < 30 by decide)
    exact h
  unfold palisaderef1_Mix.f
  rw [p1, Option.bind_some, p2, Option.bind_some, p3, Option.bind_some]
theorem refRotl_some (x n : Int) (h0 : 0 ≤ x) (h1 : x < 18446744073709551616) : palisaderef1_Rotl.f x n = some ((R x.toNat (turn n) : Nat) : Int) := by
  have e : IntKind.u64.wrap (Int.tmod (wrap64 ((Int.tmod n 64) + 64)) 64) = (turn n : Nat) := by
    have hb0 : -64 < Int.tmod n 64 := Int.lt_tmod_of_pos n (by decide)
    have hb1 : Int.tmod n 64 < 64 := Int.tmod_lt_of_pos n (by decide)
    have hd : Int.tmod n 64 = n - 64 * Int.tdiv n 64 := by have := Int.mul_tdiv_add_tmod n 64; omega
    have e1 : wrap64 ((Int.tmod n 64) + 64) = (Int.tmod n 64) + 64 := by rw [wrap64_eq]; omega
    rw [e1, tmod_pos _ _ (by omega), wrap_u64]
    unfold turn
    rw [hd]
    omega
  have ht := turn_lt n
  unfold palisaderef1_Rotl.f
  rw [e]
  by_cases hz : turn n = 0
  · rw [if_pos (by omega), hz, R_zero _ (by omega), Int.toNat_of_nonneg h0]
  · rw [if_neg (by omega), if_pos (by omega), wrap_u64, show ((64 : Int) - (turn n : Nat)) % 18446744073709551616 = 64 - (turn n : Nat) by omega, if_pos (by omega), rot_int x (turn n) ht h0 h1]
theorem refNarrow_eq (z n : Int) : palisaderef1_Narrow.f z n = bits_Narrow.f z n := by
  unfold palisaderef1_Narrow.f bits_Narrow.f
  have e : (64 - (mx 1 (mn n 64))).toNat = (64 - (mn (mx n 1) 64)).toNat := by
    unfold mx mn
    (repeat' split) <;> omega
  rw [e]
  generalize (64 - (mn (mx n 1) 64)).toNat = K
  have h : wrap64 (IntKind.u64.wrap ((IntKind.u64.wrap z) * 2 ^ K)) = wrap64 (z * 2 ^ K) := by
    rw [wrap64_eq, wrap64_eq, wrap_u64, wrap_u64, Int.emod_add_emod]
    congr 1
    rw [Int.add_emod, Int.mul_emod, Int.emod_emod_of_dvd z (Int.dvd_refl _), ← Int.mul_emod, ← Int.add_emod]
  rw [h]
theorem refDouble_eq (t n : Int) : palisaderef1_Double.f t n = bits_Double.f t n := by
  unfold palisaderef1_Double.f bits_Double.f
  have e : (mx 0 (mn n 6)).toNat = (mn (mx n 0) 6).toNat := by
    unfold mx mn
    (repeat' split) <;> omega
  rw [e]
end Go.Proofs.Ytgaahjilfdfphaa
