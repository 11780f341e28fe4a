/- SlotViews, walked: a place that is accepted anew in a greater view forgets what was said in elder ones; never the other way round. -/
import Derived.Test.YtijomhinfcahpaaSlotOneP
namespace Go.Proofs.Ytijomhinfcahpaa
open Go.RowKit Go.ChangeShapes
set_option linter.unusedVariables false
set_option linter.unusedSimpArgs false
set_option maxRecDepth 20000
def slA (R : Sd) (k : Nat) : Sl := ⟨R, if 0 < k then R else sd0, if 1 < k then R else sd0, if 2 < k then R else sd0, if 3 < k then R else sd0, if 0 < k then R else sd0, if 1 < k then R else sd0, if 2 < k then R else sd0, if 3 < k then R else sd0⟩
theorem sdEq_self (R : Sd) : sdEq R R = true := (sdEq_iff _ _).2 rfl
theorem hit_self (R : Sd) (i p : Int) : hit R R i p = if i ≠ p then 1 else 0 := by
  by_cases h : i = p
  · rw [hit_but h, if_neg (fun h2 => h2 h)]
  · rw [hit_yes (sdEq_self R) h, if_pos h]
theorem comA (R : Sd) (hv : 0 ≤ R.vw) : comS (slA R 4) = true := by
  have h1 : slA R 4 = ⟨R, R, R, R, R, R, R, R, R⟩ := rfl
  rw [h1]
  unfold comS rdyS cnt4
  dsimp only
  simp only [hit_self]
  have hp : 0 ≤ R.vw % 4 ∧ R.vw % 4 < 4 := by omega
  generalize R.vw % 4 = p at hp
  rw [Bool.and_eq_true, decide_eq_true_eq, decide_eq_true_eq]
  constructor
  · rcases (show p = 0 ∨ p = 1 ∨ p = 2 ∨ p = 3 by omega) with rfl | rfl | rfl | rfl <;> decide
  · decide
theorem rdyB (R S : Sd) (h : sdEq R S = false) : rdyS ⟨S, R, R, R, R, R, R, R, R⟩ = false := by
  unfold rdyS cnt4
  dsimp only
  rw [hit_no h, hit_no h, hit_no h, hit_no h]
  rfl
set_option maxRecDepth 100000 in
set_option maxHeartbeats 16000000 in
theorem SlotViews_walk (a0 a1 : Int) (l2 : List Value) (x2 : Int × Int × (Int × Int × Int × Unit) × Unit) (l3 : List Value) (x3 : Int × Int × (Int × Int × Int × Unit) × Unit) (w : World) (h0 : (Lit.int .u32 a0).wf = true) (h1 : (Lit.int .u32 a1).wf = true) (h2 : c27.K w x2 l2) (h3 : c27.K w x3 l3) :
    Calls Try.prog 6 #[.int .u32 a0, .int .u32 a1, .agg l2.toArray, .agg l3.toArray] w fun e w' => e = .returned (.bool true) ∧ Below w.heap.size w w' := by
  obtain ⟨c, t, k, y, v, rfl, -, -, -, -, -⟩ := rq_of h2
  obtain ⟨c2, t2, k2, y2, v2, rfl, -, -, -, -, -⟩ := rq_of h3
  have hv := bnd32 h0
  have hv2 := bnd32 h1
  have HV := hid hv; have HV2 := hid hv2
  have HQ0 := hid ((Blk.new w [.int .u8 c, .int .u32 t, .int .u8 k, .int .u8 y, .int .u16 v] TRq).alloc (.cells #[.int .u8 c2, .int .u32 t2, .int .u8 k2, .int .u8 y2, .int .u16 v2] TRq))
  have HS0 := hid (show Blk ((w.alloc (.cells #[.int .u8 c, .int .u32 t, .int .u8 k, .int .u8 y, .int .u16 v] TRq)).alloc (.cells #[.int .u8 c2, .int .u32 t2, .int .u8 k2, .int .u8 y2, .int .u16 v2] TRq)) (w.heap.size + 1) [.int .u8 c2, .int .u32 t2, .int .u8 k2, .int .u8 y2, .int .u16 v2] TRq by have := Blk.new (w.alloc (.cells #[.int .u8 c, .int .u32 t, .int .u8 k, .int .u8 y, .int .u16 v] TRq)) [.int .u8 c2, .int .u32 t2, .int .u8 k2, .int .u8 y2, .int .u16 v2] TRq; rwa [World.size_alloc] at this)
  have HF0 := hid (((Below.refl w.heap.size w).alloc (Nat.le_refl _) (.cells #[.int .u8 c, .int .u32 t, .int .u8 k, .int .u8 y, .int .u16 v] TRq)).alloc (by simp) (.cells #[.int .u8 c2, .int .u32 t2, .int .u8 k2, .int .u8 y2, .int .u16 v2] TRq))
  obtain ⟨R, hR⟩ : ∃ R : Sd, R = ⟨true, a0, c, t, k, y, v⟩ := ⟨_, rfl⟩
  obtain ⟨S, hS⟩ : ∃ S : Sd, S = ⟨true, a1, c2, t2, k2, y2, v2⟩ := ⟨_, rfl⟩
  have HR := hid hR; have HS := hid hS
  clear h0 h1 h2 h3 hv hv2
  by_cases hab : a1 ≤ a0
  · clear hR hS
    go_enter Try.func6, Try.ntmps6
    go_wp2_with (first
      | (go_at_call 8; (with_reducible refine (known_calls _).mono ?_); rintro e w1 ⟨rfl, f1⟩; have HQ := hid (HQ0.out.frm (frm0_of f1) (fun h => h)); have HS1 := hid (HS0.out.frm (frm0_of f1) (fun h => h)); have HF := hid (below_next HF0.out f1); clear HQ0 HS0 HF0 f1))
    go_ret
    exact ⟨rfl, HF.out⟩
  have hab2 : a0 < a1 := by omega
  have HCA := hid (comA R (by rw [hR]; exact HV.out.1))
  have HRS := hid (rdyB R S (by rw [hR, hS]; unfold sdEq; dsimp only; rw [beq_eq_false_iff_ne.2 (show a0 ≠ a1 by omega)]; simp))
  obtain ⟨A4, hA4⟩ : ∃ A, slA R 4 = A := ⟨_, rfl⟩
  have HA4 := hid hA4
  have HT1 := hid (show taken A4.acc a1 c2 t2 k2 y2 v2 = false by rw [← hA4, slA, hR]; unfold taken; dsimp only; rw [decide_eq_false (show ¬ a1 < a0 by omega), decide_eq_false (show ¬ a0 = a1 by omega)]; rfl)
  obtain ⟨A5, hA5⟩ : ∃ A, A4.accept ⟨true, a1, c2, t2, k2, y2, v2⟩ = A := ⟨_, rfl⟩
  have HA5 := hid hA5
  have HE5 := hid (show A5 = ⟨S, R, R, R, R, R, R, R, R⟩ by rw [← hA5, ← hA4, hS]; rfl)
  have HT2 := hid (show taken A5.acc a0 c t k y v = true by rw [HE5.out, hS]; unfold taken; dsimp only; rw [decide_eq_true (show a0 < a1 by omega)]; rfl)
  have HO1 := hid (show old (A5.get (0 + 1)) a1 = false by rw [HE5.out]; show old R a1 = false; rw [hR]; unfold old; dsimp only; rw [decide_eq_false (show ¬ a1 ≤ a0 by omega)]; rfl)
  obtain ⟨A6, hA6⟩ : ∃ A, A5.put (0 + 1) ⟨true, a1, c2, t2, k2, y2, v2⟩ = A := ⟨_, rfl⟩
  have HA6 := hid hA6
  have HO2 := hid (show old (A6.get (0 + 1)) a0 = true by rw [← hA6]; show old ⟨true, a1, c2, t2, k2, y2, v2⟩ a0 = true; unfold old; dsimp only; rw [decide_eq_true (show a0 ≤ a1 by omega)]; rfl)
  have TC := hid (told_one (s := 1) (by decide) A4 comS (by rw [← hA4, slA, hR]) true (by rw [← hA4]; exact HCA.out))
  have TP := hid (told_one (s := 1) (by decide) A5 rdyS (by rw [HE5.out, hS]) false (by rw [HE5.out]; exact HRS.out))
  have TA := hid (told_one (s := 1) (by decide) A5 (fun _ => true) (by rw [HE5.out, hS]) true rfl)
  have HV4 := hid (show (one 1 A4 1).acc = ⟨true, a0, c, t, k, y, v⟩ by rw [one_at, ← hA4, ← hR]; rfl)
  have HV5 := hid (show (one 1 A5 1).acc = ⟨true, a1, c2, t2, k2, y2, v2⟩ by rw [one_at, HE5.out, ← hS])
  clear hA4 hA5 hA6 hR hS
  have HAB := hid hab2; clear hab hab2
  have hab : ¬ a1 ≤ a0 := by have := HAB.out; omega
  go_enter Try.func6, Try.ntmps6
  go_wp2_with (first
    | (go_at_call 8; (with_reducible refine (known_calls _).mono ?_); rintro e w1 ⟨rfl, f1⟩; have HQ := hid (HQ0.out.frm (frm0_of f1) (fun h => h)); have HS1 := hid (HS0.out.frm (frm0_of f1) (fun h => h)); have HF := hid (below_next HF0.out f1); clear HQ0 HS0 HF0 f1; have q0 := HQ.out.cell 0; have q1 := HQ.out.cell 1; have q2 := HQ.out.cell 2; have q3 := HQ.out.cell 3; have q4 := HQ.out.cell 4; (simp only [List.getElem?_cons_succ, List.getElem?_cons_zero] at q0 q1 q2 q3 q4); have s0 := HS1.out.cell 0; have s1 := HS1.out.cell 1; have s2 := HS1.out.cell 2; have s3 := HS1.out.cell 3; have s4 := HS1.out.cell 4; (simp only [List.getElem?_cons_succ, List.getElem?_cons_zero] at s0 s1 s2 s3 s4))
    | (go_at_call 9; (with_reducible refine (GNew_calls w1 0 (by decide)).mono ?_); rintro e w2 ⟨lb, rfl, hl, hlb, f'⟩; have HB := hid HF.out.size; have HL0 := hid hl; clear hl hlb; clear q0 q1 q2 q3 q4 s0 s1 s2 s3 s4; have n0_ := hid (HQ.out.frm (frm0_of f') (fun h => h)); have n1_ := hid (HS1.out.frm (frm0_of f') (fun h => h)); have n2_ := hid (below_next HF.out f'); clear HQ HS1 HF; have HQ := n0_; clear n0_; have HS1 := n1_; clear n1_; have HF := n2_; clear n2_; clear f'; have q0 := HQ.out.cell 0; have q1 := HQ.out.cell 1; have q2 := HQ.out.cell 2; have q3 := HQ.out.cell 3; have q4 := HQ.out.cell 4; (simp only [List.getElem?_cons_succ, List.getElem?_cons_zero] at q0 q1 q2 q3 q4); have s0 := HS1.out.cell 0; have s1 := HS1.out.cell 1; have s2 := HS1.out.cell 2; have s3 := HS1.out.cell 3; have s4 := HS1.out.cell 4; (simp only [List.getElem?_cons_succ, List.getElem?_cons_zero] at s0 s1 s2 s3 s4))
    | (go_at_call 10; (with_reducible refine (O_acc0 HL0.out (by decide) a0 1 c t k y v HV.out (by decide) _ rfl).mono ?_); rintro e w3 ⟨rfl, hl, lf⟩; clear q0 q1 q2 q3 q4 s0 s1 s2 s3 s4; clear HL0; have n0_ := hid (lf.blk HQ.out (by simp) (by simp)); have n1_ := hid (lf.blk HS1.out (by simp) (by simp)); have n2_ := hid (lf.below HB.out HF.out); clear HQ HS1 HF; have HQ := n0_; clear n0_; have HS1 := n1_; clear n1_; have HF := n2_; clear n2_; have HL := hid hl; clear hl lf))
  clear hab
  go_loopw [10] (fun iv wr => ∃ j : Nat, j ≤ 4 ∧ iv = .int .u8 j ∧ Lg wr w1.heap.size lb 0 (2 * j + 1) (one 1 (slA R j)) ∧ Blk wr w.heap.size [.int .u8 c, .int .u32 t, .int .u8 k, .int .u8 y, .int .u16 v] TRq ∧ Blk wr (w.heap.size + 1) [.int .u8 c2, .int .u32 t2, .int .u8 k2, .int .u8 y2, .int .u16 v2] TRq ∧ Below w.heap.size w wr) (fun i _ => 4 - (intOf i).toNat)
  case atStart => exact ⟨0, by omega, rfl, HL.out.cast (by rw [HR.out]; rfl), HQ.out, HS1.out, HF.out⟩
  case round =>
    clear HL HQ HS1 HF
    obtain ⟨j, hj, rfl, hl, hq, hs, hf⟩ := hrel
    have HL := hid hl; have HQ := hid hq; have HS1 := hid hs; have HF := hid hf; clear hl hq hs hf
    have q0 := HQ.out.cell 0
    have q1 := HQ.out.cell 1
    have q2 := HQ.out.cell 2
    have q3 := HQ.out.cell 3
    have q4 := HQ.out.cell 4
    (simp only [List.getElem?_cons_succ, List.getElem?_cons_zero] at q0 q1 q2 q3 q4)
    have s0 := HS1.out.cell 0
    have s1 := HS1.out.cell 1
    have s2 := HS1.out.cell 2
    have s3 := HS1.out.cell 3
    have s4 := HS1.out.cell 4
    (simp only [List.getElem?_cons_succ, List.getElem?_cons_zero] at s0 s1 s2 s3 s4)
    rcases (show j = 0 ∨ j = 1 ∨ j = 2 ∨ j = 3 ∨ j = 4 by omega) with rfl | rfl | rfl | rfl | rfl
    · clear hj
      obtain ⟨S1, hS1⟩ : ∃ S, (slA R 0).put (0 + 0) ⟨true, a0, c, t, k, y, v⟩ = S := ⟨_, rfl⟩
      obtain ⟨S2, hS2⟩ : ∃ S, S1.put (4 + 0) ⟨true, a0, c, t, k, y, v⟩ = S := ⟨_, rfl⟩
      have HS11 := hid hS1; have HS12 := hid hS2
      have HP1 := hid (show old ((slA R 0).get (0 + 0)) a0 = false by simp [slA, Sl.get, old, sd0])
      have HP2 := hid (show old (S1.get (4 + 0)) a0 = false by rw [← hS1]; simp [slA, Sl.put, Sl.get, old, sd0])
      have HFIN := hid (show S2 = slA R (0 + 1) by rw [← hS2, ← hS1]; simp [slA, Sl.put, HR.out])
      clear hS1 hS2
      go_wp2_with (first
        | (go_at_call 11; (with_reducible refine (O_Prepare HL.out (by decide) 0 (by decide) 0 rfl a0 c t k y v (by decide) HP1.out S1 HS11.out).mono ?_); rintro e w5 ⟨rfl, hl, lf⟩; clear q0 q1 q2 q3 q4 s0 s1 s2 s3 s4; clear HL; have n0_ := hid (lf.blk HQ.out (by simp) (by simp)); have n1_ := hid (lf.blk HS1.out (by simp) (by simp)); have n2_ := hid (lf.below HB.out HF.out); clear HQ HS1 HF; have HQ := n0_; clear n0_; have HS1 := n1_; clear n1_; have HF := n2_; clear n2_; have HL := hid hl; clear hl lf; have q0 := HQ.out.cell 0; have q1 := HQ.out.cell 1; have q2 := HQ.out.cell 2; have q3 := HQ.out.cell 3; have q4 := HQ.out.cell 4; (simp only [List.getElem?_cons_succ, List.getElem?_cons_zero] at q0 q1 q2 q3 q4); have s0 := HS1.out.cell 0; have s1 := HS1.out.cell 1; have s2 := HS1.out.cell 2; have s3 := HS1.out.cell 3; have s4 := HS1.out.cell 4; (simp only [List.getElem?_cons_succ, List.getElem?_cons_zero] at s0 s1 s2 s3 s4))
        | (go_at_call 12; (with_reducible refine (O_Commit HL.out (by decide) 0 (by decide) 0 rfl a0 c t k y v (by decide) HP2.out S2 HS12.out).mono ?_); rintro e w6 ⟨rfl, hl, lf⟩; clear q0 q1 q2 q3 q4 s0 s1 s2 s3 s4; clear HL; have n0_ := hid (lf.blk HQ.out (by simp) (by simp)); have n1_ := hid (lf.blk HS1.out (by simp) (by simp)); have n2_ := hid (lf.below HB.out HF.out); clear HQ HS1 HF; have HQ := n0_; clear n0_; have HS1 := n1_; clear n1_; have HF := n2_; clear n2_; have HL := hid hl; clear hl lf; have q0 := HQ.out.cell 0; have q1 := HQ.out.cell 1; have q2 := HQ.out.cell 2; have q3 := HQ.out.cell 3; have q4 := HQ.out.cell 4; (simp only [List.getElem?_cons_succ, List.getElem?_cons_zero] at q0 q1 q2 q3 q4); have s0 := HS1.out.cell 0; have s1 := HS1.out.cell 1; have s2 := HS1.out.cell 2; have s3 := HS1.out.cell 3; have s4 := HS1.out.cell 4; (simp only [List.getElem?_cons_succ, List.getElem?_cons_zero] at s0 s1 s2 s3 s4)))
      go_roundw
      case rel => exact ⟨0 + 1, by omega, rfl, (HL.out.more (by omega)).cast (by rw [HFIN.out]), HQ.out, HS1.out, HF.out⟩
      case measure => simp [intOf]
    · clear hj
      obtain ⟨S1, hS1⟩ : ∃ S, (slA R 1).put (0 + 1) ⟨true, a0, c, t, k, y, v⟩ = S := ⟨_, rfl⟩
      obtain ⟨S2, hS2⟩ : ∃ S, S1.put (4 + 1) ⟨true, a0, c, t, k, y, v⟩ = S := ⟨_, rfl⟩
      have HS11 := hid hS1; have HS12 := hid hS2
      have HP1 := hid (show old ((slA R 1).get (0 + 1)) a0 = false by simp [slA, Sl.get, old, sd0])
      have HP2 := hid (show old (S1.get (4 + 1)) a0 = false by rw [← hS1]; simp [slA, Sl.put, Sl.get, old, sd0])
      have HFIN := hid (show S2 = slA R (1 + 1) by rw [← hS2, ← hS1]; simp [slA, Sl.put, HR.out])
      clear hS1 hS2
      go_wp2_with (first
        | (go_at_call 11; (with_reducible refine (O_Prepare HL.out (by decide) 1 (by decide) 1 rfl a0 c t k y v (by decide) HP1.out S1 HS11.out).mono ?_); rintro e w5 ⟨rfl, hl, lf⟩; clear q0 q1 q2 q3 q4 s0 s1 s2 s3 s4; clear HL; have n0_ := hid (lf.blk HQ.out (by simp) (by simp)); have n1_ := hid (lf.blk HS1.out (by simp) (by simp)); have n2_ := hid (lf.below HB.out HF.out); clear HQ HS1 HF; have HQ := n0_; clear n0_; have HS1 := n1_; clear n1_; have HF := n2_; clear n2_; have HL := hid hl; clear hl lf; have q0 := HQ.out.cell 0; have q1 := HQ.out.cell 1; have q2 := HQ.out.cell 2; have q3 := HQ.out.cell 3; have q4 := HQ.out.cell 4; (simp only [List.getElem?_cons_succ, List.getElem?_cons_zero] at q0 q1 q2 q3 q4); have s0 := HS1.out.cell 0; have s1 := HS1.out.cell 1; have s2 := HS1.out.cell 2; have s3 := HS1.out.cell 3; have s4 := HS1.out.cell 4; (simp only [List.getElem?_cons_succ, List.getElem?_cons_zero] at s0 s1 s2 s3 s4))
        | (go_at_call 12; (with_reducible refine (O_Commit HL.out (by decide) 1 (by decide) 1 rfl a0 c t k y v (by decide) HP2.out S2 HS12.out).mono ?_); rintro e w6 ⟨rfl, hl, lf⟩; clear q0 q1 q2 q3 q4 s0 s1 s2 s3 s4; clear HL; have n0_ := hid (lf.blk HQ.out (by simp) (by simp)); have n1_ := hid (lf.blk HS1.out (by simp) (by simp)); have n2_ := hid (lf.below HB.out HF.out); clear HQ HS1 HF; have HQ := n0_; clear n0_; have HS1 := n1_; clear n1_; have HF := n2_; clear n2_; have HL := hid hl; clear hl lf; have q0 := HQ.out.cell 0; have q1 := HQ.out.cell 1; have q2 := HQ.out.cell 2; have q3 := HQ.out.cell 3; have q4 := HQ.out.cell 4; (simp only [List.getElem?_cons_succ, List.getElem?_cons_zero] at q0 q1 q2 q3 q4); have s0 := HS1.out.cell 0; have s1 := HS1.out.cell 1; have s2 := HS1.out.cell 2; have s3 := HS1.out.cell 3; have s4 := HS1.out.cell 4; (simp only [List.getElem?_cons_succ, List.getElem?_cons_zero] at s0 s1 s2 s3 s4)))
      go_roundw
      case rel => exact ⟨1 + 1, by omega, rfl, (HL.out.more (by omega)).cast (by rw [HFIN.out]), HQ.out, HS1.out, HF.out⟩
      case measure => simp [intOf]
    · clear hj
      obtain ⟨S1, hS1⟩ : ∃ S, (slA R 2).put (0 + 2) ⟨true, a0, c, t, k, y, v⟩ = S := ⟨_, rfl⟩
      obtain ⟨S2, hS2⟩ : ∃ S, S1.put (4 + 2) ⟨true, a0, c, t, k, y, v⟩ = S := ⟨_, rfl⟩
      have HS11 := hid hS1; have HS12 := hid hS2
      have HP1 := hid (show old ((slA R 2).get (0 + 2)) a0 = false by simp [slA, Sl.get, old, sd0])
      have HP2 := hid (show old (S1.get (4 + 2)) a0 = false by rw [← hS1]; simp [slA, Sl.put, Sl.get, old, sd0])
      have HFIN := hid (show S2 = slA R (2 + 1) by rw [← hS2, ← hS1]; simp [slA, Sl.put, HR.out])
      clear hS1 hS2
      go_wp2_with (first
        | (go_at_call 11; (with_reducible refine (O_Prepare HL.out (by decide) 2 (by decide) 2 rfl a0 c t k y v (by decide) HP1.out S1 HS11.out).mono ?_); rintro e w5 ⟨rfl, hl, lf⟩; clear q0 q1 q2 q3 q4 s0 s1 s2 s3 s4; clear HL; have n0_ := hid (lf.blk HQ.out (by simp) (by simp)); have n1_ := hid (lf.blk HS1.out (by simp) (by simp)); have n2_ := hid (lf.below HB.out HF.out); clear HQ HS1 HF; have HQ := n0_; clear n0_; have HS1 := n1_; clear n1_; have HF := n2_; clear n2_; have HL := hid hl; clear hl lf; have q0 := HQ.out.cell 0; have q1 := HQ.out.cell 1; have q2 := HQ.out.cell 2; have q3 := HQ.out.cell 3; have q4 := HQ.out.cell 4; (simp only [List.getElem?_cons_succ, List.getElem?_cons_zero] at q0 q1 q2 q3 q4); have s0 := HS1.out.cell 0; have s1 := HS1.out.cell 1; have s2 := HS1.out.cell 2; have s3 := HS1.out.cell 3; have s4 := HS1.out.cell 4; (simp only [List.getElem?_cons_succ, List.getElem?_cons_zero] at s0 s1 s2 s3 s4))
        | (go_at_call 12; (with_reducible refine (O_Commit HL.out (by decide) 2 (by decide) 2 rfl a0 c t k y v (by decide) HP2.out S2 HS12.out).mono ?_); rintro e w6 ⟨rfl, hl, lf⟩; clear q0 q1 q2 q3 q4 s0 s1 s2 s3 s4; clear HL; have n0_ := hid (lf.blk HQ.out (by simp) (by simp)); have n1_ := hid (lf.blk HS1.out (by simp) (by simp)); have n2_ := hid (lf.below HB.out HF.out); clear HQ HS1 HF; have HQ := n0_; clear n0_; have HS1 := n1_; clear n1_; have HF := n2_; clear n2_; have HL := hid hl; clear hl lf; have q0 := HQ.out.cell 0; have q1 := HQ.out.cell 1; have q2 := HQ.out.cell 2; have q3 := HQ.out.cell 3; have q4 := HQ.out.cell 4; (simp only [List.getElem?_cons_succ, List.getElem?_cons_zero] at q0 q1 q2 q3 q4); have s0 := HS1.out.cell 0; have s1 := HS1.out.cell 1; have s2 := HS1.out.cell 2; have s3 := HS1.out.cell 3; have s4 := HS1.out.cell 4; (simp only [List.getElem?_cons_succ, List.getElem?_cons_zero] at s0 s1 s2 s3 s4)))
      go_roundw
      case rel => exact ⟨2 + 1, by omega, rfl, (HL.out.more (by omega)).cast (by rw [HFIN.out]), HQ.out, HS1.out, HF.out⟩
      case measure => simp [intOf]
    · clear hj
      obtain ⟨S1, hS1⟩ : ∃ S, (slA R 3).put (0 + 3) ⟨true, a0, c, t, k, y, v⟩ = S := ⟨_, rfl⟩
      obtain ⟨S2, hS2⟩ : ∃ S, S1.put (4 + 3) ⟨true, a0, c, t, k, y, v⟩ = S := ⟨_, rfl⟩
      have HS11 := hid hS1; have HS12 := hid hS2
      have HP1 := hid (show old ((slA R 3).get (0 + 3)) a0 = false by simp [slA, Sl.get, old, sd0])
      have HP2 := hid (show old (S1.get (4 + 3)) a0 = false by rw [← hS1]; simp [slA, Sl.put, Sl.get, old, sd0])
      have HFIN := hid (show S2 = slA R (3 + 1) by rw [← hS2, ← hS1]; simp [slA, Sl.put, HR.out])
      clear hS1 hS2
      go_wp2_with (first
        | (go_at_call 11; (with_reducible refine (O_Prepare HL.out (by decide) 3 (by decide) 3 rfl a0 c t k y v (by decide) HP1.out S1 HS11.out).mono ?_); rintro e w5 ⟨rfl, hl, lf⟩; clear q0 q1 q2 q3 q4 s0 s1 s2 s3 s4; clear HL; have n0_ := hid (lf.blk HQ.out (by simp) (by simp)); have n1_ := hid (lf.blk HS1.out (by simp) (by simp)); have n2_ := hid (lf.below HB.out HF.out); clear HQ HS1 HF; have HQ := n0_; clear n0_; have HS1 := n1_; clear n1_; have HF := n2_; clear n2_; have HL := hid hl; clear hl lf; have q0 := HQ.out.cell 0; have q1 := HQ.out.cell 1; have q2 := HQ.out.cell 2; have q3 := HQ.out.cell 3; have q4 := HQ.out.cell 4; (simp only [List.getElem?_cons_succ, List.getElem?_cons_zero] at q0 q1 q2 q3 q4); have s0 := HS1.out.cell 0; have s1 := HS1.out.cell 1; have s2 := HS1.out.cell 2; have s3 := HS1.out.cell 3; have s4 := HS1.out.cell 4; (simp only [List.getElem?_cons_succ, List.getElem?_cons_zero] at s0 s1 s2 s3 s4))
        | (go_at_call 12; (with_reducible refine (O_Commit HL.out (by decide) 3 (by decide) 3 rfl a0 c t k y v (by decide) HP2.out S2 HS12.out).mono ?_); rintro e w6 ⟨rfl, hl, lf⟩; clear q0 q1 q2 q3 q4 s0 s1 s2 s3 s4; clear HL; have n0_ := hid (lf.blk HQ.out (by simp) (by simp)); have n1_ := hid (lf.blk HS1.out (by simp) (by simp)); have n2_ := hid (lf.below HB.out HF.out); clear HQ HS1 HF; have HQ := n0_; clear n0_; have HS1 := n1_; clear n1_; have HF := n2_; clear n2_; have HL := hid hl; clear hl lf; have q0 := HQ.out.cell 0; have q1 := HQ.out.cell 1; have q2 := HQ.out.cell 2; have q3 := HQ.out.cell 3; have q4 := HQ.out.cell 4; (simp only [List.getElem?_cons_succ, List.getElem?_cons_zero] at q0 q1 q2 q3 q4); have s0 := HS1.out.cell 0; have s1 := HS1.out.cell 1; have s2 := HS1.out.cell 2; have s3 := HS1.out.cell 3; have s4 := HS1.out.cell 4; (simp only [List.getElem?_cons_succ, List.getElem?_cons_zero] at s0 s1 s2 s3 s4)))
      go_roundw
      case rel => exact ⟨3 + 1, by omega, rfl, (HL.out.more (by omega)).cast (by rw [HFIN.out]), HQ.out, HS1.out, HF.out⟩
      case measure => simp [intOf]
    · clear hj
      have HL4 := hid (HL.out.cast (by rw [HA4.out]))
      clear HL
      have HL := HL4
      go_wp2_with (first
        | (go_at_call 13; (with_reducible refine (GCommitted_true HL.out 1 (by decide) TC.out).mono ?_); rintro e w7 ⟨rfl, f'⟩; (rw [HV4.out]); clear q0 q1 q2 q3 q4 s0 s1 s2 s3 s4; have n0_ := hid (HQ.out.frm f' (fun h => h)); have n1_ := hid (HS1.out.frm f' (fun h => h)); have n2_ := hid (below_frm0 HF.out f'); have n3_ := hid (HL.out.quiet f'); clear HQ HS1 HF HL; have HQ := n0_; clear n0_; have HS1 := n1_; clear n1_; have HF := n2_; clear n2_; have HL := n3_; clear n3_; clear f'; have n0_ := hid (HQ.out.alloc ((.cells #[.int .u32 1, .int .u32 a0, .int .u8 c, .int .u32 t, .int .u8 k, .int .u8 y, .int .u16 v] TEn))); have n1_ := hid (HS1.out.alloc ((.cells #[.int .u32 1, .int .u32 a0, .int .u8 c, .int .u32 t, .int .u8 k, .int .u8 y, .int .u16 v] TEn))); have n2_ := hid (HF.out.alloc HF.out.size ((.cells #[.int .u32 1, .int .u32 a0, .int .u8 c, .int .u32 t, .int .u8 k, .int .u8 y, .int .u16 v] TEn))); have n3_ := hid (HL.out.quiet (frm_box _ ((.cells #[.int .u32 1, .int .u32 a0, .int .u8 c, .int .u32 t, .int .u8 k, .int .u8 y, .int .u16 v] TEn)))); clear HQ HS1 HF HL; have HQ := n0_; clear n0_; have HS1 := n1_; clear n1_; have HF := n2_; clear n2_; have HL := n3_; clear n3_; have HE1 := hid (Blk.new w7 [.int .u32 1, .int .u32 a0, .int .u8 c, .int .u32 t, .int .u8 k, .int .u8 y, .int .u16 v] TEn); have q0 := HQ.out.cell 0; have q1 := HQ.out.cell 1; have q2 := HQ.out.cell 2; have q3 := HQ.out.cell 3; have q4 := HQ.out.cell 4; (simp only [List.getElem?_cons_succ, List.getElem?_cons_zero] at q0 q1 q2 q3 q4); have s0 := HS1.out.cell 0; have s1 := HS1.out.cell 1; have s2 := HS1.out.cell 2; have s3 := HS1.out.cell 3; have s4 := HS1.out.cell 4; (simp only [List.getElem?_cons_succ, List.getElem?_cons_zero] at s0 s1 s2 s3 s4); have e0 := HE1.out.cell 0; have e1 := HE1.out.cell 1; have e2 := HE1.out.cell 2; have e3 := HE1.out.cell 3; have e4 := HE1.out.cell 4; have e5 := HE1.out.cell 5; have e6 := HE1.out.cell 6; (simp only [List.getElem?_cons_succ, List.getElem?_cons_zero] at e0 e1 e2 e3 e4 e5 e6))
        | (go_at_call 10; (with_reducible refine (O_acc HL.out (by decide) a1 c2 t2 k2 y2 v2 HV2.out (by decide) HT1.out A5 HA5.out).mono ?_); rintro e w8 ⟨rfl, hl, lf⟩; clear q0 q1 q2 q3 q4 s0 s1 s2 s3 s4 e0 e1 e2 e3 e4 e5 e6; clear HL; have n0_ := hid (lf.blk HQ.out (by simp) (by simp)); have n1_ := hid (lf.blk HS1.out (by simp) (by simp)); have n2_ := hid (lf.blk HE1.out (by simp) (by simp)); have n3_ := hid (lf.below HB.out HF.out); clear HQ HS1 HE1 HF; have HQ := n0_; clear n0_; have HS1 := n1_; clear n1_; have HE1 := n2_; clear n2_; have HF := n3_; clear n3_; have HL := hid hl; clear hl lf; have q0 := HQ.out.cell 0; have q1 := HQ.out.cell 1; have q2 := HQ.out.cell 2; have q3 := HQ.out.cell 3; have q4 := HQ.out.cell 4; (simp only [List.getElem?_cons_succ, List.getElem?_cons_zero] at q0 q1 q2 q3 q4); have s0 := HS1.out.cell 0; have s1 := HS1.out.cell 1; have s2 := HS1.out.cell 2; have s3 := HS1.out.cell 3; have s4 := HS1.out.cell 4; (simp only [List.getElem?_cons_succ, List.getElem?_cons_zero] at s0 s1 s2 s3 s4); have e0 := HE1.out.cell 0; have e1 := HE1.out.cell 1; have e2 := HE1.out.cell 2; have e3 := HE1.out.cell 3; have e4 := HE1.out.cell 4; have e5 := HE1.out.cell 5; have e6 := HE1.out.cell 6; (simp only [List.getElem?_cons_succ, List.getElem?_cons_zero] at e0 e1 e2 e3 e4 e5 e6))
        | (go_at_call 10; (with_reducible refine (O_accT HL.out (by decide) a0 c t k y v HV.out (by decide) HT2.out).mono ?_); rintro e w9 ⟨rfl, hl, lf⟩; clear q0 q1 q2 q3 q4 s0 s1 s2 s3 s4 e0 e1 e2 e3 e4 e5 e6; clear HL; have n0_ := hid (lf.blk HQ.out (by simp) (by simp)); have n1_ := hid (lf.blk HS1.out (by simp) (by simp)); have n2_ := hid (lf.blk HE1.out (by simp) (by simp)); have n3_ := hid (lf.below HB.out HF.out); clear HQ HS1 HE1 HF; have HQ := n0_; clear n0_; have HS1 := n1_; clear n1_; have HE1 := n2_; clear n2_; have HF := n3_; clear n3_; have HL := hid hl; clear hl lf; have q0 := HQ.out.cell 0; have q1 := HQ.out.cell 1; have q2 := HQ.out.cell 2; have q3 := HQ.out.cell 3; have q4 := HQ.out.cell 4; (simp only [List.getElem?_cons_succ, List.getElem?_cons_zero] at q0 q1 q2 q3 q4); have s0 := HS1.out.cell 0; have s1 := HS1.out.cell 1; have s2 := HS1.out.cell 2; have s3 := HS1.out.cell 3; have s4 := HS1.out.cell 4; (simp only [List.getElem?_cons_succ, List.getElem?_cons_zero] at s0 s1 s2 s3 s4); have e0 := HE1.out.cell 0; have e1 := HE1.out.cell 1; have e2 := HE1.out.cell 2; have e3 := HE1.out.cell 3; have e4 := HE1.out.cell 4; have e5 := HE1.out.cell 5; have e6 := HE1.out.cell 6; (simp only [List.getElem?_cons_succ, List.getElem?_cons_zero] at e0 e1 e2 e3 e4 e5 e6))
        | (go_at_call 15; (with_reducible refine (GPrepared_false HL.out 1 (by decide) TP.out).mono ?_); rintro e w10 ⟨rfl, f'⟩; clear e0 e1 e2 e3 e4 e5 e6 HE1; clear q0 q1 q2 q3 q4 s0 s1 s2 s3 s4; have n0_ := hid (HQ.out.frm f' (fun h => h)); have n1_ := hid (HS1.out.frm f' (fun h => h)); have n2_ := hid (below_frm0 HF.out f'); have n3_ := hid (HL.out.quiet f'); clear HQ HS1 HF HL; have HQ := n0_; clear n0_; have HS1 := n1_; clear n1_; have HF := n2_; clear n2_; have HL := n3_; clear n3_; clear f'; have n0_ := hid (HQ.out.alloc ((.cells #[.int .u32 0, .int .u32 0, .int .u8 0, .int .u32 0, .int .u8 0, .int .u8 0, .int .u16 0] TEn))); have n1_ := hid (HS1.out.alloc ((.cells #[.int .u32 0, .int .u32 0, .int .u8 0, .int .u32 0, .int .u8 0, .int .u8 0, .int .u16 0] TEn))); have n2_ := hid (HF.out.alloc HF.out.size ((.cells #[.int .u32 0, .int .u32 0, .int .u8 0, .int .u32 0, .int .u8 0, .int .u8 0, .int .u16 0] TEn))); have n3_ := hid (HL.out.quiet (frm_box _ ((.cells #[.int .u32 0, .int .u32 0, .int .u8 0, .int .u32 0, .int .u8 0, .int .u8 0, .int .u16 0] TEn)))); clear HQ HS1 HF HL; have HQ := n0_; clear n0_; have HS1 := n1_; clear n1_; have HF := n2_; clear n2_; have HL := n3_; clear n3_; have HE2 := hid (Blk.new w10 [.int .u32 0, .int .u32 0, .int .u8 0, .int .u32 0, .int .u8 0, .int .u8 0, .int .u16 0] TEn); have q0 := HQ.out.cell 0; have q1 := HQ.out.cell 1; have q2 := HQ.out.cell 2; have q3 := HQ.out.cell 3; have q4 := HQ.out.cell 4; (simp only [List.getElem?_cons_succ, List.getElem?_cons_zero] at q0 q1 q2 q3 q4); have s0 := HS1.out.cell 0; have s1 := HS1.out.cell 1; have s2 := HS1.out.cell 2; have s3 := HS1.out.cell 3; have s4 := HS1.out.cell 4; (simp only [List.getElem?_cons_succ, List.getElem?_cons_zero] at s0 s1 s2 s3 s4))
        | (go_at_call 17; (with_reducible refine (GAccepted_true HL.out 1 (by decide) TA.out).mono ?_); rintro e w11 ⟨rfl, f'⟩; clear HE2; (rw [HV5.out]); clear q0 q1 q2 q3 q4 s0 s1 s2 s3 s4; have n0_ := hid (HQ.out.frm f' (fun h => h)); have n1_ := hid (HS1.out.frm f' (fun h => h)); have n2_ := hid (below_frm0 HF.out f'); have n3_ := hid (HL.out.quiet f'); clear HQ HS1 HF HL; have HQ := n0_; clear n0_; have HS1 := n1_; clear n1_; have HF := n2_; clear n2_; have HL := n3_; clear n3_; clear f'; have n0_ := hid (HQ.out.alloc ((.cells #[.int .u32 1, .int .u32 a1, .int .u8 c2, .int .u32 t2, .int .u8 k2, .int .u8 y2, .int .u16 v2] TEn))); have n1_ := hid (HS1.out.alloc ((.cells #[.int .u32 1, .int .u32 a1, .int .u8 c2, .int .u32 t2, .int .u8 k2, .int .u8 y2, .int .u16 v2] TEn))); have n2_ := hid (HF.out.alloc HF.out.size ((.cells #[.int .u32 1, .int .u32 a1, .int .u8 c2, .int .u32 t2, .int .u8 k2, .int .u8 y2, .int .u16 v2] TEn))); have n3_ := hid (HL.out.quiet (frm_box _ ((.cells #[.int .u32 1, .int .u32 a1, .int .u8 c2, .int .u32 t2, .int .u8 k2, .int .u8 y2, .int .u16 v2] TEn)))); clear HQ HS1 HF HL; have HQ := n0_; clear n0_; have HS1 := n1_; clear n1_; have HF := n2_; clear n2_; have HL := n3_; clear n3_; have HE3 := hid (Blk.new w11 [.int .u32 1, .int .u32 a1, .int .u8 c2, .int .u32 t2, .int .u8 k2, .int .u8 y2, .int .u16 v2] TEn); have q0 := HQ.out.cell 0; have q1 := HQ.out.cell 1; have q2 := HQ.out.cell 2; have q3 := HQ.out.cell 3; have q4 := HQ.out.cell 4; (simp only [List.getElem?_cons_succ, List.getElem?_cons_zero] at q0 q1 q2 q3 q4); have s0 := HS1.out.cell 0; have s1 := HS1.out.cell 1; have s2 := HS1.out.cell 2; have s3 := HS1.out.cell 3; have s4 := HS1.out.cell 4; (simp only [List.getElem?_cons_succ, List.getElem?_cons_zero] at s0 s1 s2 s3 s4); have g0 := HE3.out.cell 0; have g1 := HE3.out.cell 1; have g2 := HE3.out.cell 2; have g3 := HE3.out.cell 3; have g4 := HE3.out.cell 4; have g5 := HE3.out.cell 5; have g6 := HE3.out.cell 6; (simp only [List.getElem?_cons_succ, List.getElem?_cons_zero] at g0 g1 g2 g3 g4 g5 g6))
        | (go_at_call 11; (with_reducible refine (O_Prepare HL.out (by decide) 1 (by decide) 1 rfl a1 c2 t2 k2 y2 v2 (by decide) HO1.out A6 HA6.out).mono ?_); rintro e w12 ⟨rfl, hl, lf⟩; clear HO1; clear q0 q1 q2 q3 q4 s0 s1 s2 s3 s4 g0 g1 g2 g3 g4 g5 g6; clear HL; have n0_ := hid (lf.blk HQ.out (by simp) (by simp)); have n1_ := hid (lf.blk HS1.out (by simp) (by simp)); have n2_ := hid (lf.blk HE3.out (by simp) (by simp)); have n3_ := hid (lf.below HB.out HF.out); clear HQ HS1 HE3 HF; have HQ := n0_; clear n0_; have HS1 := n1_; clear n1_; have HE3 := n2_; clear n2_; have HF := n3_; clear n3_; have HL := hid hl; clear hl lf; have q0 := HQ.out.cell 0; have q1 := HQ.out.cell 1; have q2 := HQ.out.cell 2; have q3 := HQ.out.cell 3; have q4 := HQ.out.cell 4; (simp only [List.getElem?_cons_succ, List.getElem?_cons_zero] at q0 q1 q2 q3 q4); have s0 := HS1.out.cell 0; have s1 := HS1.out.cell 1; have s2 := HS1.out.cell 2; have s3 := HS1.out.cell 3; have s4 := HS1.out.cell 4; (simp only [List.getElem?_cons_succ, List.getElem?_cons_zero] at s0 s1 s2 s3 s4); have g0 := HE3.out.cell 0; have g1 := HE3.out.cell 1; have g2 := HE3.out.cell 2; have g3 := HE3.out.cell 3; have g4 := HE3.out.cell 4; have g5 := HE3.out.cell 5; have g6 := HE3.out.cell 6; (simp only [List.getElem?_cons_succ, List.getElem?_cons_zero] at g0 g1 g2 g3 g4 g5 g6))
        | (go_at_call 11; (with_reducible refine (O_PrepareT HL.out (by decide) 1 (by decide) 1 rfl a0 c t k y v (by decide) HO2.out).mono ?_); rintro e w13 ⟨rfl, hl, lf⟩; clear q0 q1 q2 q3 q4 s0 s1 s2 s3 s4 g0 g1 g2 g3 g4 g5 g6; clear HL; have n0_ := hid (lf.blk HQ.out (by simp) (by simp)); have n1_ := hid (lf.blk HS1.out (by simp) (by simp)); have n2_ := hid (lf.blk HE3.out (by simp) (by simp)); have n3_ := hid (lf.below HB.out HF.out); clear HQ HS1 HE3 HF; have HQ := n0_; clear n0_; have HS1 := n1_; clear n1_; have HE3 := n2_; clear n2_; have HF := n3_; clear n3_; have HL := hid hl; clear hl lf; have q0 := HQ.out.cell 0; have q1 := HQ.out.cell 1; have q2 := HQ.out.cell 2; have q3 := HQ.out.cell 3; have q4 := HQ.out.cell 4; (simp only [List.getElem?_cons_succ, List.getElem?_cons_zero] at q0 q1 q2 q3 q4); have s0 := HS1.out.cell 0; have s1 := HS1.out.cell 1; have s2 := HS1.out.cell 2; have s3 := HS1.out.cell 3; have s4 := HS1.out.cell 4; (simp only [List.getElem?_cons_succ, List.getElem?_cons_zero] at s0 s1 s2 s3 s4); have g0 := HE3.out.cell 0; have g1 := HE3.out.cell 1; have g2 := HE3.out.cell 2; have g3 := HE3.out.cell 3; have g4 := HE3.out.cell 4; have g5 := HE3.out.cell 5; have g6 := HE3.out.cell 6; (simp only [List.getElem?_cons_succ, List.getElem?_cons_zero] at g0 g1 g2 g3 g4 g5 g6)))
      go_ret
      exact ⟨rfl, HF.out⟩
end Go.Proofs.Ytijomhinfcahpaa
