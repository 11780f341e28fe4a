/- SlotQuorum, walked: a request is prepared just when two replicas but the primary say so, committed just when three say so besides. -/
import Derived.Test.YtijomhinfcahpaaSlotOneP
namespace Go.Proofs.Ytijomhinfcahpaa
open Go.RowKit Go.ChangeShapes
set_option linter.unusedVariables false
set_option linter.unusedSimpArgs false
set_option maxRecDepth 20000
def slQ (R : Sd) (k : Nat) (P C : Nat → Bool) : Sl :=
  ⟨R, if 0 < k ∧ P 0 = true then R else sd0, if 1 < k ∧ P 1 = true then R else sd0, if 2 < k ∧ P 2 = true then R else sd0, if 3 < k ∧ P 3 = true then R else sd0,
    if 0 < k ∧ C 0 = true then R else sd0, if 1 < k ∧ C 1 = true then R else sd0, if 2 < k ∧ C 2 = true then R else sd0, if 3 < k ∧ C 3 = true then R else sd0⟩
def pc (P : Nat → Bool) (p : Int) : Nat → Int
  | 0 => 0
  | k + 1 => pc P p k + (if P k = true ∧ (k : Int) ≠ p then 1 else 0)
def cc (C : Nat → Bool) : Nat → Int
  | 0 => 0
  | k + 1 => cc C k + (if C k = true then 1 else 0)
theorem pc_le (P : Nat → Bool) (p : Int) (k : Nat) : 0 ≤ pc P p k ∧ pc P p k ≤ k := by
  induction k with
  | zero => exact ⟨Int.le_refl _, Int.le_refl _⟩
  | succ k ih => unfold pc; split <;> omega
theorem cc_le (C : Nat → Bool) (k : Nat) : 0 ≤ cc C k ∧ cc C k ≤ k := by
  induction k with
  | zero => exact ⟨Int.le_refl _, Int.le_refl _⟩
  | succ k ih => unfold cc; split <;> omega
theorem hit_pick {R : Sd} (hR : R.th = true) (b : Bool) (j i : Int) (k : Nat) (hk : j.toNat < k) (n : Nat) (hn : n < k) : hit (if n < k ∧ b = true then R else sd0) R j i = if b = true ∧ j ≠ i then 1 else 0 := by
  cases b
  · rw [if_neg (by simp), if_neg (by simp)]
    refine hit_no ?_
    unfold sdEq sd0
    rw [hR]; rfl
  · rw [if_pos ⟨hn, rfl⟩]
    by_cases h : j = i
    · rw [hit_but h, if_neg (fun h2 => h2.2 h)]
    · rw [hit_yes ((sdEq_iff _ _).2 rfl) h, if_pos ⟨rfl, h⟩]
theorem rdyQ {R : Sd} (hR : R.th = true) (P C : Nat → Bool) : rdyS (slQ R 4 P C) = decide (2 ≤ pc P (R.vw % 4) 4) := by
  unfold rdyS slQ cnt4
  dsimp only
  rw [hit_pick hR _ 0 _ 4 (by decide) 0 (by decide), hit_pick hR _ 1 _ 4 (by decide) 1 (by decide), hit_pick hR _ 2 _ 4 (by decide) 2 (by decide), hit_pick hR _ 3 _ 4 (by decide) 3 (by decide)]
  have : pc P (R.vw % 4) 4 = (if P 0 = true ∧ (0 : Int) ≠ R.vw % 4 then 1 else 0) + (if P 1 = true ∧ (1 : Int) ≠ R.vw % 4 then 1 else 0) + (if P 2 = true ∧ (2 : Int) ≠ R.vw % 4 then 1 else 0) + (if P 3 = true ∧ (3 : Int) ≠ R.vw % 4 then 1 else 0) := by
    simp only [pc, Int.zero_add]; rfl
  rw [this]
theorem comQ {R : Sd} (hR : R.th = true) (P C : Nat → Bool) : comS (slQ R 4 P C) = (decide (2 ≤ pc P (R.vw % 4) 4) && decide (3 ≤ cc C 4)) := by
  unfold comS
  rw [rdyQ hR]
  congr 1
  unfold slQ cnt4
  dsimp only
  rw [hit_pick hR _ 0 _ 4 (by decide) 0 (by decide), hit_pick hR _ 1 _ 4 (by decide) 1 (by decide), hit_pick hR _ 2 _ 4 (by decide) 2 (by decide), hit_pick hR _ 3 _ 4 (by decide) 3 (by decide)]
  have : cc C 4 = (if C 0 = true then 1 else 0) + (if C 1 = true then 1 else 0) + (if C 2 = true then 1 else 0) + (if C 3 = true then 1 else 0) := by simp only [cc, Int.zero_add]
  rw [this]
  simp
def bitOf (n : Int) (k : Nat) : Bool := Go.bits .and .u8 (n / 2 ^ k) 1 == 1
set_option maxRecDepth 100000 in
set_option maxHeartbeats 16000000 in
theorem SlotQuorum_walk (a0 a1 a2 : Int) (l3 : List Value) (x3 : Int × Int × (Int × Int × Int × Unit) × Unit) (w : World) (h0 : (Lit.int .u32 a0).wf = true) (h1 : (Lit.int .u8 a1).wf = true) (h2 : (Lit.int .u8 a2).wf = true) (h3 : c27.K w x3 l3) :
    Calls Try.prog 4 #[.int .u32 a0, .int .u8 a1, .int .u8 a2, .agg l3.toArray] w fun e w' => e = .returned (.bool true) ∧ Below w.heap.size w w' := by
  obtain ⟨c, t, kk, y, v, rfl, -, -, -, -, -⟩ := rq_of h3
  have hv := bnd32 h0
  obtain ⟨R, hR⟩ : ∃ R : Sd, R = ⟨true, a0, c, t, kk, y, v⟩ := ⟨_, rfl⟩
  obtain ⟨P, hP⟩ : ∃ P, P = bitOf a1 := ⟨_, rfl⟩
  obtain ⟨C, hC⟩ : ∃ C, C = bitOf a2 := ⟨_, rfl⟩
  obtain ⟨p, hp⟩ : ∃ p, a0 % 4 = p := ⟨_, rfl⟩
  have hpb : 0 ≤ p ∧ p < 4 := by omega
  have HPB := hid hpb
  have HV := hid hv; have HR := hid hR; have HP := hid hP; have HC := hid hC; have HPR := hid hp
  have HRT := hid (show R.th = true by rw [hR])
  have HRV := hid (show R.vw = a0 by rw [hR])
  have HRO := hid (show old R a0 = true by rw [hR]; simp [old])
  have HQ0 := hid (Blk.new w [.int .u8 c, .int .u32 t, .int .u8 kk, .int .u8 y, .int .u16 v] TRq)
  have HF0 := hid ((Below.refl w.heap.size w).alloc (Nat.le_refl _) (.cells #[.int .u8 c, .int .u32 t, .int .u8 kk, .int .u8 y, .int .u16 v] TRq))
  clear h0 h1 h2 h3 hv hR hP hC hp hpb
  go_enter Try.func4, Try.ntmps4
  go_wp2_with (first
    | (go_at_call 8; (with_reducible refine (known_calls _).mono ?_); rintro e w1 ⟨rfl, f1⟩; have HQ := hid (HQ0.out.frm (frm0_of f1) (fun h => h)); have HF := hid (below_next HF0.out f1); clear HQ0 HF0 f1; have q0 := HQ.out.cell 0; have q1 := HQ.out.cell 1; have q2 := HQ.out.cell 2; have q3 := HQ.out.cell 3; have q4 := HQ.out.cell 4; (simp only [List.getElem?_cons_succ, List.getElem?_cons_zero] at q0 q1 q2 q3 q4))
    | (go_at_call 9; (with_reducible refine (GNew_calls w1 0 (by decide)).mono ?_); rintro e w2 ⟨lb, rfl, hl, hlb, f'⟩; clear q0 q1 q2 q3 q4; have HQ2 := hid (HQ.out.frm (frm0_of f') (fun h => h)); have HF2 := hid (below_next HF.out f'); have HB := hid HF.out.size; clear HQ HF; have HQ := HQ2; have HF := HF2; clear HQ2 HF2; have HL0 := hid hl; clear hl f' hlb; have q0 := HQ.out.cell 0; have q1 := HQ.out.cell 1; have q2 := HQ.out.cell 2; have q3 := HQ.out.cell 3; have q4 := HQ.out.cell 4; (simp only [List.getElem?_cons_succ, List.getElem?_cons_zero] at q0 q1 q2 q3 q4))
    | (go_at_call 10; (with_reducible refine (O_acc0 HL0.out (by decide) a0 3 c t kk y v HV.out (by decide) _ rfl).mono ?_); rintro e w3 ⟨rfl, hl, lf⟩; clear q0 q1 q2 q3 q4; have HQ2 := hid (lf.blk HQ.out (by simp) (by simp)); have HF2 := hid (lf.below HB.out HF.out); clear HQ HF HL0; have HQ := HQ2; have HF := HF2; clear HQ2 HF2; have HL := hid hl; clear hl lf))
  go_loopw [10, 11, 12] (fun pv cv iv wr => ∃ k : Nat, k ≤ 4 ∧ pv = .int .i64 (pc P p k) ∧ cv = .int .i64 (cc C k) ∧ iv = .int .u8 k ∧ Lg wr w1.heap.size lb 0 (3 * k + 1) (one 3 (slQ R k P C)) ∧ Blk wr w.heap.size [.int .u8 c, .int .u32 t, .int .u8 kk, .int .u8 y, .int .u16 v] TRq ∧ Below w.heap.size w wr) (fun _ _ i _ => 4 - (intOf i).toNat)
  case atStart => exact ⟨0, by omega, rfl, rfl, rfl, HL.out.cast (by rw [HR.out]; rfl), HQ.out, HF.out⟩
  case round =>
    clear HL HQ HF
    obtain ⟨k, hk, rfl, rfl, rfl, hl, hq, hf⟩ := hrel
    have HL := hid hl; have HQ := hid hq; have HF := hid hf; clear hl hq hf
    have q0 := HQ.out.cell 0; have q1 := HQ.out.cell 1; have q2 := HQ.out.cell 2; have q3 := HQ.out.cell 3; have q4 := HQ.out.cell 4; (simp only [List.getElem?_cons_succ, List.getElem?_cons_zero] at q0 q1 q2 q3 q4)
    have hpl := pc_le P p k; have hcl := cc_le C k
    obtain ⟨pn, hpn⟩ : ∃ n, pc P p k = n := ⟨_, rfl⟩
    obtain ⟨cn, hcn⟩ : ∃ n, cc C k = n := ⟨_, rfl⟩
    rw [hpn] at hpl ⊢
    rw [hcn] at hcl ⊢
    obtain ⟨hp0, hp4⟩ := hpl; obtain ⟨hc0, hc4⟩ := hcl
    have hp5 : pn ≤ 4 := by omega
    have hc5 : cn ≤ 4 := by omega
    have HPN := hid hpn; have HCN := hid hcn
    clear hpn hcn hp4 hc4
    rcases (show k = 0 ∨ k = 1 ∨ k = 2 ∨ k = 3 ∨ k = 4 by omega) with rfl | rfl | rfl | rfl | rfl
    · clear hk
      obtain ⟨X, hX⟩ : ∃ X, Go.bits .and .u8 (a1) 1 = X := ⟨_, rfl⟩
      obtain ⟨Y, hY⟩ : ∃ Y, Go.bits .and .u8 (a2) 1 = Y := ⟨_, rfl⟩
      have hPK : P 0 = (X == 1) := by rw [HP.out, ← hX]; unfold bitOf; simp
      have hCK : C 0 = (Y == 1) := by rw [HC.out, ← hY]; unfold bitOf; simp
      cases zX : (X == 1)
      · rw [zX] at hPK
        have HPK := hid hPK
        have HP1 := hid (show pc P p (0 + 1) = pn by rw [pc, HPN.out, hPK]; simp)
        clear hPK
        cases zY : (Y == 1)
        · rw [zY] at hCK
          have HCK := hid hCK
          have HC1 := hid (show cc C (0 + 1) = cn by rw [cc, HCN.out, hCK]; simp)
          have HFIN := hid (show slQ R 0 P C = slQ R (0 + 1) P C by simp [slQ, HPK.out, HCK.out])
          clear hCK
          go_wp2
          go_roundw
          case rel => exact ⟨0 + 1, by omega, by rw [HP1.out], by rw [HC1.out], rfl, (HL.out.more (by omega)).cast (by rw [HFIN.out]), HQ.out, HF.out⟩
          case measure => simp [intOf]
        · rw [zY] at hCK
          have HCK := hid hCK
          have HC1 := hid (show cc C (0 + 1) = cn + 1 by rw [cc, HCN.out, hCK]; simp)
          clear hCK
          obtain ⟨S2, hS2⟩ : ∃ S, (slQ R 0 P C).put (4 + 0) ⟨true, a0, c, t, kk, y, v⟩ = S := ⟨_, rfl⟩
          have HS2 := hid hS2
          have HO3 := hid (show old ((slQ R 0 P C).get (4 + 0)) a0 = false by simp [slQ, Sl.get, old, sd0])
          have HFIN := hid (show S2 = slQ R (0 + 1) P C by rw [← hS2]; simp [slQ, Sl.put, HPK.out, HCK.out, HR.out])
          clear hS2
          go_wp2_with (first
            | (go_at_call 12; (with_reducible refine (O_Commit HL.out (by decide) 0 (by decide) 0 rfl a0 c t kk y v (by decide) HO3.out S2 HS2.out).mono ?_); rintro e w7 ⟨rfl, hl, lf⟩; clear q0 q1 q2 q3 q4; have HQ2 := hid (lf.blk HQ.out (by simp) (by simp)); have HF2 := hid (lf.below HB.out HF.out); clear HQ HF HL; have HQ := HQ2; have HF := HF2; clear HQ2 HF2; have HL := hid hl; clear hl lf; have q0 := HQ.out.cell 0; have q1 := HQ.out.cell 1; have q2 := HQ.out.cell 2; have q3 := HQ.out.cell 3; have q4 := HQ.out.cell 4; (simp only [List.getElem?_cons_succ, List.getElem?_cons_zero] at q0 q1 q2 q3 q4)))
          go_roundw
          case rel => exact ⟨0 + 1, by omega, by rw [HP1.out], by rw [HC1.out], rfl, (HL.out.more (by omega)).cast (by rw [HFIN.out]), HQ.out, HF.out⟩
          case measure => simp [intOf]
      · rw [zX] at hPK
        have HPK := hid hPK
        obtain ⟨S1, hS1⟩ : ∃ S, (slQ R 0 P C).put (0 + 0) ⟨true, a0, c, t, kk, y, v⟩ = S := ⟨_, rfl⟩
        have HS1 := hid hS1
        have HO1 := hid (show old ((slQ R 0 P C).get (0 + 0)) a0 = false by simp [slQ, Sl.get, old, sd0])
        have HO2 := hid (show old (S1.get (0 + 0)) a0 = true by rw [← hS1]; simp [Sl.put, Sl.get, old])
        have HP1 := hid (show pc P p (0 + 1) = pn + (if (0 : Int) ≠ p then 1 else 0) by rw [pc, HPN.out, hPK]; simp)
        clear hPK
        cases zY : (Y == 1)
        · rw [zY] at hCK
          have HCK := hid hCK
          have HC1 := hid (show cc C (0 + 1) = cn by rw [cc, HCN.out, hCK]; simp)
          have HFIN := hid (show S1 = slQ R (0 + 1) P C by rw [← hS1]; simp [slQ, Sl.put, HPK.out, HCK.out, HR.out])
          clear hCK hS1
          by_cases hkp : (0 : Int) = p
          · subst hkp
            go_wp2_with (first
              | (go_at_call 11; (with_reducible refine (O_Prepare HL.out (by decide) 0 (by decide) 0 rfl a0 c t kk y v (by decide) HO1.out S1 HS1.out).mono ?_); rintro e w5 ⟨rfl, hl, lf⟩; clear q0 q1 q2 q3 q4; clear HO1; have HQ2 := hid (lf.blk HQ.out (by simp) (by simp)); have HF2 := hid (lf.below HB.out HF.out); clear HQ HF HL; have HQ := HQ2; have HF := HF2; clear HQ2 HF2; have HL := hid hl; clear hl lf; have q0 := HQ.out.cell 0; have q1 := HQ.out.cell 1; have q2 := HQ.out.cell 2; have q3 := HQ.out.cell 3; have q4 := HQ.out.cell 4; (simp only [List.getElem?_cons_succ, List.getElem?_cons_zero] at q0 q1 q2 q3 q4))
              | (go_at_call 11; (with_reducible refine (O_PrepareT HL.out (by decide) 0 (by decide) 0 rfl a0 c t kk y v (by decide) HO2.out).mono ?_); rintro e w6 ⟨rfl, hl, lf⟩; clear q0 q1 q2 q3 q4; have HQ2 := hid (lf.blk HQ.out (by simp) (by simp)); have HF2 := hid (lf.below HB.out HF.out); clear HQ HF HL; have HQ := HQ2; have HF := HF2; clear HQ2 HF2; have HL := hid hl; clear hl lf; have q0 := HQ.out.cell 0; have q1 := HQ.out.cell 1; have q2 := HQ.out.cell 2; have q3 := HQ.out.cell 3; have q4 := HQ.out.cell 4; (simp only [List.getElem?_cons_succ, List.getElem?_cons_zero] at q0 q1 q2 q3 q4))
              | (go_at_call 14; (with_reducible refine (Primary_calls _ a0 _ HV.out.1 HPR.out).mono ?_); rintro e w' ⟨rfl, rfl⟩; skip))
            go_roundw
            case rel => exact ⟨0 + 1, by omega, by rw [HP1.out, if_neg (fun h => h rfl), Int.add_zero], by rw [HC1.out], rfl, (HL.out.more (by omega)).cast (by rw [HFIN.out]), HQ.out, HF.out⟩
            case measure => simp [intOf]
          · have z8 : ((0 : Int) == p) = false := beq_eq_false_iff_ne.2 hkp
            have z9 : ((0 : Int) != p) = true := by rw [bne, z8]; rfl
            have HKP := hid hkp; clear hkp
            go_wp2_with (first
              | (go_at_call 11; (with_reducible refine (O_Prepare HL.out (by decide) 0 (by decide) 0 rfl a0 c t kk y v (by decide) HO1.out S1 HS1.out).mono ?_); rintro e w5 ⟨rfl, hl, lf⟩; clear q0 q1 q2 q3 q4; clear HO1; have HQ2 := hid (lf.blk HQ.out (by simp) (by simp)); have HF2 := hid (lf.below HB.out HF.out); clear HQ HF HL; have HQ := HQ2; have HF := HF2; clear HQ2 HF2; have HL := hid hl; clear hl lf; have q0 := HQ.out.cell 0; have q1 := HQ.out.cell 1; have q2 := HQ.out.cell 2; have q3 := HQ.out.cell 3; have q4 := HQ.out.cell 4; (simp only [List.getElem?_cons_succ, List.getElem?_cons_zero] at q0 q1 q2 q3 q4))
              | (go_at_call 11; (with_reducible refine (O_PrepareT HL.out (by decide) 0 (by decide) 0 rfl a0 c t kk y v (by decide) HO2.out).mono ?_); rintro e w6 ⟨rfl, hl, lf⟩; clear q0 q1 q2 q3 q4; have HQ2 := hid (lf.blk HQ.out (by simp) (by simp)); have HF2 := hid (lf.below HB.out HF.out); clear HQ HF HL; have HQ := HQ2; have HF := HF2; clear HQ2 HF2; have HL := hid hl; clear hl lf; have q0 := HQ.out.cell 0; have q1 := HQ.out.cell 1; have q2 := HQ.out.cell 2; have q3 := HQ.out.cell 3; have q4 := HQ.out.cell 4; (simp only [List.getElem?_cons_succ, List.getElem?_cons_zero] at q0 q1 q2 q3 q4))
              | (go_at_call 14; (with_reducible refine (Primary_calls _ a0 _ HV.out.1 HPR.out).mono ?_); rintro e w' ⟨rfl, rfl⟩; skip))
            go_roundw
            case rel => exact ⟨0 + 1, by omega, by rw [HP1.out, if_pos HKP.out], by rw [HC1.out], rfl, (HL.out.more (by omega)).cast (by rw [HFIN.out]), HQ.out, HF.out⟩
            case measure => simp [intOf]
        · rw [zY] at hCK
          have HCK := hid hCK
          have HC1 := hid (show cc C (0 + 1) = cn + 1 by rw [cc, HCN.out, hCK]; simp)
          obtain ⟨S2, hS2⟩ : ∃ S, S1.put (4 + 0) ⟨true, a0, c, t, kk, y, v⟩ = S := ⟨_, rfl⟩
          have HS2 := hid hS2
          have HO3 := hid (show old (S1.get (4 + 0)) a0 = false by rw [← hS1]; simp [slQ, Sl.put, Sl.get, old, sd0])
          have HFIN := hid (show S2 = slQ R (0 + 1) P C by rw [← hS2, ← hS1]; simp [slQ, Sl.put, HPK.out, HCK.out, HR.out])
          clear hCK hS1 hS2
          by_cases hkp : (0 : Int) = p
          · subst hkp
            go_wp2_with (first
              | (go_at_call 11; (with_reducible refine (O_Prepare HL.out (by decide) 0 (by decide) 0 rfl a0 c t kk y v (by decide) HO1.out S1 HS1.out).mono ?_); rintro e w5 ⟨rfl, hl, lf⟩; clear q0 q1 q2 q3 q4; clear HO1; have HQ2 := hid (lf.blk HQ.out (by simp) (by simp)); have HF2 := hid (lf.below HB.out HF.out); clear HQ HF HL; have HQ := HQ2; have HF := HF2; clear HQ2 HF2; have HL := hid hl; clear hl lf; have q0 := HQ.out.cell 0; have q1 := HQ.out.cell 1; have q2 := HQ.out.cell 2; have q3 := HQ.out.cell 3; have q4 := HQ.out.cell 4; (simp only [List.getElem?_cons_succ, List.getElem?_cons_zero] at q0 q1 q2 q3 q4))
              | (go_at_call 11; (with_reducible refine (O_PrepareT HL.out (by decide) 0 (by decide) 0 rfl a0 c t kk y v (by decide) HO2.out).mono ?_); rintro e w6 ⟨rfl, hl, lf⟩; clear q0 q1 q2 q3 q4; have HQ2 := hid (lf.blk HQ.out (by simp) (by simp)); have HF2 := hid (lf.below HB.out HF.out); clear HQ HF HL; have HQ := HQ2; have HF := HF2; clear HQ2 HF2; have HL := hid hl; clear hl lf; have q0 := HQ.out.cell 0; have q1 := HQ.out.cell 1; have q2 := HQ.out.cell 2; have q3 := HQ.out.cell 3; have q4 := HQ.out.cell 4; (simp only [List.getElem?_cons_succ, List.getElem?_cons_zero] at q0 q1 q2 q3 q4))
              | (go_at_call 14; (with_reducible refine (Primary_calls _ a0 _ HV.out.1 HPR.out).mono ?_); rintro e w' ⟨rfl, rfl⟩; skip)
              | (go_at_call 12; (with_reducible refine (O_Commit HL.out (by decide) 0 (by decide) 0 rfl a0 c t kk y v (by decide) HO3.out S2 HS2.out).mono ?_); rintro e w7 ⟨rfl, hl, lf⟩; clear q0 q1 q2 q3 q4; have HQ2 := hid (lf.blk HQ.out (by simp) (by simp)); have HF2 := hid (lf.below HB.out HF.out); clear HQ HF HL; have HQ := HQ2; have HF := HF2; clear HQ2 HF2; have HL := hid hl; clear hl lf; have q0 := HQ.out.cell 0; have q1 := HQ.out.cell 1; have q2 := HQ.out.cell 2; have q3 := HQ.out.cell 3; have q4 := HQ.out.cell 4; (simp only [List.getElem?_cons_succ, List.getElem?_cons_zero] at q0 q1 q2 q3 q4)))
            go_roundw
            case rel => exact ⟨0 + 1, by omega, by rw [HP1.out, if_neg (fun h => h rfl), Int.add_zero], by rw [HC1.out], rfl, (HL.out.more (by omega)).cast (by rw [HFIN.out]), HQ.out, HF.out⟩
            case measure => simp [intOf]
          · have z8 : ((0 : Int) == p) = false := beq_eq_false_iff_ne.2 hkp
            have z9 : ((0 : Int) != p) = true := by rw [bne, z8]; rfl
            have HKP := hid hkp; clear hkp
            go_wp2_with (first
              | (go_at_call 11; (with_reducible refine (O_Prepare HL.out (by decide) 0 (by decide) 0 rfl a0 c t kk y v (by decide) HO1.out S1 HS1.out).mono ?_); rintro e w5 ⟨rfl, hl, lf⟩; clear q0 q1 q2 q3 q4; clear HO1; have HQ2 := hid (lf.blk HQ.out (by simp) (by simp)); have HF2 := hid (lf.below HB.out HF.out); clear HQ HF HL; have HQ := HQ2; have HF := HF2; clear HQ2 HF2; have HL := hid hl; clear hl lf; have q0 := HQ.out.cell 0; have q1 := HQ.out.cell 1; have q2 := HQ.out.cell 2; have q3 := HQ.out.cell 3; have q4 := HQ.out.cell 4; (simp only [List.getElem?_cons_succ, List.getElem?_cons_zero] at q0 q1 q2 q3 q4))
              | (go_at_call 11; (with_reducible refine (O_PrepareT HL.out (by decide) 0 (by decide) 0 rfl a0 c t kk y v (by decide) HO2.out).mono ?_); rintro e w6 ⟨rfl, hl, lf⟩; clear q0 q1 q2 q3 q4; have HQ2 := hid (lf.blk HQ.out (by simp) (by simp)); have HF2 := hid (lf.below HB.out HF.out); clear HQ HF HL; have HQ := HQ2; have HF := HF2; clear HQ2 HF2; have HL := hid hl; clear hl lf; have q0 := HQ.out.cell 0; have q1 := HQ.out.cell 1; have q2 := HQ.out.cell 2; have q3 := HQ.out.cell 3; have q4 := HQ.out.cell 4; (simp only [List.getElem?_cons_succ, List.getElem?_cons_zero] at q0 q1 q2 q3 q4))
              | (go_at_call 14; (with_reducible refine (Primary_calls _ a0 _ HV.out.1 HPR.out).mono ?_); rintro e w' ⟨rfl, rfl⟩; skip)
              | (go_at_call 12; (with_reducible refine (O_Commit HL.out (by decide) 0 (by decide) 0 rfl a0 c t kk y v (by decide) HO3.out S2 HS2.out).mono ?_); rintro e w7 ⟨rfl, hl, lf⟩; clear q0 q1 q2 q3 q4; have HQ2 := hid (lf.blk HQ.out (by simp) (by simp)); have HF2 := hid (lf.below HB.out HF.out); clear HQ HF HL; have HQ := HQ2; have HF := HF2; clear HQ2 HF2; have HL := hid hl; clear hl lf; have q0 := HQ.out.cell 0; have q1 := HQ.out.cell 1; have q2 := HQ.out.cell 2; have q3 := HQ.out.cell 3; have q4 := HQ.out.cell 4; (simp only [List.getElem?_cons_succ, List.getElem?_cons_zero] at q0 q1 q2 q3 q4)))
            go_roundw
            case rel => exact ⟨0 + 1, by omega, by rw [HP1.out, if_pos HKP.out], by rw [HC1.out], rfl, (HL.out.more (by omega)).cast (by rw [HFIN.out]), HQ.out, HF.out⟩
            case measure => simp [intOf]
    · clear hk
      obtain ⟨X, hX⟩ : ∃ X, Go.bits .and .u8 (a1 / 2) 1 = X := ⟨_, rfl⟩
      obtain ⟨Y, hY⟩ : ∃ Y, Go.bits .and .u8 (a2 / 2) 1 = Y := ⟨_, rfl⟩
      have hPK : P 1 = (X == 1) := by rw [HP.out, ← hX]; unfold bitOf; simp
      have hCK : C 1 = (Y == 1) := by rw [HC.out, ← hY]; unfold bitOf; simp
      cases zX : (X == 1)
      · rw [zX] at hPK
        have HPK := hid hPK
        have HP1 := hid (show pc P p (1 + 1) = pn by rw [pc, HPN.out, hPK]; simp)
        clear hPK
        cases zY : (Y == 1)
        · rw [zY] at hCK
          have HCK := hid hCK
          have HC1 := hid (show cc C (1 + 1) = cn by rw [cc, HCN.out, hCK]; simp)
          have HFIN := hid (show slQ R 1 P C = slQ R (1 + 1) P C by simp [slQ, HPK.out, HCK.out])
          clear hCK
          go_wp2
          go_roundw
          case rel => exact ⟨1 + 1, by omega, by rw [HP1.out], by rw [HC1.out], rfl, (HL.out.more (by omega)).cast (by rw [HFIN.out]), HQ.out, HF.out⟩
          case measure => simp [intOf]
        · rw [zY] at hCK
          have HCK := hid hCK
          have HC1 := hid (show cc C (1 + 1) = cn + 1 by rw [cc, HCN.out, hCK]; simp)
          clear hCK
          obtain ⟨S2, hS2⟩ : ∃ S, (slQ R 1 P C).put (4 + 1) ⟨true, a0, c, t, kk, y, v⟩ = S := ⟨_, rfl⟩
          have HS2 := hid hS2
          have HO3 := hid (show old ((slQ R 1 P C).get (4 + 1)) a0 = false by simp [slQ, Sl.get, old, sd0])
          have HFIN := hid (show S2 = slQ R (1 + 1) P C by rw [← hS2]; simp [slQ, Sl.put, HPK.out, HCK.out, HR.out])
          clear hS2
          go_wp2_with (first
            | (go_at_call 12; (with_reducible refine (O_Commit HL.out (by decide) 1 (by decide) 1 rfl a0 c t kk y v (by decide) HO3.out S2 HS2.out).mono ?_); rintro e w7 ⟨rfl, hl, lf⟩; clear q0 q1 q2 q3 q4; have HQ2 := hid (lf.blk HQ.out (by simp) (by simp)); have HF2 := hid (lf.below HB.out HF.out); clear HQ HF HL; have HQ := HQ2; have HF := HF2; clear HQ2 HF2; have HL := hid hl; clear hl lf; have q0 := HQ.out.cell 0; have q1 := HQ.out.cell 1; have q2 := HQ.out.cell 2; have q3 := HQ.out.cell 3; have q4 := HQ.out.cell 4; (simp only [List.getElem?_cons_succ, List.getElem?_cons_zero] at q0 q1 q2 q3 q4)))
          go_roundw
          case rel => exact ⟨1 + 1, by omega, by rw [HP1.out], by rw [HC1.out], rfl, (HL.out.more (by omega)).cast (by rw [HFIN.out]), HQ.out, HF.out⟩
          case measure => simp [intOf]
      · rw [zX] at hPK
        have HPK := hid hPK
        obtain ⟨S1, hS1⟩ : ∃ S, (slQ R 1 P C).put (0 + 1) ⟨true, a0, c, t, kk, y, v⟩ = S := ⟨_, rfl⟩
        have HS1 := hid hS1
        have HO1 := hid (show old ((slQ R 1 P C).get (0 + 1)) a0 = false by simp [slQ, Sl.get, old, sd0])
        have HO2 := hid (show old (S1.get (0 + 1)) a0 = true by rw [← hS1]; simp [Sl.put, Sl.get, old])
        have HP1 := hid (show pc P p (1 + 1) = pn + (if (1 : Int) ≠ p then 1 else 0) by rw [pc, HPN.out, hPK]; simp)
        clear hPK
        cases zY : (Y == 1)
        · rw [zY] at hCK
          have HCK := hid hCK
          have HC1 := hid (show cc C (1 + 1) = cn by rw [cc, HCN.out, hCK]; simp)
          have HFIN := hid (show S1 = slQ R (1 + 1) P C by rw [← hS1]; simp [slQ, Sl.put, HPK.out, HCK.out, HR.out])
          clear hCK hS1
          by_cases hkp : (1 : Int) = p
          · subst hkp
            go_wp2_with (first
              | (go_at_call 11; (with_reducible refine (O_Prepare HL.out (by decide) 1 (by decide) 1 rfl a0 c t kk y v (by decide) HO1.out S1 HS1.out).mono ?_); rintro e w5 ⟨rfl, hl, lf⟩; clear q0 q1 q2 q3 q4; clear HO1; have HQ2 := hid (lf.blk HQ.out (by simp) (by simp)); have HF2 := hid (lf.below HB.out HF.out); clear HQ HF HL; have HQ := HQ2; have HF := HF2; clear HQ2 HF2; have HL := hid hl; clear hl lf; have q0 := HQ.out.cell 0; have q1 := HQ.out.cell 1; have q2 := HQ.out.cell 2; have q3 := HQ.out.cell 3; have q4 := HQ.out.cell 4; (simp only [List.getElem?_cons_succ, List.getElem?_cons_zero] at q0 q1 q2 q3 q4))
              | (go_at_call 11; (with_reducible refine (O_PrepareT HL.out (by decide) 1 (by decide) 1 rfl a0 c t kk y v (by decide) HO2.out).mono ?_); rintro e w6 ⟨rfl, hl, lf⟩; clear q0 q1 q2 q3 q4; have HQ2 := hid (lf.blk HQ.out (by simp) (by simp)); have HF2 := hid (lf.below HB.out HF.out); clear HQ HF HL; have HQ := HQ2; have HF := HF2; clear HQ2 HF2; have HL := hid hl; clear hl lf; have q0 := HQ.out.cell 0; have q1 := HQ.out.cell 1; have q2 := HQ.out.cell 2; have q3 := HQ.out.cell 3; have q4 := HQ.out.cell 4; (simp only [List.getElem?_cons_succ, List.getElem?_cons_zero] at q0 q1 q2 q3 q4))
              | (go_at_call 14; (with_reducible refine (Primary_calls _ a0 _ HV.out.1 HPR.out).mono ?_); rintro e w' ⟨rfl, rfl⟩; skip))
            go_roundw
            case rel => exact ⟨1 + 1, by omega, by rw [HP1.out, if_neg (fun h => h rfl), Int.add_zero], by rw [HC1.out], rfl, (HL.out.more (by omega)).cast (by rw [HFIN.out]), HQ.out, HF.out⟩
            case measure => simp [intOf]
          · have z8 : ((1 : Int) == p) = false := beq_eq_false_iff_ne.2 hkp
            have z9 : ((1 : Int) != p) = true := by rw [bne, z8]; rfl
            have HKP := hid hkp; clear hkp
            go_wp2_with (first
              | (go_at_call 11; (with_reducible refine (O_Prepare HL.out (by decide) 1 (by decide) 1 rfl a0 c t kk y v (by decide) HO1.out S1 HS1.out).mono ?_); rintro e w5 ⟨rfl, hl, lf⟩; clear q0 q1 q2 q3 q4; clear HO1; have HQ2 := hid (lf.blk HQ.out (by simp) (by simp)); have HF2 := hid (lf.below HB.out HF.out); clear HQ HF HL; have HQ := HQ2; have HF := HF2; clear HQ2 HF2; have HL := hid hl; clear hl lf; have q0 := HQ.out.cell 0; have q1 := HQ.out.cell 1; have q2 := HQ.out.cell 2; have q3 := HQ.out.cell 3; have q4 := HQ.out.cell 4; (simp only [List.getElem?_cons_succ, List.getElem?_cons_zero] at q0 q1 q2 q3 q4))
              | (go_at_call 11; (with_reducible refine (O_PrepareT HL.out (by decide) 1 (by decide) 1 rfl a0 c t kk y v (by decide) HO2.out).mono ?_); rintro e w6 ⟨rfl, hl, lf⟩; clear q0 q1 q2 q3 q4; have HQ2 := hid (lf.blk HQ.out (by simp) (by simp)); have HF2 := hid (lf.below HB.out HF.out); clear HQ HF HL; have HQ := HQ2; have HF := HF2; clear HQ2 HF2; have HL := hid hl; clear hl lf; have q0 := HQ.out.cell 0; have q1 := HQ.out.cell 1; have q2 := HQ.out.cell 2; have q3 := HQ.out.cell 3; have q4 := HQ.out.cell 4; (simp only [List.getElem?_cons_succ, List.getElem?_cons_zero] at q0 q1 q2 q3 q4))
              | (go_at_call 14; (with_reducible refine (Primary_calls _ a0 _ HV.out.1 HPR.out).mono ?_); rintro e w' ⟨rfl, rfl⟩; skip))
            go_roundw
            case rel => exact ⟨1 + 1, by omega, by rw [HP1.out, if_pos HKP.out], by rw [HC1.out], rfl, (HL.out.more (by omega)).cast (by rw [HFIN.out]), HQ.out, HF.out⟩
            case measure => simp [intOf]
        · rw [zY] at hCK
          have HCK := hid hCK
          have HC1 := hid (show cc C (1 + 1) = cn + 1 by rw [cc, HCN.out, hCK]; simp)
          obtain ⟨S2, hS2⟩ : ∃ S, S1.put (4 + 1) ⟨true, a0, c, t, kk, y, v⟩ = S := ⟨_, rfl⟩
          have HS2 := hid hS2
          have HO3 := hid (show old (S1.get (4 + 1)) a0 = false by rw [← hS1]; simp [slQ, Sl.put, Sl.get, old, sd0])
          have HFIN := hid (show S2 = slQ R (1 + 1) P C by rw [← hS2, ← hS1]; simp [slQ, Sl.put, HPK.out, HCK.out, HR.out])
          clear hCK hS1 hS2
          by_cases hkp : (1 : Int) = p
          · subst hkp
            go_wp2_with (first
              | (go_at_call 11; (with_reducible refine (O_Prepare HL.out (by decide) 1 (by decide) 1 rfl a0 c t kk y v (by decide) HO1.out S1 HS1.out).mono ?_); rintro e w5 ⟨rfl, hl, lf⟩; clear q0 q1 q2 q3 q4; clear HO1; have HQ2 := hid (lf.blk HQ.out (by simp) (by simp)); have HF2 := hid (lf.below HB.out HF.out); clear HQ HF HL; have HQ := HQ2; have HF := HF2; clear HQ2 HF2; have HL := hid hl; clear hl lf; have q0 := HQ.out.cell 0; have q1 := HQ.out.cell 1; have q2 := HQ.out.cell 2; have q3 := HQ.out.cell 3; have q4 := HQ.out.cell 4; (simp only [List.getElem?_cons_succ, List.getElem?_cons_zero] at q0 q1 q2 q3 q4))
              | (go_at_call 11; (with_reducible refine (O_PrepareT HL.out (by decide) 1 (by decide) 1 rfl a0 c t kk y v (by decide) HO2.out).mono ?_); rintro e w6 ⟨rfl, hl, lf⟩; clear q0 q1 q2 q3 q4; have HQ2 := hid (lf.blk HQ.out (by simp) (by simp)); have HF2 := hid (lf.below HB.out HF.out); clear HQ HF HL; have HQ := HQ2; have HF := HF2; clear HQ2 HF2; have HL := hid hl; clear hl lf; have q0 := HQ.out.cell 0; have q1 := HQ.out.cell 1; have q2 := HQ.out.cell 2; have q3 := HQ.out.cell 3; have q4 := HQ.out.cell 4; (simp only [List.getElem?_cons_succ, List.getElem?_cons_zero] at q0 q1 q2 q3 q4))
              | (go_at_call 14; (with_reducible refine (Primary_calls _ a0 _ HV.out.1 HPR.out).mono ?_); rintro e w' ⟨rfl, rfl⟩; skip)
              | (go_at_call 12; (with_reducible refine (O_Commit HL.out (by decide) 1 (by decide) 1 rfl a0 c t kk y v (by decide) HO3.out S2 HS2.out).mono ?_); rintro e w7 ⟨rfl, hl, lf⟩; clear q0 q1 q2 q3 q4; have HQ2 := hid (lf.blk HQ.out (by simp) (by simp)); have HF2 := hid (lf.below HB.out HF.out); clear HQ HF HL; have HQ := HQ2; have HF := HF2; clear HQ2 HF2; have HL := hid hl; clear hl lf; have q0 := HQ.out.cell 0; have q1 := HQ.out.cell 1; have q2 := HQ.out.cell 2; have q3 := HQ.out.cell 3; have q4 := HQ.out.cell 4; (simp only [List.getElem?_cons_succ, List.getElem?_cons_zero] at q0 q1 q2 q3 q4)))
            go_roundw
            case rel => exact ⟨1 + 1, by omega, by rw [HP1.out, if_neg (fun h => h rfl), Int.add_zero], by rw [HC1.out], rfl, (HL.out.more (by omega)).cast (by rw [HFIN.out]), HQ.out, HF.out⟩
            case measure => simp [intOf]
          · have z8 : ((1 : Int) == p) = false := beq_eq_false_iff_ne.2 hkp
            have z9 : ((1 : Int) != p) = true := by rw [bne, z8]; rfl
            have HKP := hid hkp; clear hkp
            go_wp2_with (first
              | (go_at_call 11; (with_reducible refine (O_Prepare HL.out (by decide) 1 (by decide) 1 rfl a0 c t kk y v (by decide) HO1.out S1 HS1.out).mono ?_); rintro e w5 ⟨rfl, hl, lf⟩; clear q0 q1 q2 q3 q4; clear HO1; have HQ2 := hid (lf.blk HQ.out (by simp) (by simp)); have HF2 := hid (lf.below HB.out HF.out); clear HQ HF HL; have HQ := HQ2; have HF := HF2; clear HQ2 HF2; have HL := hid hl; clear hl lf; have q0 := HQ.out.cell 0; have q1 := HQ.out.cell 1; have q2 := HQ.out.cell 2; have q3 := HQ.out.cell 3; have q4 := HQ.out.cell 4; (simp only [List.getElem?_cons_succ, List.getElem?_cons_zero] at q0 q1 q2 q3 q4))
              | (go_at_call 11; (with_reducible refine (O_PrepareT HL.out (by decide) 1 (by decide) 1 rfl a0 c t kk y v (by decide) HO2.out).mono ?_); rintro e w6 ⟨rfl, hl, lf⟩; clear q0 q1 q2 q3 q4; have HQ2 := hid (lf.blk HQ.out (by simp) (by simp)); have HF2 := hid (lf.below HB.out HF.out); clear HQ HF HL; have HQ := HQ2; have HF := HF2; clear HQ2 HF2; have HL := hid hl; clear hl lf; have q0 := HQ.out.cell 0; have q1 := HQ.out.cell 1; have q2 := HQ.out.cell 2; have q3 := HQ.out.cell 3; have q4 := HQ.out.cell 4; (simp only [List.getElem?_cons_succ, List.getElem?_cons_zero] at q0 q1 q2 q3 q4))
              | (go_at_call 14; (with_reducible refine (Primary_calls _ a0 _ HV.out.1 HPR.out).mono ?_); rintro e w' ⟨rfl, rfl⟩; skip)
              | (go_at_call 12; (with_reducible refine (O_Commit HL.out (by decide) 1 (by decide) 1 rfl a0 c t kk y v (by decide) HO3.out S2 HS2.out).mono ?_); rintro e w7 ⟨rfl, hl, lf⟩; clear q0 q1 q2 q3 q4; have HQ2 := hid (lf.blk HQ.out (by simp) (by simp)); have HF2 := hid (lf.below HB.out HF.out); clear HQ HF HL; have HQ := HQ2; have HF := HF2; clear HQ2 HF2; have HL := hid hl; clear hl lf; have q0 := HQ.out.cell 0; have q1 := HQ.out.cell 1; have q2 := HQ.out.cell 2; have q3 := HQ.out.cell 3; have q4 := HQ.out.cell 4; (simp only [List.getElem?_cons_succ, List.getElem?_cons_zero] at q0 q1 q2 q3 q4)))
            go_roundw
            case rel => exact ⟨1 + 1, by omega, by rw [HP1.out, if_pos HKP.out], by rw [HC1.out], rfl, (HL.out.more (by omega)).cast (by rw [HFIN.out]), HQ.out, HF.out⟩
            case measure => simp [intOf]
    · clear hk
      obtain ⟨X, hX⟩ : ∃ X, Go.bits .and .u8 (a1 / 4) 1 = X := ⟨_, rfl⟩
      obtain ⟨Y, hY⟩ : ∃ Y, Go.bits .and .u8 (a2 / 4) 1 = Y := ⟨_, rfl⟩
      have hPK : P 2 = (X == 1) := by rw [HP.out, ← hX]; unfold bitOf; simp
      have hCK : C 2 = (Y == 1) := by rw [HC.out, ← hY]; unfold bitOf; simp
      cases zX : (X == 1)
      · rw [zX] at hPK
        have HPK := hid hPK
        have HP1 := hid (show pc P p (2 + 1) = pn by rw [pc, HPN.out, hPK]; simp)
        clear hPK
        cases zY : (Y == 1)
        · rw [zY] at hCK
          have HCK := hid hCK
          have HC1 := hid (show cc C (2 + 1) = cn by rw [cc, HCN.out, hCK]; simp)
          have HFIN := hid (show slQ R 2 P C = slQ R (2 + 1) P C by simp [slQ, HPK.out, HCK.out])
          clear hCK
          go_wp2
          go_roundw
          case rel => exact ⟨2 + 1, by omega, by rw [HP1.out], by rw [HC1.out], rfl, (HL.out.more (by omega)).cast (by rw [HFIN.out]), HQ.out, HF.out⟩
          case measure => simp [intOf]
        · rw [zY] at hCK
          have HCK := hid hCK
          have HC1 := hid (show cc C (2 + 1) = cn + 1 by rw [cc, HCN.out, hCK]; simp)
          clear hCK
          obtain ⟨S2, hS2⟩ : ∃ S, (slQ R 2 P C).put (4 + 2) ⟨true, a0, c, t, kk, y, v⟩ = S := ⟨_, rfl⟩
          have HS2 := hid hS2
          have HO3 := hid (show old ((slQ R 2 P C).get (4 + 2)) a0 = false by simp [slQ, Sl.get, old, sd0])
          have HFIN := hid (show S2 = slQ R (2 + 1) P C by rw [← hS2]; simp [slQ, Sl.put, HPK.out, HCK.out, HR.out])
          clear hS2
          go_wp2_with (first
            | (go_at_call 12; (with_reducible refine (O_Commit HL.out (by decide) 2 (by decide) 2 rfl a0 c t kk y v (by decide) HO3.out S2 HS2.out).mono ?_); rintro e w7 ⟨rfl, hl, lf⟩; clear q0 q1 q2 q3 q4; have HQ2 := hid (lf.blk HQ.out (by simp) (by simp)); have HF2 := hid (lf.below HB.out HF.out); clear HQ HF HL; have HQ := HQ2; have HF := HF2; clear HQ2 HF2; have HL := hid hl; clear hl lf; have q0 := HQ.out.cell 0; have q1 := HQ.out.cell 1; have q2 := HQ.out.cell 2; have q3 := HQ.out.cell 3; have q4 := HQ.out.cell 4; (simp only [List.getElem?_cons_succ, List.getElem?_cons_zero] at q0 q1 q2 q3 q4)))
          go_roundw
          case rel => exact ⟨2 + 1, by omega, by rw [HP1.out], by rw [HC1.out], rfl, (HL.out.more (by omega)).cast (by rw [HFIN.out]), HQ.out, HF.out⟩
          case measure => simp [intOf]
      · rw [zX] at hPK
        have HPK := hid hPK
        obtain ⟨S1, hS1⟩ : ∃ S, (slQ R 2 P C).put (0 + 2) ⟨true, a0, c, t, kk, y, v⟩ = S := ⟨_, rfl⟩
        have HS1 := hid hS1
        have HO1 := hid (show old ((slQ R 2 P C).get (0 + 2)) a0 = false by simp [slQ, Sl.get, old, sd0])
        have HO2 := hid (show old (S1.get (0 + 2)) a0 = true by rw [← hS1]; simp [Sl.put, Sl.get, old])
        have HP1 := hid (show pc P p (2 + 1) = pn + (if (2 : Int) ≠ p then 1 else 0) by rw [pc, HPN.out, hPK]; simp)
        clear hPK
        cases zY : (Y == 1)
        · rw [zY] at hCK
          have HCK := hid hCK
          have HC1 := hid (show cc C (2 + 1) = cn by rw [cc, HCN.out, hCK]; simp)
          have HFIN := hid (show S1 = slQ R (2 + 1) P C by rw [← hS1]; simp [slQ, Sl.put, HPK.out, HCK.out, HR.out])
          clear hCK hS1
          by_cases hkp : (2 : Int) = p
          · subst hkp
            go_wp2_with (first
              | (go_at_call 11; (with_reducible refine (O_Prepare HL.out (by decide) 2 (by decide) 2 rfl a0 c t kk y v (by decide) HO1.out S1 HS1.out).mono ?_); rintro e w5 ⟨rfl, hl, lf⟩; clear q0 q1 q2 q3 q4; clear HO1; have HQ2 := hid (lf.blk HQ.out (by simp) (by simp)); have HF2 := hid (lf.below HB.out HF.out); clear HQ HF HL; have HQ := HQ2; have HF := HF2; clear HQ2 HF2; have HL := hid hl; clear hl lf; have q0 := HQ.out.cell 0; have q1 := HQ.out.cell 1; have q2 := HQ.out.cell 2; have q3 := HQ.out.cell 3; have q4 := HQ.out.cell 4; (simp only [List.getElem?_cons_succ, List.getElem?_cons_zero] at q0 q1 q2 q3 q4))
              | (go_at_call 11; (with_reducible refine (O_PrepareT HL.out (by decide) 2 (by decide) 2 rfl a0 c t kk y v (by decide) HO2.out).mono ?_); rintro e w6 ⟨rfl, hl, lf⟩; clear q0 q1 q2 q3 q4; have HQ2 := hid (lf.blk HQ.out (by simp) (by simp)); have HF2 := hid (lf.below HB.out HF.out); clear HQ HF HL; have HQ := HQ2; have HF := HF2; clear HQ2 HF2; have HL := hid hl; clear hl lf; have q0 := HQ.out.cell 0; have q1 := HQ.out.cell 1; have q2 := HQ.out.cell 2; have q3 := HQ.out.cell 3; have q4 := HQ.out.cell 4; (simp only [List.getElem?_cons_succ, List.getElem?_cons_zero] at q0 q1 q2 q3 q4))
              | (go_at_call 14; (with_reducible refine (Primary_calls _ a0 _ HV.out.1 HPR.out).mono ?_); rintro e w' ⟨rfl, rfl⟩; skip))
            go_roundw
            case rel => exact ⟨2 + 1, by omega, by rw [HP1.out, if_neg (fun h => h rfl), Int.add_zero], by rw [HC1.out], rfl, (HL.out.more (by omega)).cast (by rw [HFIN.out]), HQ.out, HF.out⟩
            case measure => simp [intOf]
          · have z8 : ((2 : Int) == p) = false := beq_eq_false_iff_ne.2 hkp
            have z9 : ((2 : Int) != p) = true := by rw [bne, z8]; rfl
            have HKP := hid hkp; clear hkp
            go_wp2_with (first
              | (go_at_call 11; (with_reducible refine (O_Prepare HL.out (by decide) 2 (by decide) 2 rfl a0 c t kk y v (by decide) HO1.out S1 HS1.out).mono ?_); rintro e w5 ⟨rfl, hl, lf⟩; clear q0 q1 q2 q3 q4; clear HO1; have HQ2 := hid (lf.blk HQ.out (by simp) (by simp)); have HF2 := hid (lf.below HB.out HF.out); clear HQ HF HL; have HQ := HQ2; have HF := HF2; clear HQ2 HF2; have HL := hid hl; clear hl lf; have q0 := HQ.out.cell 0; have q1 := HQ.out.cell 1; have q2 := HQ.out.cell 2; have q3 := HQ.out.cell 3; have q4 := HQ.out.cell 4; (simp only [List.getElem?_cons_succ, List.getElem?_cons_zero] at q0 q1 q2 q3 q4))
              | (go_at_call 11; (with_reducible refine (O_PrepareT HL.out (by decide) 2 (by decide) 2 rfl a0 c t kk y v (by decide) HO2.out).mono ?_); rintro e w6 ⟨rfl, hl, lf⟩; clear q0 q1 q2 q3 q4; have HQ2 := hid (lf.blk HQ.out (by simp) (by simp)); have HF2 := hid (lf.below HB.out HF.out); clear HQ HF HL; have HQ := HQ2; have HF := HF2; clear HQ2 HF2; have HL := hid hl; clear hl lf; have q0 := HQ.out.cell 0; have q1 := HQ.out.cell 1; have q2 := HQ.out.cell 2; have q3 := HQ.out.cell 3; have q4 := HQ.out.cell 4; (simp only [List.getElem?_cons_succ, List.getElem?_cons_zero] at q0 q1 q2 q3 q4))
              | (go_at_call 14; (with_reducible refine (Primary_calls _ a0 _ HV.out.1 HPR.out).mono ?_); rintro e w' ⟨rfl, rfl⟩; skip))
            go_roundw
            case rel => exact ⟨2 + 1, by omega, by rw [HP1.out, if_pos HKP.out], by rw [HC1.out], rfl, (HL.out.more (by omega)).cast (by rw [HFIN.out]), HQ.out, HF.out⟩
            case measure => simp [intOf]
        · rw [zY] at hCK
          have HCK := hid hCK
          have HC1 := hid (show cc C (2 + 1) = cn + 1 by rw [cc, HCN.out, hCK]; simp)
          obtain ⟨S2, hS2⟩ : ∃ S, S1.put (4 + 2) ⟨true, a0, c, t, kk, y, v⟩ = S := ⟨_, rfl⟩
          have HS2 := hid hS2
          have HO3 := hid (show old (S1.get (4 + 2)) a0 = false by rw [← hS1]; simp [slQ, Sl.put, Sl.get, old, sd0])
          have HFIN := hid (show S2 = slQ R (2 + 1) P C by rw [← hS2, ← hS1]; simp [slQ, Sl.put, HPK.out, HCK.out, HR.out])
          clear hCK hS1 hS2
          by_cases hkp : (2 : Int) = p
          · subst hkp
            go_wp2_with (first
              | (go_at_call 11; (with_reducible refine (O_Prepare HL.out (by decide) 2 (by decide) 2 rfl a0 c t kk y v (by decide) HO1.out S1 HS1.out).mono ?_); rintro e w5 ⟨rfl, hl, lf⟩; clear q0 q1 q2 q3 q4; clear HO1; have HQ2 := hid (lf.blk HQ.out (by simp) (by simp)); have HF2 := hid (lf.below HB.out HF.out); clear HQ HF HL; have HQ := HQ2; have HF := HF2; clear HQ2 HF2; have HL := hid hl; clear hl lf; have q0 := HQ.out.cell 0; have q1 := HQ.out.cell 1; have q2 := HQ.out.cell 2; have q3 := HQ.out.cell 3; have q4 := HQ.out.cell 4; (simp only [List.getElem?_cons_succ, List.getElem?_cons_zero] at q0 q1 q2 q3 q4))
              | (go_at_call 11; (with_reducible refine (O_PrepareT HL.out (by decide) 2 (by decide) 2 rfl a0 c t kk y v (by decide) HO2.out).mono ?_); rintro e w6 ⟨rfl, hl, lf⟩; clear q0 q1 q2 q3 q4; have HQ2 := hid (lf.blk HQ.out (by simp) (by simp)); have HF2 := hid (lf.below HB.out HF.out); clear HQ HF HL; have HQ := HQ2; have HF := HF2; clear HQ2 HF2; have HL := hid hl; clear hl lf; have q0 := HQ.out.cell 0; have q1 := HQ.out.cell 1; have q2 := HQ.out.cell 2; have q3 := HQ.out.cell 3; have q4 := HQ.out.cell 4; (simp only [List.getElem?_cons_succ, List.getElem?_cons_zero] at q0 q1 q2 q3 q4))
              | (go_at_call 14; (with_reducible refine (Primary_calls _ a0 _ HV.out.1 HPR.out).mono ?_); rintro e w' ⟨rfl, rfl⟩; skip)
              | (go_at_call 12; (with_reducible refine (O_Commit HL.out (by decide) 2 (by decide) 2 rfl a0 c t kk y v (by decide) HO3.out S2 HS2.out).mono ?_); rintro e w7 ⟨rfl, hl, lf⟩; clear q0 q1 q2 q3 q4; have HQ2 := hid (lf.blk HQ.out (by simp) (by simp)); have HF2 := hid (lf.below HB.out HF.out); clear HQ HF HL; have HQ := HQ2; have HF := HF2; clear HQ2 HF2; have HL := hid hl; clear hl lf; have q0 := HQ.out.cell 0; have q1 := HQ.out.cell 1; have q2 := HQ.out.cell 2; have q3 := HQ.out.cell 3; have q4 := HQ.out.cell 4; (simp only [List.getElem?_cons_succ, List.getElem?_cons_zero] at q0 q1 q2 q3 q4)))
            go_roundw
            case rel => exact ⟨2 + 1, by omega, by rw [HP1.out, if_neg (fun h => h rfl), Int.add_zero], by rw [HC1.out], rfl, (HL.out.more (by omega)).cast (by rw [HFIN.out]), HQ.out, HF.out⟩
            case measure => simp [intOf]
          · have z8 : ((2 : Int) == p) = false := beq_eq_false_iff_ne.2 hkp
            have z9 : ((2 : Int) != p) = true := by rw [bne, z8]; rfl
            have HKP := hid hkp; clear hkp
            go_wp2_with (first
              | (go_at_call 11; (with_reducible refine (O_Prepare HL.out (by decide) 2 (by decide) 2 rfl a0 c t kk y v (by decide) HO1.out S1 HS1.out).mono ?_); rintro e w5 ⟨rfl, hl, lf⟩; clear q0 q1 q2 q3 q4; clear HO1; have HQ2 := hid (lf.blk HQ.out (by simp) (by simp)); have HF2 := hid (lf.below HB.out HF.out); clear HQ HF HL; have HQ := HQ2; have HF := HF2; clear HQ2 HF2; have HL := hid hl; clear hl lf; have q0 := HQ.out.cell 0; have q1 := HQ.out.cell 1; have q2 := HQ.out.cell 2; have q3 := HQ.out.cell 3; have q4 := HQ.out.cell 4; (simp only [List.getElem?_cons_succ, List.getElem?_cons_zero] at q0 q1 q2 q3 q4))
              | (go_at_call 11; (with_reducible refine (O_PrepareT HL.out (by decide) 2 (by decide) 2 rfl a0 c t kk y v (by decide) HO2.out).mono ?_); rintro e w6 ⟨rfl, hl, lf⟩; clear q0 q1 q2 q3 q4; have HQ2 := hid (lf.blk HQ.out (by simp) (by simp)); have HF2 := hid (lf.below HB.out HF.out); clear HQ HF HL; have HQ := HQ2; have HF := HF2; clear HQ2 HF2; have HL := hid hl; clear hl lf; have q0 := HQ.out.cell 0; have q1 := HQ.out.cell 1; have q2 := HQ.out.cell 2; have q3 := HQ.out.cell 3; have q4 := HQ.out.cell 4; (simp only [List.getElem?_cons_succ, List.getElem?_cons_zero] at q0 q1 q2 q3 q4))
              | (go_at_call 14; (with_reducible refine (Primary_calls _ a0 _ HV.out.1 HPR.out).mono ?_); rintro e w' ⟨rfl, rfl⟩; skip)
              | (go_at_call 12; (with_reducible refine (O_Commit HL.out (by decide) 2 (by decide) 2 rfl a0 c t kk y v (by decide) HO3.out S2 HS2.out).mono ?_); rintro e w7 ⟨rfl, hl, lf⟩; clear q0 q1 q2 q3 q4; have HQ2 := hid (lf.blk HQ.out (by simp) (by simp)); have HF2 := hid (lf.below HB.out HF.out); clear HQ HF HL; have HQ := HQ2; have HF := HF2; clear HQ2 HF2; have HL := hid hl; clear hl lf; have q0 := HQ.out.cell 0; have q1 := HQ.out.cell 1; have q2 := HQ.out.cell 2; have q3 := HQ.out.cell 3; have q4 := HQ.out.cell 4; (simp only [List.getElem?_cons_succ, List.getElem?_cons_zero] at q0 q1 q2 q3 q4)))
            go_roundw
            case rel => exact ⟨2 + 1, by omega, by rw [HP1.out, if_pos HKP.out], by rw [HC1.out], rfl, (HL.out.more (by omega)).cast (by rw [HFIN.out]), HQ.out, HF.out⟩
            case measure => simp [intOf]
    · clear hk
      obtain ⟨X, hX⟩ : ∃ X, Go.bits .and .u8 (a1 / 8) 1 = X := ⟨_, rfl⟩
      obtain ⟨Y, hY⟩ : ∃ Y, Go.bits .and .u8 (a2 / 8) 1 = Y := ⟨_, rfl⟩
      have hPK : P 3 = (X == 1) := by rw [HP.out, ← hX]; unfold bitOf; simp
      have hCK : C 3 = (Y == 1) := by rw [HC.out, ← hY]; unfold bitOf; simp
      cases zX : (X == 1)
      · rw [zX] at hPK
        have HPK := hid hPK
        have HP1 := hid (show pc P p (3 + 1) = pn by rw [pc, HPN.out, hPK]; simp)
        clear hPK
        cases zY : (Y == 1)
        · rw [zY] at hCK
          have HCK := hid hCK
          have HC1 := hid (show cc C (3 + 1) = cn by rw [cc, HCN.out, hCK]; simp)
          have HFIN := hid (show slQ R 3 P C = slQ R (3 + 1) P C by simp [slQ, HPK.out, HCK.out])
          clear hCK
          go_wp2
          go_roundw
          case rel => exact ⟨3 + 1, by omega, by rw [HP1.out], by rw [HC1.out], rfl, (HL.out.more (by omega)).cast (by rw [HFIN.out]), HQ.out, HF.out⟩
          case measure => simp [intOf]
        · rw [zY] at hCK
          have HCK := hid hCK
          have HC1 := hid (show cc C (3 + 1) = cn + 1 by rw [cc, HCN.out, hCK]; simp)
          clear hCK
          obtain ⟨S2, hS2⟩ : ∃ S, (slQ R 3 P C).put (4 + 3) ⟨true, a0, c, t, kk, y, v⟩ = S := ⟨_, rfl⟩
          have HS2 := hid hS2
          have HO3 := hid (show old ((slQ R 3 P C).get (4 + 3)) a0 = false by simp [slQ, Sl.get, old, sd0])
          have HFIN := hid (show S2 = slQ R (3 + 1) P C by rw [← hS2]; simp [slQ, Sl.put, HPK.out, HCK.out, HR.out])
          clear hS2
          go_wp2_with (first
            | (go_at_call 12; (with_reducible refine (O_Commit HL.out (by decide) 3 (by decide) 3 rfl a0 c t kk y v (by decide) HO3.out S2 HS2.out).mono ?_); rintro e w7 ⟨rfl, hl, lf⟩; clear q0 q1 q2 q3 q4; have HQ2 := hid (lf.blk HQ.out (by simp) (by simp)); have HF2 := hid (lf.below HB.out HF.out); clear HQ HF HL; have HQ := HQ2; have HF := HF2; clear HQ2 HF2; have HL := hid hl; clear hl lf; have q0 := HQ.out.cell 0; have q1 := HQ.out.cell 1; have q2 := HQ.out.cell 2; have q3 := HQ.out.cell 3; have q4 := HQ.out.cell 4; (simp only [List.getElem?_cons_succ, List.getElem?_cons_zero] at q0 q1 q2 q3 q4)))
          go_roundw
          case rel => exact ⟨3 + 1, by omega, by rw [HP1.out], by rw [HC1.out], rfl, (HL.out.more (by omega)).cast (by rw [HFIN.out]), HQ.out, HF.out⟩
          case measure => simp [intOf]
      · rw [zX] at hPK
        have HPK := hid hPK
        obtain ⟨S1, hS1⟩ : ∃ S, (slQ R 3 P C).put (0 + 3) ⟨true, a0, c, t, kk, y, v⟩ = S := ⟨_, rfl⟩
        have HS1 := hid hS1
        have HO1 := hid (show old ((slQ R 3 P C).get (0 + 3)) a0 = false by simp [slQ, Sl.get, old, sd0])
        have HO2 := hid (show old (S1.get (0 + 3)) a0 = true by rw [← hS1]; simp [Sl.put, Sl.get, old])
        have HP1 := hid (show pc P p (3 + 1) = pn + (if (3 : Int) ≠ p then 1 else 0) by rw [pc, HPN.out, hPK]; simp)
        clear hPK
        cases zY : (Y == 1)
        · rw [zY] at hCK
          have HCK := hid hCK
          have HC1 := hid (show cc C (3 + 1) = cn by rw [cc, HCN.out, hCK]; simp)
          have HFIN := hid (show S1 = slQ R (3 + 1) P C by rw [← hS1]; simp [slQ, Sl.put, HPK.out, HCK.out, HR.out])
          clear hCK hS1
          by_cases hkp : (3 : Int) = p
          · subst hkp
            go_wp2_with (first
              | (go_at_call 11; (with_reducible refine (O_Prepare HL.out (by decide) 3 (by decide) 3 rfl a0 c t kk y v (by decide) HO1.out S1 HS1.out).mono ?_); rintro e w5 ⟨rfl, hl, lf⟩; clear q0 q1 q2 q3 q4; clear HO1; have HQ2 := hid (lf.blk HQ.out (by simp) (by simp)); have HF2 := hid (lf.below HB.out HF.out); clear HQ HF HL; have HQ := HQ2; have HF := HF2; clear HQ2 HF2; have HL := hid hl; clear hl lf; have q0 := HQ.out.cell 0; have q1 := HQ.out.cell 1; have q2 := HQ.out.cell 2; have q3 := HQ.out.cell 3; have q4 := HQ.out.cell 4; (simp only [List.getElem?_cons_succ, List.getElem?_cons_zero] at q0 q1 q2 q3 q4))
              | (go_at_call 11; (with_reducible refine (O_PrepareT HL.out (by decide) 3 (by decide) 3 rfl a0 c t kk y v (by decide) HO2.out).mono ?_); rintro e w6 ⟨rfl, hl, lf⟩; clear q0 q1 q2 q3 q4; have HQ2 := hid (lf.blk HQ.out (by simp) (by simp)); have HF2 := hid (lf.below HB.out HF.out); clear HQ HF HL; have HQ := HQ2; have HF := HF2; clear HQ2 HF2; have HL := hid hl; clear hl lf; have q0 := HQ.out.cell 0; have q1 := HQ.out.cell 1; have q2 := HQ.out.cell 2; have q3 := HQ.out.cell 3; have q4 := HQ.out.cell 4; (simp only [List.getElem?_cons_succ, List.getElem?_cons_zero] at q0 q1 q2 q3 q4))
              | (go_at_call 14; (with_reducible refine (Primary_calls _ a0 _ HV.out.1 HPR.out).mono ?_); rintro e w' ⟨rfl, rfl⟩; skip))
            go_roundw
            case rel => exact ⟨3 + 1, by omega, by rw [HP1.out, if_neg (fun h => h rfl), Int.add_zero], by rw [HC1.out], rfl, (HL.out.more (by omega)).cast (by rw [HFIN.out]), HQ.out, HF.out⟩
            case measure => simp [intOf]
          · have z8 : ((3 : Int) == p) = false := beq_eq_false_iff_ne.2 hkp
            have z9 : ((3 : Int) != p) = true := by rw [bne, z8]; rfl
            have HKP := hid hkp; clear hkp
            go_wp2_with (first
              | (go_at_call 11; (with_reducible refine (O_Prepare HL.out (by decide) 3 (by decide) 3 rfl a0 c t kk y v (by decide) HO1.out S1 HS1.out).mono ?_); rintro e w5 ⟨rfl, hl, lf⟩; clear q0 q1 q2 q3 q4; clear HO1; have HQ2 := hid (lf.blk HQ.out (by simp) (by simp)); have HF2 := hid (lf.below HB.out HF.out); clear HQ HF HL; have HQ := HQ2; have HF := HF2; clear HQ2 HF2; have HL := hid hl; clear hl lf; have q0 := HQ.out.cell 0; have q1 := HQ.out.cell 1; have q2 := HQ.out.cell 2; have q3 := HQ.out.cell 3; have q4 := HQ.out.cell 4; (simp only [List.getElem?_cons_succ, List.getElem?_cons_zero] at q0 q1 q2 q3 q4))
              | (go_at_call 11; (with_reducible refine (O_PrepareT HL.out (by decide) 3 (by decide) 3 rfl a0 c t kk y v (by decide) HO2.out).mono ?_); rintro e w6 ⟨rfl, hl, lf⟩; clear q0 q1 q2 q3 q4; have HQ2 := hid (lf.blk HQ.out (by simp) (by simp)); have HF2 := hid (lf.below HB.out HF.out); clear HQ HF HL; have HQ := HQ2; have HF := HF2; clear HQ2 HF2; have HL := hid hl; clear hl lf; have q0 := HQ.out.cell 0; have q1 := HQ.out.cell 1; have q2 := HQ.out.cell 2; have q3 := HQ.out.cell 3; have q4 := HQ.out.cell 4; (simp only [List.getElem?_cons_succ, List.getElem?_cons_zero] at q0 q1 q2 q3 q4))
              | (go_at_call 14; (with_reducible refine (Primary_calls _ a0 _ HV.out.1 HPR.out).mono ?_); rintro e w' ⟨rfl, rfl⟩; skip))
            go_roundw
            case rel => exact ⟨3 + 1, by omega, by rw [HP1.out, if_pos HKP.out], by rw [HC1.out], rfl, (HL.out.more (by omega)).cast (by rw [HFIN.out]), HQ.out, HF.out⟩
            case measure => simp [intOf]
        · rw [zY] at hCK
          have HCK := hid hCK
          have HC1 := hid (show cc C (3 + 1) = cn + 1 by rw [cc, HCN.out, hCK]; simp)
          obtain ⟨S2, hS2⟩ : ∃ S, S1.put (4 + 3) ⟨true, a0, c, t, kk, y, v⟩ = S := ⟨_, rfl⟩
          have HS2 := hid hS2
          have HO3 := hid (show old (S1.get (4 + 3)) a0 = false by rw [← hS1]; simp [slQ, Sl.put, Sl.get, old, sd0])
          have HFIN := hid (show S2 = slQ R (3 + 1) P C by rw [← hS2, ← hS1]; simp [slQ, Sl.put, HPK.out, HCK.out, HR.out])
          clear hCK hS1 hS2
          by_cases hkp : (3 : Int) = p
          · subst hkp
            go_wp2_with (first
              | (go_at_call 11; (with_reducible refine (O_Prepare HL.out (by decide) 3 (by decide) 3 rfl a0 c t kk y v (by decide) HO1.out S1 HS1.out).mono ?_); rintro e w5 ⟨rfl, hl, lf⟩; clear q0 q1 q2 q3 q4; clear HO1; have HQ2 := hid (lf.blk HQ.out (by simp) (by simp)); have HF2 := hid (lf.below HB.out HF.out); clear HQ HF HL; have HQ := HQ2; have HF := HF2; clear HQ2 HF2; have HL := hid hl; clear hl lf; have q0 := HQ.out.cell 0; have q1 := HQ.out.cell 1; have q2 := HQ.out.cell 2; have q3 := HQ.out.cell 3; have q4 := HQ.out.cell 4; (simp only [List.getElem?_cons_succ, List.getElem?_cons_zero] at q0 q1 q2 q3 q4))
              | (go_at_call 11; (with_reducible refine (O_PrepareT HL.out (by decide) 3 (by decide) 3 rfl a0 c t kk y v (by decide) HO2.out).mono ?_); rintro e w6 ⟨rfl, hl, lf⟩; clear q0 q1 q2 q3 q4; have HQ2 := hid (lf.blk HQ.out (by simp) (by simp)); have HF2 := hid (lf.below HB.out HF.out); clear HQ HF HL; have HQ := HQ2; have HF := HF2; clear HQ2 HF2; have HL := hid hl; clear hl lf; have q0 := HQ.out.cell 0; have q1 := HQ.out.cell 1; have q2 := HQ.out.cell 2; have q3 := HQ.out.cell 3; have q4 := HQ.out.cell 4; (simp only [List.getElem?_cons_succ, List.getElem?_cons_zero] at q0 q1 q2 q3 q4))
              | (go_at_call 14; (with_reducible refine (Primary_calls _ a0 _ HV.out.1 HPR.out).mono ?_); rintro e w' ⟨rfl, rfl⟩; skip)
              | (go_at_call 12; (with_reducible refine (O_Commit HL.out (by decide) 3 (by decide) 3 rfl a0 c t kk y v (by decide) HO3.out S2 HS2.out).mono ?_); rintro e w7 ⟨rfl, hl, lf⟩; clear q0 q1 q2 q3 q4; have HQ2 := hid (lf.blk HQ.out (by simp) (by simp)); have HF2 := hid (lf.below HB.out HF.out); clear HQ HF HL; have HQ := HQ2; have HF := HF2; clear HQ2 HF2; have HL := hid hl; clear hl lf; have q0 := HQ.out.cell 0; have q1 := HQ.out.cell 1; have q2 := HQ.out.cell 2; have q3 := HQ.out.cell 3; have q4 := HQ.out.cell 4; (simp only [List.getElem?_cons_succ, List.getElem?_cons_zero] at q0 q1 q2 q3 q4)))
            go_roundw
            case rel => exact ⟨3 + 1, by omega, by rw [HP1.out, if_neg (fun h => h rfl), Int.add_zero], by rw [HC1.out], rfl, (HL.out.more (by omega)).cast (by rw [HFIN.out]), HQ.out, HF.out⟩
            case measure => simp [intOf]
          · have z8 : ((3 : Int) == p) = false := beq_eq_false_iff_ne.2 hkp
            have z9 : ((3 : Int) != p) = true := by rw [bne, z8]; rfl
            have HKP := hid hkp; clear hkp
            go_wp2_with (first
              | (go_at_call 11; (with_reducible refine (O_Prepare HL.out (by decide) 3 (by decide) 3 rfl a0 c t kk y v (by decide) HO1.out S1 HS1.out).mono ?_); rintro e w5 ⟨rfl, hl, lf⟩; clear q0 q1 q2 q3 q4; clear HO1; have HQ2 := hid (lf.blk HQ.out (by simp) (by simp)); have HF2 := hid (lf.below HB.out HF.out); clear HQ HF HL; have HQ := HQ2; have HF := HF2; clear HQ2 HF2; have HL := hid hl; clear hl lf; have q0 := HQ.out.cell 0; have q1 := HQ.out.cell 1; have q2 := HQ.out.cell 2; have q3 := HQ.out.cell 3; have q4 := HQ.out.cell 4; (simp only [List.getElem?_cons_succ, List.getElem?_cons_zero] at q0 q1 q2 q3 q4))
              | (go_at_call 11; (with_reducible refine (O_PrepareT HL.out (by decide) 3 (by decide) 3 rfl a0 c t kk y v (by decide) HO2.out).mono ?_); rintro e w6 ⟨rfl, hl, lf⟩; clear q0 q1 q2 q3 q4; have HQ2 := hid (lf.blk HQ.out (by simp) (by simp)); have HF2 := hid (lf.below HB.out HF.out); clear HQ HF HL; have HQ := HQ2; have HF := HF2; clear HQ2 HF2; have HL := hid hl; clear hl lf; have q0 := HQ.out.cell 0; have q1 := HQ.out.cell 1; have q2 := HQ.out.cell 2; have q3 := HQ.out.cell 3; have q4 := HQ.out.cell 4; (simp only [List.getElem?_cons_succ, List.getElem?_cons_zero] at q0 q1 q2 q3 q4))
              | (go_at_call 14; (with_reducible refine (Primary_calls _ a0 _ HV.out.1 HPR.out).mono ?_); rintro e w' ⟨rfl, rfl⟩; skip)
              | (go_at_call 12; (with_reducible refine (O_Commit HL.out (by decide) 3 (by decide) 3 rfl a0 c t kk y v (by decide) HO3.out S2 HS2.out).mono ?_); rintro e w7 ⟨rfl, hl, lf⟩; clear q0 q1 q2 q3 q4; have HQ2 := hid (lf.blk HQ.out (by simp) (by simp)); have HF2 := hid (lf.below HB.out HF.out); clear HQ HF HL; have HQ := HQ2; have HF := HF2; clear HQ2 HF2; have HL := hid hl; clear hl lf; have q0 := HQ.out.cell 0; have q1 := HQ.out.cell 1; have q2 := HQ.out.cell 2; have q3 := HQ.out.cell 3; have q4 := HQ.out.cell 4; (simp only [List.getElem?_cons_succ, List.getElem?_cons_zero] at q0 q1 q2 q3 q4)))
            go_roundw
            case rel => exact ⟨3 + 1, by omega, by rw [HP1.out, if_pos HKP.out], by rw [HC1.out], rfl, (HL.out.more (by omega)).cast (by rw [HFIN.out]), HQ.out, HF.out⟩
            case measure => simp [intOf]
    · clear hk
      have hrd := rdyQ HRT.out P C
      have hcm := comQ HRT.out P C
      rw [HRV.out, HPR.out, HPN.out] at hrd hcm
      rw [HCN.out] at hcm
      have HSA := hid (show (slQ R 4 P C).acc.th = true from HRT.out)
      by_cases h2 : 2 ≤ pn
      · rw [decide_eq_true h2] at hrd hcm
        have TP := hid (told_one (s := 3) (by decide) _ rdyS HSA.out true hrd)
        by_cases h3 : 3 ≤ cn
        · rw [decide_eq_true h3] at hcm
          have TC := hid (told_one (s := 3) (by decide) _ comS HSA.out true hcm)
          clear hrd hcm
          go_wp2_with (first
            | (go_at_call 15; (with_reducible refine (GPrepared_true HL.out 3 (by decide) TP.out).mono ?_); rintro e wp ⟨rfl, f'⟩; clear q0 q1 q2 q3 q4; have HQ2 := hid (HQ.out.frm f' (fun h => h)); have HF2 := hid (below_frm0 HF.out f'); have HL2 := hid (HL.out.quiet f'); clear HQ HF HL f'; have HQ := HQ2; have HF := HF2; have HL := HL2; clear HQ2 HF2 HL2; have HLa := hid (fun o => HL.out.quiet (frm_box wp o)); have HFa := hid (fun o => HF.out.alloc HF.out.size o); clear HL HF HQ)
            | (go_at_call 13; (with_reducible refine (GCommitted_true (HLa.out _) 3 (by decide) TC.out).mono ?_); rintro e wq ⟨rfl, f'⟩; have HF := hid (below_frm0 (HFa.out _) f')))
          go_ret
          exact ⟨rfl, HF.out.alloc HF.out.size _⟩
        · rw [decide_eq_false h3] at hcm
          have TC := hid (told_one (s := 3) (by decide) _ comS HSA.out false hcm)
          clear hrd hcm
          go_wp2_with (first
            | (go_at_call 15; (with_reducible refine (GPrepared_true HL.out 3 (by decide) TP.out).mono ?_); rintro e wp ⟨rfl, f'⟩; clear q0 q1 q2 q3 q4; have HQ2 := hid (HQ.out.frm f' (fun h => h)); have HF2 := hid (below_frm0 HF.out f'); have HL2 := hid (HL.out.quiet f'); clear HQ HF HL f'; have HQ := HQ2; have HF := HF2; have HL := HL2; clear HQ2 HF2 HL2; have HLa := hid (fun o => HL.out.quiet (frm_box wp o)); have HFa := hid (fun o => HF.out.alloc HF.out.size o); clear HL HF HQ)
            | (go_at_call 13; (with_reducible refine (GCommitted_false (HLa.out _) 3 (by decide) TC.out).mono ?_); rintro e wq ⟨rfl, f'⟩; have HF := hid (below_frm0 (HFa.out _) f')))
          go_ret
          exact ⟨ret_bool (by rw [decide_eq_false (Int.not_le.2 h3)]; rfl), HF.out.alloc HF.out.size _⟩
      · rw [decide_eq_false h2] at hrd hcm
        rw [Bool.false_and] at hcm
        have TP := hid (told_one (s := 3) (by decide) _ rdyS HSA.out false hrd)
        have TC := hid (told_one (s := 3) (by decide) _ comS HSA.out false hcm)
        clear hrd hcm
        go_wp2_with (first
          | (go_at_call 15; (with_reducible refine (GPrepared_false HL.out 3 (by decide) TP.out).mono ?_); rintro e wp ⟨rfl, f'⟩; clear q0 q1 q2 q3 q4; have HQ2 := hid (HQ.out.frm f' (fun h => h)); have HF2 := hid (below_frm0 HF.out f'); have HL2 := hid (HL.out.quiet f'); clear HQ HF HL f'; have HQ := HQ2; have HF := HF2; have HL := HL2; clear HQ2 HF2 HL2; have HLa := hid (fun o => HL.out.quiet (frm_box wp o)); have HFa := hid (fun o => HF.out.alloc HF.out.size o); clear HL HF HQ)
          | (go_at_call 13; (with_reducible refine (GCommitted_false (HLa.out _) 3 (by decide) TC.out).mono ?_); rintro e wq ⟨rfl, f'⟩; have HF := hid (below_frm0 (HFa.out _) f')))
        go_ret
        exact ⟨rfl, HF.out.alloc HF.out.size _⟩
end Go.Proofs.Ytijomhinfcahpaa
