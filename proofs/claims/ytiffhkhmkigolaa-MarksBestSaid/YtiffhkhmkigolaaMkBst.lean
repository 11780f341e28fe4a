/- MarksBest, walked: of marks that enough have the latest is told, not below the least that is asked for; one's own may be left out. For every four marks, every least one, every number and every one that is left out. -/
import Derived.Test.YtiffhkhmkigolaaMkKnown
import Derived.Test.YtiffhkhmkigolaaTypes
namespace Go.Proofs.Ytiffhkhmkigolaa
open Go.RowKit Go.ChangeShapes
set_option linter.unusedVariables false
set_option linter.unusedSimpArgs false
set_option maxRecDepth 100000
abbrev TA4 : Nat := 34
def aC (A : List Int) : List Value := A.map (Value.int .u8)
theorem aC_at (A : List Int) (k : Nat) (y : Int) (h : A[k]? = some y) : (aC A)[k]? = some (.int .u8 y) := by unfold aC; rw [List.getElem?_map, h]; rfl
/-- Each replica's one mark, of those that have told theirs. -/
def Hk (A : List Int) (k : Nat) : Nat → List Mk := fun i => if i < k then [(A.getD i 0 % 4 * 4, 9)] else []
theorem Hk_zero (A : List Int) : Hk A 0 = H0 := by funext i; unfold Hk H0; rw [if_neg (by omega)]
theorem Hk_at (A : List Int) (k : Nat) : Hk A k k = [] := by unfold Hk; rw [if_neg (by omega)]
theorem Hk_succ (A : List Int) (k : Nat) (y : Int) (h : A[k]? = some y) : updH (Hk A k) k (addL (y % 4 * 4, 9) (Hk A k k)) = Hk A (k + 1) := by
  rw [Hk_at]
  funext i
  unfold updH Hk
  have hy : A.getD k 0 = y := by rw [List.getD_eq_getElem?_getD, h]; rfl
  by_cases e : i = k
  · subst e; rw [if_pos rfl, if_pos (by omega), hy]; rfl
  · rw [if_neg e]
    by_cases e2 : i < k
    · rw [if_pos e2, if_pos (by omega)]
    · rw [if_neg e2, if_neg (by omega)]
theorem St_bit (A : List Int) (s : Int) (i : Nat) (hi : i < 4) (y : Int) (h : A[i]? = some y) : St (Hk A 4) (s, 9) i = (y % 4 * 4 == s) := by
  have hy : A.getD i 0 = y := by rw [List.getD_eq_getElem?_getD, h]; rfl
  unfold St Hk
  rw [if_pos hi, hy]
  rw [Bool.eq_iff_iff, decide_eq_true_iff, List.mem_singleton, beq_iff_eq]
  constructor
  · intro e; injection e with e1 e2; exact e1.symm
  · intro e; rw [e]
theorem St_8 (A : List Int) (s : Int) (i : Nat) : St (Hk A 4) (s, 8) i = false := by
  unfold St Hk
  split
  · exact decide_eq_false (by rw [List.mem_singleton]; intro e; injection e with e1 e2; exact absurd e2 (by decide))
  · exact decide_eq_false (by simp)
theorem cnt_8 (A : List Int) (s but : Int) : cntB (St (Hk A 4) (s, 8)) but = 0 := by
  have : ∀ k, pc (St (Hk A 4) (s, 8)) but k = 0 := by
    intro k
    induction k with
    | zero => rfl
    | succ k ih => exact pc_no ih (fun h => by rw [St_8] at h; exact absurd h.1 (by decide))
  exact this 4
theorem cnt_any {b : Nat → Bool} {but : Int} (h : 1 ≤ cntB b but) : anyB b = true := by
  cases ha : anyB b
  · obtain ⟨h0, h1, h2, h3⟩ := anyB_no ha
    have : cntB b but = 0 := pc_no (pc_no (pc_no (pc_no rfl (fun h => by rw [h0] at h; exact absurd h.1 (by decide))) (fun h => by rw [h1] at h; exact absurd h.1 (by decide))) (fun h => by rw [h2] at h; exact absurd h.1 (by decide))) (fun h => by rw [h3] at h; exact absurd h.1 (by decide))
    omega
  · rfl
theorem any_form (A : List Int) (h4 : A.length = 4) (hA : ∀ y ∈ A, 0 ≤ y) (m : Mk) (h : anyB (St (Hk A 4) m) = true) : ∃ j : Nat, j < 4 ∧ m = (4 * (j : Int), 9) := by
  have key : ∀ i, i < 4 → m ∈ Hk A 4 i → ∃ j : Nat, j < 4 ∧ m = (4 * (j : Int), 9) := by
    intro i hi hm
    unfold Hk at hm
    rw [if_pos hi, List.mem_singleton] at hm
    have h0 : 0 ≤ A.getD i 0 := by
      rw [List.getD_eq_getElem?_getD, List.getElem?_eq_getElem (by omega)]; exact hA _ (List.getElem_mem _)
    refine ⟨(A.getD i 0 % 4).toNat, by omega, ?_⟩
    rw [hm, Int.toNat_of_nonneg (by omega), Int.mul_comm]
  simp only [anyB, St, Bool.or_eq_true, decide_eq_true_eq] at h
  rcases h with h | h | h | h
  · exact key 0 (by decide) h
  · exact key 1 (by decide) h
  · exact key 2 (by decide) h
  · exact key 3 (by decide) h
/-- Is the mark at 4 j one that may be told? -/
def okJ (σ : Has) (l k but : Int) (j : Nat) : Prop := k ≤ cntB (σ (4 * (j : Int), 9)) but ∧ l ≤ 4 * (j : Int)
/-- The best of those at less than 4 j. -/
structure BestJ (σ : Has) (l k but : Int) (j : Nat) (best : Int) (some_ : Bool) : Prop where
  no : some_ = false → best = 0 ∧ ∀ i, i < j → ¬ okJ σ l k but i
  yes : some_ = true → ∃ i, i < j ∧ best = 4 * (i : Int) ∧ okJ σ l k but i ∧ ∀ i', i < i' → i' < j → ¬ okJ σ l k but i'
theorem BestJ.zero (σ : Has) (l k but : Int) : BestJ σ l k but 0 0 false := ⟨fun _ => ⟨rfl, fun i h => by omega⟩, fun h => absurd h (by decide)⟩
theorem BestJ.take {σ : Has} {l k but : Int} {j : Nat} {best : Int} {sm : Bool} (h : BestJ σ l k but j best sm) (hj : okJ σ l k but j) : BestJ σ l k but (j + 1) (4 * (j : Int)) true :=
  ⟨fun e => absurd e (by decide), fun _ => ⟨j, by omega, rfl, hj, fun i' h1 h2 => by omega⟩⟩
theorem BestJ.pass {σ : Has} {l k but : Int} {j : Nat} {best : Int} {sm : Bool} (h : BestJ σ l k but j best sm) (hj : ¬ okJ σ l k but j) : BestJ σ l k but (j + 1) best sm :=
  ⟨fun e => ⟨(h.no e).1, fun i hi => by
    by_cases e2 : i = j
    · rw [e2]; exact hj
    · exact (h.no e).2 i (by omega)⟩, fun e => by
    obtain ⟨i, h1, h2, h3, h4⟩ := h.yes e
    exact ⟨i, by omega, h2, h3, fun i' h5 h6 => by
      by_cases e2 : i' = j
      · rw [e2]; exact hj
      · exact h4 i' h5 (by omega)⟩⟩
theorem best_end {A : List Int} (h4 : A.length = 4) (hA : ∀ y ∈ A, 0 ≤ y) {l k but : Int} (hk : 1 ≤ k) {best : Int} {sm fd : Bool} {b : Mk} (h : BestJ (St (Hk A 4)) l k but 4 best sm) (hb : BestR (St (Hk A 4)) l k but fd b) : fd = sm ∧ (fd = true → b = (best, 9)) := by
  have toJ : ∀ m, okB (St (Hk A 4)) l k but m → ∃ j : Nat, j < 4 ∧ m = (4 * (j : Int), 9) ∧ okJ (St (Hk A 4)) l k but j := by
    intro m hm
    obtain ⟨j, hj, e⟩ := any_form A h4 hA m hm.1
    subst e
    exact ⟨j, hj, rfl, hm.2.2, hm.2.1⟩
  have ofJ : ∀ j : Nat, okJ (St (Hk A 4)) l k but j → okB (St (Hk A 4)) l k but (4 * (j : Int), 9) := fun j hj => ⟨cnt_any (but := but) (by have := hj.1; omega), hj.2, hj.1⟩
  cases sm
  · cases fd
    · exact ⟨rfl, fun h => absurd h (by decide)⟩
    · obtain ⟨j, hj, _, ho⟩ := toJ b (hb.yes rfl).1
      exact absurd ho ((h.no rfl).2 j hj)
  · obtain ⟨i, hi, he, ho, hn⟩ := h.yes rfl
    cases fd
    · exact absurd (ofJ i ho) ((hb.no rfl).2 _)
    · refine ⟨rfl, fun _ => ?_⟩
      obtain ⟨h1, h2⟩ := hb.yes rfl
      obtain ⟨j, hj, e, hoj⟩ := toJ b h1
      have h3 := h2 _ (ofJ i ho)
      subst e
      have hij : ¬ i < j := fun e => hn j e hj hoj
      have hji : ¬ j < i := fun e => h3 (.inl (by show (4 * (j : Int)) < 4 * (i : Int); omega))
      obtain rfl : i = j := by omega
      rw [he]
set_option maxHeartbeats 16000000 in
theorem MarksBest_walk (l0 : List Value) (x0 : List Int) (a1 a2 a3 : Int) (w : World) (h0 : c34.K w x0 l0) (h1 : (Lit.int .u8 a1).wf = true) (h2 : (Lit.int .u8 a2).wf = true) (h3 : (Lit.int .u8 a3).wf = true) :
    Calls Try.prog 4 #[.agg l0.toArray, .int .u8 a1, .int .u8 a2, .int .u8 a3] w fun e w' => e = .returned (.bool true) ∧ Below w.heap.size w w' := by
  obtain ⟨rfl, hl4, hwf⟩ := k34 h0
  clear h0
  have hA : ∀ y ∈ x0, 0 ≤ y ∧ y ≤ 255 := fun y hy => (by have := hwf y hy; simp [Lit.wf, IntKind.min, IntKind.max, IntKind.bits, IntKind.signed] at this; omega)
  have ha1 : 0 ≤ a1 ∧ a1 ≤ 255 := by simp [Lit.wf, IntKind.min, IntKind.max, IntKind.bits, IntKind.signed] at h1; omega
  have ha2 : 0 ≤ a2 ∧ a2 ≤ 255 := by simp [Lit.wf, IntKind.min, IntKind.max, IntKind.bits, IntKind.signed] at h2; omega
  have ha3 : 0 ≤ a3 ∧ a3 ≤ 255 := by simp [Lit.wf, IntKind.min, IntKind.max, IntKind.bits, IntKind.signed] at h3; omega
  have HA := hid hA
  have HL4 := hid hl4
  obtain ⟨ls, hls⟩ : ∃ ls, a1 % 16 = ls := ⟨_, rfl⟩
  obtain ⟨kq, hkq⟩ : ∃ kq, a2 % 4 = kq := ⟨_, rfl⟩
  obtain ⟨bq, hbq⟩ : ∃ bq, a3 % 6 = bq := ⟨_, rfl⟩
  obtain ⟨hls0, hls1⟩ : 0 ≤ ls ∧ ls ≤ 15 := by omega
  obtain ⟨hkq0, hkq1⟩ : 0 ≤ kq ∧ kq ≤ 3 := by omega
  obtain ⟨hbq0, hbq1⟩ : 0 ≤ bq ∧ bq ≤ 5 := by omega
  have t1 : a1.tmod 16 = ls := by rw [Int.tmod_eq_emod_of_nonneg ha1.1]; exact hls
  have t2 : a2.tmod 4 = kq := by rw [Int.tmod_eq_emod_of_nonneg ha2.1]; exact hkq
  have t3 : a3.tmod 6 = bq := by rw [Int.tmod_eq_emod_of_nonneg ha3.1]; exact hbq
  obtain ⟨b0, b1, b2, b3, rfl⟩ : ∃ b0 b1 b2 b3, x0 = [b0, b1, b2, b3] := by
    match x0, hl4 with
    | [b0, b1, b2, b3], _ => exact ⟨b0, b1, b2, b3, rfl⟩
  clear hwf hl4 hA h1 h2 h3 ha1 ha2 ha3 hls hkq hbq
  go_enter Try.func4, Try.ntmps4
  go_wp2_with (first
    | (go_at_call 7; (with_reducible refine (known_calls _).mono ?_); rintro e w1 ⟨rfl, f'⟩; have HX := hid ((Blk.new w (aC [b0, b1, b2, b3]) TA4).frm f' (fun h => h)); have HW1 := hid (show w.heap.size < w1.heap.size by have := f'.size; simp at this; omega); have HF := hid (((Below.refl _ _).alloc (Nat.le_refl _) _).trans (f'.below (by simp) (fun k hk hn => hn))); clear f')
    | (go_at_call 8; (with_reducible refine (MsNew_calls _).mono ?_); rintro e w2 ⟨rfl, hv, hf⟩; have HE := hid hv; have HF2 := hid (HF.out.trans (hf.below (Nat.le_of_lt HW1.out) (fun k hk hn => hn))); have HX2 := hid (HX.out.frm hf (fun h => h)); clear hv hf HF HX; have HF := HF2; have HX := HX2; clear HF2 HX2))
  obtain ⟨A, hAA⟩ : ∃ A, [b0, b1, b2, b3] = A := ⟨_, rfl⟩
  rw [hAA] at HA HL4 HX
  clear hAA
  obtain ⟨lb, hlb⟩ : ∃ lb, w1.heap.size + 1 = lb := ⟨_, rfl⟩
  obtain ⟨mb, hmb⟩ : ∃ mb, w1.heap.size = mb := ⟨_, rfl⟩
  obtain ⟨xb, hxb⟩ : ∃ xb, w.heap.size = xb := ⟨_, rfl⟩
  have HXB := hid (show ¬ xb = lb ∧ ¬ xb = mb ∧ w.heap.size ≤ mb ∧ w.heap.size ≤ lb by have := HW1.out; omega)
  rw [hlb, hmb] at HE
  rw [hxb] at HX
  rw [hlb, hxb]
  clear hlb hmb hxb HW1
  go_loopw [10] (fun iv wr => ∃ (k : Nat), k ≤ 4 ∧ iv = .int .u8 k ∧ IsMs wr lb mb (2 * k) (Hk A k) ∧ Blk wr xb (aC A) TA4 ∧ Below w.heap.size w wr) (fun i _ => 4 - (intOf i).toNat)
  case atStart => exact ⟨0, by omega, rfl, by rw [Hk_zero]; exact HE.out, HX.out, HF.out⟩
  case round =>
    clear HE HX HF
    obtain ⟨k, hk, rfl, he, hx, hf⟩ := hrel
    have HE := hid he; have HX := hid hx; have HF := hid hf
    clear he hx hf
    by_cases hk4 : k < 4
    · obtain ⟨y, hy⟩ : ∃ y, A[k]? = some y := ⟨_, List.getElem?_eq_getElem (by rw [HL4.out]; exact hk4)⟩
      obtain ⟨hy0, hy1⟩ := HA.out y (List.mem_of_getElem? hy)
      have hc := (HX.out.cell k).trans (aC_at A k y hy)
      have hki : (k : Int) < 4 := by omega
      have hk0 : 0 ≤ (k : Int) := by omega
      have HK4 := hid hk4
      obtain ⟨r, hr⟩ : ∃ r, y % 4 = r := ⟨_, rfl⟩
      obtain ⟨hr0, hr3⟩ : 0 ≤ r ∧ r ≤ 3 := by omega
      have HRB := hid (show 0 ≤ r ∧ r ≤ 3 from ⟨hr0, hr3⟩)
      have hyt : y.tmod 4 = r := by rw [Int.tmod_eq_emod_of_nonneg hy0]; exact hr
      have HS := hid (hr ▸ Hk_succ A k y hy)
      have HHS := hid (show hasS (r * 4) (Hk A k k) = false by rw [Hk_at]; rfl)
      have HOK := hid (show okK (r * 4, 9) from ⟨⟨by show 0 ≤ r * 4; omega, by show r * 4 ≤ 4294967295; omega⟩, ⟨by show (0 : Int) ≤ 9; decide, by show (9 : Int) ≤ 18446744073709551615; decide⟩⟩)
      clear hy hk4 hk hy0 hy1 hr
      go_wp2_with (go_at_call 9; (with_reducible refine (MAdd_new HE.out (by have := HK4.out; omega) k HK4.out k rfl (r * 4, 9) HOK.out (by show r * 4 % 4 = 0; omega) (by show r * 4 ≤ 1073741824; have := HRB.out; omega) HHS.out).mono ?_); rintro e w3 ⟨rfl, he, f'⟩; have HE2 := hid he; have HX2 := hid (HX.out.frm f' (fun e => HXB.out.2.1 e)); have HF2 := hid (HF.out.trans (f'.below HF.out.size (fun k hk e => by have := HXB.out; omega))); clear HE HX HF he f'; have HE := HE2; have HX := HX2; have HF := HF2; clear HE2 HX2 HF2)
      go_roundw
      case rel => exact ⟨k + 1, by have := HK4.out; omega, rfl, HS.out ▸ HE.out, HX.out, HF.out⟩
      case measure => have := HK4.out; simp [intOf]; omega
    · have hke : k = 4 := by omega
      subst hke
      clear hk hk4
      generalize wr = wz at *
      obtain ⟨σ, hσ⟩ : ∃ σ, St (Hk A 4) = σ := ⟨_, rfl⟩
      have HSG := hid hσ
      have hkw : IntKind.i64.wrap (kq + 1) = kq + 1 := by simp [IntKind.wrap, IntKind.bits, IntKind.signed]; omega
      have hbw : IntKind.i64.wrap (bq - 1) = bq - 1 := by simp [IntKind.wrap, IntKind.bits, IntKind.signed]; omega
      clear hσ
      go_wp2
      obtain ⟨K, hK⟩ : ∃ K, kq + 1 = K := ⟨_, rfl⟩
      obtain ⟨B, hB⟩ : ∃ B, bq - 1 = B := ⟨_, rfl⟩
      obtain ⟨hK1, hK4⟩ : 1 ≤ K ∧ K ≤ 4 := by omega
      have HK1 := hid hK1
      rw [hK, hB]
      rw [show ((4 : Nat) : Int) = 4 from rfl]
      clear hK hB hkw hbw t2 t3 hkq0 hkq1 hbq0 hbq1
      go_loopw [13, 14, 15] (fun bv sv xv wr => ∃ (j : Nat) (best : Int) (sm : Bool), j ≤ 4 ∧ bv = .int .u32 best ∧ sv = .bool sm ∧ xv = .int .u32 (4 * (j : Int)) ∧ wz = wr ∧ BestJ σ ls K B j best sm) (fun _ _ i _ => 20 - (intOf i).toNat)
      case atStart => exact ⟨0, 0, false, by omega, rfl, rfl, rfl, rfl, BestJ.zero _ _ _ _⟩
      case round =>
        obtain ⟨j, best, sm, hj, rfl, rfl, rfl, rfl, hp⟩ := hrel
        have HP := hid hp
        clear hp
        obtain ⟨S, hS⟩ : ∃ S, 4 * (j : Int) = S := ⟨_, rfl⟩
        rw [hS]
        by_cases hj4 : j < 4
        · have HJ4 := hid hj4
          obtain ⟨hS0, hS12⟩ : 0 ≤ S ∧ S ≤ 12 := by omega
          have HSS := hid hS
          have HSK := hid (show okK (S, 9) from ⟨⟨hS0, by show S ≤ 4294967295; omega⟩, ⟨by show (0 : Int) ≤ 9; decide, by show (9 : Int) ≤ 18446744073709551615; decide⟩⟩)
          have HSK8 := hid (show okK (S, 8) from ⟨⟨hS0, by show S ≤ 4294967295; omega⟩, ⟨by show (0 : Int) ≤ 8; decide, by show (8 : Int) ≤ 18446744073709551615; decide⟩⟩)
          have hsw : IntKind.u32.wrap (S + 4) = S + 4 := by simp [IntKind.wrap, IntKind.bits, IntKind.signed]; omega
          clear hj hj4
          go_wp2
          go_loopw [16, 17] (fun nv iv wr => ∃ (i : Nat), i ≤ 4 ∧ nv = .int .i64 (pc (σ (S, 9)) B i) ∧ iv = .int .i64 i ∧ wz = wr) (fun _ iv _ => 4 - (intOf iv).toNat)
          case atStart => exact ⟨0, by omega, rfl, rfl, rfl⟩
          case round =>
            obtain ⟨i, hi, rfl, rfl, rfl⟩ := hrel
            obtain ⟨C, hC⟩ : ∃ C, pc (σ (S, 9)) B i = C := ⟨_, rfl⟩
            have hcb := pc_le (σ (S, 9)) B i
            rw [hC] at hcb ⊢
            have HC := hid hC
            obtain ⟨hc0, hc1⟩ := hcb
            have hc4 : C ≤ 4 := by omega
            clear hC
            by_cases hi4 : i < 4
            · obtain ⟨y, hy⟩ : ∃ y, A[i]? = some y := ⟨_, List.getElem?_eq_getElem (by rw [HL4.out]; exact hi4)⟩
              obtain ⟨hy0, hy1⟩ := HA.out y (List.mem_of_getElem? hy)
              have hc := (HX.out.cell i).trans (aC_at A i y hy)
              have hki : (i : Int) < 4 := by omega
              have hk0 : 0 ≤ (i : Int) := by omega
              have HI4 := hid hi4
              obtain ⟨r, hr⟩ : ∃ r, y % 4 = r := ⟨_, rfl⟩
              obtain ⟨hr0, hr3⟩ : 0 ≤ r ∧ r ≤ 3 := by omega
              have hyt : y.tmod 4 = r := by rw [Int.tmod_eq_emod_of_nonneg hy0]; exact hr
              have HBIT := hid (show σ (S, 9) i = (r * 4 == S) by rw [← HSG.out, ← hr]; exact St_bit A S i hi4 y hy)
              clear hy hi4 hi hy0 hy1 hr hc1
              by_cases he : r * 4 = S
              · have e1 : (r * 4 == S) = true := beq_iff_eq.2 he
                have HB1 := hid (HBIT.out.trans e1)
                by_cases hib : (i : Int) = B
                · have HN := hid (pc_no HC.out (fun h => h.2 hib))
                  have e2 : ((i : Int) == B) = true := beq_iff_eq.2 hib
                  have e3 : ((i : Int) != B) = false := by rw [bne, e2]; rfl
                  have HIB := hid hib
                  clear he hib
                  go_wp2
                  go_roundw
                  case rel => exact ⟨i + 1, by have := HI4.out; omega, by rw [HN.out], by first | rfl | go_num, by first | rfl | trivial⟩
                  case measure => have := HI4.out; simp [intOf]; omega
                · have HN := hid (pc_yes HC.out HB1.out hib)
                  have e2 : ((i : Int) == B) = false := beq_eq_false_iff_ne.2 hib
                  have e3 : ((i : Int) != B) = true := by rw [bne, e2]; rfl
                  clear he hib
                  go_wp2
                  go_roundw
                  case rel => exact ⟨i + 1, by have := HI4.out; omega, by rw [HN.out], by first | rfl | go_num, by first | rfl | trivial⟩
                  case measure => have := HI4.out; simp [intOf]; omega
              · have e1 : (r * 4 == S) = false := beq_eq_false_iff_ne.2 he
                have HN := hid (pc_no HC.out (fun h => by rw [HBIT.out, e1] at h; exact absurd h.1 (by decide)))
                clear he
                go_wp2
                go_roundw
                case rel => exact ⟨i + 1, by have := HI4.out; omega, by rw [HN.out], by first | rfl | go_num, by first | rfl | trivial⟩
                case measure => have := HI4.out; simp [intOf]; omega
            · have hie : i = 4 := by omega
              subst hie
              clear hi hi4 hc1
              have HCC := hid (show cntB (σ (S, 9)) B = C from HC.out)
              have HC8 := hid (show cntB (σ (S, 8)) B = 0 by rw [← HSG.out]; exact cnt_8 A S B)
              have HEI := hid (show IsMk _ lb mb _ σ from HSG.out ▸ HE.out.im)
              by_cases hck : K ≤ C
              · by_cases hsl : ls ≤ S
                · have HOJ := hid (HP.out.take (j := j) ⟨by rw [HSS.out]; show K ≤ cntB (σ (S, 9)) B; rw [show cntB (σ (S, 9)) B = C from HC.out]; exact hck, by rw [HSS.out]; exact hsl⟩)
                  rw [HSS.out] at HOJ
                  go_wp2_with (first
                    | (go_at_call 11; (with_reducible refine (MCount_calls HEI.out (S, 9) HSK.out B C HCC.out).mono ?_); rintro e w5 ⟨rfl, rfl⟩; skip)
                    | (go_at_call 11; (with_reducible refine (MCount_calls HEI.out (S, 8) HSK8.out B 0 HC8.out).mono ?_); rintro e w5 ⟨rfl, rfl⟩; skip))
                  go_roundw
                  case rel => exact ⟨j + 1, _, _, by have := HJ4.out; omega, rfl, rfl, by rw [show S + 4 = 4 * ((j + 1 : Nat) : Int) by have := HSS.out; omega], by first | rfl | trivial, HOJ.out⟩
                  case measure => have := HSS.out; have := HJ4.out; simp [intOf]; omega
                · have HOJ := hid (HP.out.pass (j := j) (fun h => by have := h.2; rw [HSS.out] at this; omega))
                  go_wp2_with (first
                    | (go_at_call 11; (with_reducible refine (MCount_calls HEI.out (S, 9) HSK.out B C HCC.out).mono ?_); rintro e w5 ⟨rfl, rfl⟩; skip)
                    | (go_at_call 11; (with_reducible refine (MCount_calls HEI.out (S, 8) HSK8.out B 0 HC8.out).mono ?_); rintro e w5 ⟨rfl, rfl⟩; skip))
                  go_roundw
                  case rel => exact ⟨j + 1, _, _, by have := HJ4.out; omega, rfl, rfl, by rw [show S + 4 = 4 * ((j + 1 : Nat) : Int) by have := HSS.out; omega], by first | rfl | trivial, HOJ.out⟩
                  case measure => have := HSS.out; have := HJ4.out; simp [intOf]; omega
              · have HOJ := hid (HP.out.pass (j := j) (fun h => by have := h.1; rw [HSS.out] at this; rw [show cntB (σ (S, 9)) B = C from HC.out] at this; omega))
                go_wp2_with (first
                  | (go_at_call 11; (with_reducible refine (MCount_calls HEI.out (S, 9) HSK.out B C HCC.out).mono ?_); rintro e w5 ⟨rfl, rfl⟩; skip)
                  | (go_at_call 11; (with_reducible refine (MCount_calls HEI.out (S, 8) HSK8.out B 0 HC8.out).mono ?_); rintro e w5 ⟨rfl, rfl⟩; skip))
                go_roundw
                case rel => exact ⟨j + 1, _, _, by have := HJ4.out; omega, rfl, rfl, by rw [show S + 4 = 4 * ((j + 1 : Nat) : Int) by have := HSS.out; omega], by first | rfl | trivial, HOJ.out⟩
                case measure => have := HSS.out; have := HJ4.out; simp [intOf]; omega
        · have hje : j = 4 := by omega
          subst hje
          obtain rfl : (16 : Int) = S := hS
          clear hj hj4
          have HEI := hid (show IsMk _ lb mb _ σ from HSG.out ▸ HE.out.im)
          have HOKS := hid (show ∀ m, anyB (σ m) = true → okK m from HSG.out ▸ HE.out.okK)
          have HBE := hid (fun (fd : Bool) (b : Mk) (hb : BestR σ ls K B fd b) => best_end HL4.out (fun y hy => (HA.out y hy).1) HK1.out (HSG.out.symm ▸ HP.out) (HSG.out.symm ▸ hb))
          cases sm
          · go_wp2_with (go_at_call 10; (with_reducible refine (MBest_calls HEI.out HOKS.out ls K B HK1.out).mono ?_); rintro e w5 ⟨b, fd, rfl, hb, f'⟩; obtain ⟨rfl, hbb⟩ := HBE.out fd b hb; clear hbb; have HF2 := hid (HF.out.trans (f'.below HF.out.size (fun k hk hn => hn))); clear hb f')
            go_ret
            exact ⟨rfl, HF2.out.alloc (Nat.le_trans HF2.out.size (Nat.le_refl _)) _⟩
          · have heq := fun w => eqMk w best 9 best 9 true (by simp)
            go_wp2_with (go_at_call 10; (with_reducible refine (MBest_calls HEI.out HOKS.out ls K B HK1.out).mono ?_); rintro e w5 ⟨b, fd, rfl, hb, f'⟩; obtain ⟨rfl, hbb⟩ := HBE.out fd b hb; obtain rfl := hbb rfl; have HF2 := hid (HF.out.trans (f'.below HF.out.size (fun k hk hn => hn))); clear hb f')
            go_ret
            exact ⟨rfl, HF2.out.alloc (Nat.le_trans HF2.out.size (Nat.le_refl _)) _⟩
end Go.Proofs.Ytiffhkhmkigolaa
