/- MarksTwo, walked: of each replica the two latest marks stay, whatever their order; what is forgotten or dropped is gone. For every row of at most 40 marks, every place that is dropped. -/
import Derived.Test.YtiffhkhmkigolaaMkDrop
import Derived.Test.YtiffhkhmkigolaaArgs
import Derived.Deep.QuietTactic
namespace Go.Proofs.Ytiffhkhmkigolaa
open Go.RowKit Go.ChangeShapes
set_option linter.unusedVariables false
set_option linter.unusedSimpArgs false
set_option maxRecDepth 100000
abbrev TI4 : Nat := 49
def iC (M : List Int) : List Value := M.map (Value.int .i64)
theorem iC_at (M : List Int) (k : Nat) (hk : k < M.length) : (iC M)[k]? = some (.int .i64 (M.getD k (-1))) := by
  unfold iC; rw [List.getElem?_map, List.getD_eq_getElem?_getD, List.getElem?_eq_getElem hk]; rfl
theorem iC_set (M : List Int) (k : Nat) (x : Int) : (iC M).set k (.int .i64 x) = iC (M.set k x) := by unfold iC; rw [List.map_set]
theorem getD_set1 (M : List Int) (n j : Nat) (x : Int) (hn : n < M.length) : (M.set n x).getD j (-1) = if j = n then x else M.getD j (-1) := by
  rw [List.getD_eq_getElem?_getD, List.getElem?_set, List.getD_eq_getElem?_getD]
  by_cases h : j = n
  · subst h; rw [if_pos rfl, if_pos hn, if_pos rfl]; rfl
  · rw [if_neg (fun e => h e.symm), if_neg h]
/-- A replica's marks: the two greatest. -/
def hl (t x : Int) : List Mk := (if 0 ≤ t then [(t * 4, 9)] else []) ++ (if 0 ≤ x then [(x * 4, 9)] else [])
structure OkP (t x : Int) : Prop where
  lo : -1 ≤ x
  le : x < t ∨ t = -1 ∧ x = -1
  hi : t ≤ 15
def HT (T X : List Int) : Nat → List Mk := fun i => hl (T.getD i (-1)) (X.getD i (-1))
theorem hl_none : hl (-1) (-1) = [] := rfl
theorem hl_one {t : Int} (h : 0 ≤ t) : hl t (-1) = [(t * 4, 9)] := by unfold hl; rw [if_pos h]; rfl
theorem hl_two {t x : Int} (h : 0 ≤ t) (hx : 0 ≤ x) : hl t x = [(t * 4, 9), (x * 4, 9)] := by unfold hl; rw [if_pos h, if_pos hx]; rfl
theorem hasS_two {s : Int} {a b : Mk} : hasS s [a, b] = (a.1 == s || b.1 == s) := by simp [hasS]
theorem hasS_one {s : Int} {a : Mk} : hasS s [a] = (a.1 == s) := by simp [hasS]
/-- What Add leaves. -/
def addP (k : Int) (l : List Mk) : List Mk := if hasS (k * 4) l = true then l else addL (k * 4, 9) l
theorem addP_top {t x k : Int} (h : OkP t x) (h0 : 0 ≤ k) (hk : k = t) : addP k (hl t x) = hl t x := by
  subst hk
  refine if_pos ?_
  rcases h.le with h1 | ⟨h1, _⟩
  · by_cases hx : 0 ≤ x
    · rw [hl_two h0 hx, hasS_two]; simp
    · obtain rfl : x = -1 := by have := h.lo; omega
      rw [hl_one h0, hasS_one]; simp
  · omega
theorem addP_next {t x k : Int} (h : OkP t x) (h0 : 0 ≤ k) (hk : k = x) : addP k (hl t x) = hl t x := by
  subst hk
  refine if_pos ?_
  have : 0 ≤ t := by rcases h.le with h1 | ⟨h1, h2⟩ <;> omega
  rw [hl_two this h0, hasS_two]; simp
theorem addP_more {t x k : Int} (h : OkP t x) (h0 : 0 ≤ k) (hk : t < k) : addP k (hl t x) = hl k t := by
  have hx1 : x < k := by rcases h.le with h1 | ⟨h1, h2⟩ <;> omega
  by_cases ht : 0 ≤ t
  · have e1 : t * 4 < k * 4 := by omega
    by_cases hx : 0 ≤ x
    · rw [hl_two ht hx, hl_two h0 ht]
      unfold addP
      rw [hasS_two, if_neg (by simp; omega)]
      simp [addL, insS, hk]
    · obtain rfl : x = -1 := by have := h.lo; omega
      rw [hl_one ht, hl_two h0 ht]
      unfold addP
      rw [hasS_one, if_neg (by simp; omega)]
      simp [addL, insS, hk]
  · obtain rfl : t = -1 := by rcases h.le with h1 | ⟨h1, _⟩ <;> have := h.lo <;> omega
    obtain rfl : x = -1 := by have := h.lo; rcases h.le with h1 | ⟨_, h2⟩ <;> omega
    rw [hl_one h0]; rfl
theorem addP_mid {t x k : Int} (h : OkP t x) (h0 : 0 ≤ k) (h1 : k < t) (h2 : x < k) : addP k (hl t x) = hl t k := by
  have ht : 0 ≤ t := by omega
  have e1 : ¬ t < k := by omega
  have e2 : x < k := by omega
  by_cases hx : 0 ≤ x
  · rw [hl_two ht hx, hl_two ht h0]
    unfold addP
    rw [hasS_two, if_neg (by simp; omega)]
    simp [addL, insS, e1, e2]
  · obtain rfl : x = -1 := by have := h.lo; omega
    rw [hl_one ht, hl_two ht h0]
    unfold addP
    rw [hasS_one, if_neg (by simp; omega)]
    simp [addL, insS, e1]
theorem addP_less {t x k : Int} (h : OkP t x) (h0 : 0 ≤ k) (h1 : k < x) : addP k (hl t x) = hl t x := by
  have ht : 0 ≤ t := by rcases h.le with h3 | ⟨_, h3⟩ <;> omega
  have hxt : x < t := by rcases h.le with h3 | ⟨_, h3⟩ <;> omega
  have hx : 0 ≤ x := by omega
  have e1 : ¬ t < k := by omega
  have e2 : ¬ x < k := by omega
  rw [hl_two ht hx]
  unfold addP
  rw [hasS_two, if_neg (by simp; omega)]
  simp [addL, insS, e1, e2]
theorem HT_add (T X : List Int) (hT : T.length = 4) (hX : X.length = 4) (n : Nat) (hn : n < 4) (k t' x' : Int) (h : addP k (hl (T.getD n (-1)) (X.getD n (-1))) = hl t' x') : addH (HT T X) n (k * 4, 9) = HT (T.set n t') (X.set n x') := by
  funext i
  by_cases hi : i = n
  · subst hi
    unfold HT
    rw [getD_set1 _ _ _ _ (by omega), getD_set1 _ _ _ _ (by omega), if_pos rfl, if_pos rfl, ← h]
    unfold addH addP
    split
    · rfl
    · unfold updH; rw [if_pos rfl]
  · rw [addH_ne _ _ _ hi]
    unfold HT
    rw [getD_set1 _ _ _ _ (by omega), getD_set1 _ _ _ _ (by omega), if_neg hi, if_neg hi]
theorem set_same1 (M : List Int) (n : Nat) (hn : n < M.length) (x : Int) (h : M.getD n (-1) = x) : M.set n x = M := by
  have : M.getD n (-1) = M[n] := by rw [List.getD_eq_getElem?_getD, List.getElem?_eq_getElem hn]; rfl
  rw [← h, this, List.set_getElem_self]
abbrev OkS (T X : List Int) : Prop := ∀ i, i < 4 → OkP (T.getD i (-1)) (X.getD i (-1))
theorem OkS.set {T X : List Int} (h : OkS T X) (hT : T.length = 4) (hX : X.length = 4) (n : Nat) (hn : n < 4) {t' x' : Int} (hp : OkP t' x') : OkS (T.set n t') (X.set n x') := fun i hi => by
  rw [getD_set1 _ _ _ _ (by omega), getD_set1 _ _ _ _ (by omega)]
  by_cases e : i = n
  · rw [if_pos e, if_pos e]; exact hp
  · rw [if_neg e, if_neg e]; exact h i hi
abbrev M1 : List Int := [-1, -1, -1, -1]
theorem HT_zero : HT M1 M1 = H0 := by
  funext i
  have : M1.getD i (-1) = -1 := by
    match i with
    | 0 => rfl
    | 1 => rfl
    | 2 => rfl
    | 3 => rfl
    | i + 4 => rfl
  unfold HT H0; rw [this]; rfl
theorem OkS.zero : OkS M1 M1 := fun i hi => by
  have : M1.getD i (-1) = -1 := by rcases (show i = 0 ∨ i = 1 ∨ i = 2 ∨ i = 3 by omega) with rfl | rfl | rfl | rfl <;> rfl
  rw [this]; exact ⟨by decide, .inr ⟨rfl, rfl⟩, by decide⟩
/-- Rounds of the beginning. -/
def bgn (k : Nat) : List Int := (List.range 4).map fun j => if j < k then -1 else 0
theorem bgn_set (k : Nat) (hk : k < 4) : (bgn k).set k (-1) = bgn (k + 1) := by
  rcases (show k = 0 ∨ k = 1 ∨ k = 2 ∨ k = 3 by omega) with rfl | rfl | rfl | rfl <;> rfl
theorem bgn_len (k : Nat) : (bgn k).length = 4 := by unfold bgn; rw [List.length_map, List.length_range]
theorem sq_hl {t x : Int} (h : 0 ≤ t) : sq (hl t x) 0 = t * 4 := by unfold hl; rw [if_pos h]; rfl
/-- How many of a replica's marks stay. -/
def stay (d t x : Int) : Int := (if d ≤ t then 1 else 0) + (if d ≤ x then 1 else 0)
def st (d : Int) (T X : List Int) : Nat → Int
  | 0 => 0
  | k + 1 => st d T X k + stay d (T.getD k (-1)) (X.getD k (-1))
theorem stay_b (d t x : Int) : 0 ≤ stay d t x ∧ stay d t x ≤ 2 := by unfold stay; split <;> split <;> omega
theorem st_b (d : Int) (T X : List Int) : ∀ k, 0 ≤ st d T X k ∧ st d T X k ≤ 2 * k
  | 0 => ⟨Int.le_refl _, Int.le_refl _⟩
  | k + 1 => by have := st_b d T X k; have := stay_b d (T.getD k (-1)) (X.getD k (-1)); unfold st; omega
theorem stay_len {d t x : Int} (hd : 0 ≤ d) : ((((hl t x).filter fun m => decide (d * 4 ≤ m.1)).length : Nat) : Int) = stay d t x := by
  unfold hl stay
  by_cases ht : 0 ≤ t
  · by_cases hx : 0 ≤ x
    · rw [if_pos ht, if_pos hx]
      by_cases h1 : d ≤ t
      · by_cases h2 : d ≤ x
        · rw [if_pos h1, if_pos h2]; simp [List.filter_cons, h1, h2]
        · rw [if_pos h1, if_neg h2]; simp [List.filter_cons, h1, h2]
      · by_cases h2 : d ≤ x
        · rw [if_neg h1, if_pos h2]; simp [List.filter_cons, h1, h2]
        · rw [if_neg h1, if_neg h2]; simp [List.filter_cons, h1, h2]
    · rw [if_pos ht, if_neg hx, if_neg (show ¬ d ≤ x by omega)]
      by_cases h1 : d ≤ t
      · rw [if_pos h1]; simp [List.filter_cons, h1]
      · rw [if_neg h1]; simp [List.filter_cons, h1]
  · by_cases hx : 0 ≤ x
    · rw [if_neg ht, if_pos hx, if_neg (show ¬ d ≤ t by omega)]
      by_cases h2 : d ≤ x
      · rw [if_pos h2]; simp [List.filter_cons, h2]
      · rw [if_neg h2]; simp [List.filter_cons, h2]
    · rw [if_neg ht, if_neg hx, if_neg (show ¬ d ≤ t by omega), if_neg (show ¬ d ≤ x by omega)]; rfl
theorem sum_st {d : Int} (hd : 0 ≤ d) (T X : List Int) : ((sum4 fun i => (dropH (d * 4) (HT T X) i).length : Nat) : Int) = st d T X 4 := by
  have key := fun i => stay_len (t := T.getD i (-1)) (x := X.getD i (-1)) hd
  simp only [sum4, dropH, HT, st]
  have k0 := key 0; have k1 := key 1; have k2 := key 2; have k3 := key 3
  omega
theorem cnt_forg (H : Nat → List Mk) (m : Mk) : cntB (St (forgH H 2) m) (-1) ≤ 3 := by
  rw [cntB_m1]
  have h2 : St (forgH H 2) m 2 = false := by unfold St forgH updH; rw [if_pos rfl]; exact decide_eq_false (by simp)
  rw [h2]
  simp only [Bool.false_eq_true, if_false]
  split <;> split <;> split <;> decide
theorem MLen_z {w : World} {lb mb N : Nat} {H : Nat → List Mk} (h : IsMs w lb mb N H) (z : Int) (hz : ((sum4 fun i => (H i).length : Nat) : Int) = z) :
    Calls Try.prog 21 #[.pointer (some ⟨lb, 0, none⟩)] w fun e w' => e = .returned (.int .i64 z) ∧ Frm (fun _ => False) w w' := hz ▸ MLen_calls h
theorem frm_drewN (w : World) (n : Nat) : Frm (fun _ => False) w (w.drewN n) := (Frm.refl _ _).drewN n
set_option maxHeartbeats 16000000 in
theorem MarksTwo_walk (a0 : Option Addr) (c0 : Nat) (z0 : List Int) (a1 : Int) (w : World) (h0 : IsInts .u8 w a0 c0 z0) (h1 : (Lit.int .u8 a1).wf = true) :
    Calls Try.prog 6 #[.slice a0 z0.length c0, .int .u8 a1] w fun e w' => e = .returned (.bool true) ∧ Below w.heap.size w w' := by
  have hle := h0.le
  have hsm := h0.small
  have HWF := hid (show ∀ y ∈ z0, 0 ≤ y ∧ y ≤ 255 from fun y hy => (by have := h0.wf y hy; simp [Lit.wf, IntKind.min, IntKind.max, IntKind.bits, IntKind.signed] at this; omega))
  have HA1 := hid (show 0 ≤ a1 ∧ a1 ≤ 255 by simp [Lit.wf, IntKind.min, IntKind.max, IntKind.bits, IntKind.signed] at h1; omega)
  clear h1
  by_cases hlen : z0.length > 40
  · clear HWF HA1
    go_enter Try.func6, Try.ntmps6
    go_wp2_with (go_at_call 7; (with_reducible refine (known_calls _).mono ?_); rintro e w1 ⟨rfl, f'⟩; have HW1 := hid f'.size; have HF := hid (f'.below (B := w.heap.size) (Nat.le_refl _) (fun k hk hn => hn)); clear f')
    go_ret
    exact ⟨rfl, HF.out⟩
  go_enter Try.func6, Try.ntmps6
  go_wp2_with (first
    | (go_at_call 7; (with_reducible refine (known_calls _).mono ?_); rintro e w1 ⟨rfl, f'⟩; have HW1 := hid f'.size; have HF := hid (f'.below (B := w.heap.size) (Nat.le_refl _) (fun k hk hn => hn)); clear f')
    | (go_at_call 8; (with_reducible refine (MsNew_calls _).mono ?_); rintro e w2 ⟨rfl, hv, hf⟩; have HE := hid hv; have HW2 := hid (show w1.heap.size + 1 < w2.heap.size from hv.im.lt.1); have HF2 := hid (HF.out.trans (hf.below HF.out.size (fun k hk hn => hn))); clear hv hf HF; have HF := HF2; clear HF2))
  have hsz2 : ((w2.alloc (.cells #[.int .i64 0, .int .i64 0, .int .i64 0, .int .i64 0] TI4)).heap.size) = w2.heap.size + 1 := by simp
  have HT0 := hid ((Blk.new w2 (iC [0, 0, 0, 0]) TI4).frm (mbox _ (.cells (iC [0, 0, 0, 0]).toArray TI4)) (fun h => h))
  have HN0 := hid (show Blk ((w2.alloc (.cells (iC [0, 0, 0, 0]).toArray TI4)).alloc (.cells (iC [0, 0, 0, 0]).toArray TI4)) (w2.heap.size + 1) (iC [0, 0, 0, 0]) TI4 from hsz2 ▸ Blk.new _ (iC [0, 0, 0, 0]) TI4)
  have HE2 := hid ((HE.out.quiet (mbox w2 (.cells (iC [0, 0, 0, 0]).toArray TI4))).quiet (mbox _ (.cells (iC [0, 0, 0, 0]).toArray TI4)))
  have HF2 := hid (HF.out.trans (((mbox w2 (.cells (iC [0, 0, 0, 0]).toArray TI4)).trans (mbox _ (.cells (iC [0, 0, 0, 0]).toArray TI4))).below HF.out.size (fun k hk hn => hn)))
  clear HE HF hsz2
  have HE := HE2; have HF := HF2
  clear HE2 HF2
  have HH0 := hid h0
  have HZ40 := hid (show z0.length ≤ 40 by omega)
  obtain ⟨lb, hlb⟩ : ∃ lb, w1.heap.size + 1 = lb := ⟨_, rfl⟩
  obtain ⟨mb, hmb⟩ : ∃ mb, w1.heap.size = mb := ⟨_, rfl⟩
  obtain ⟨tb, htb⟩ : ∃ tb, w2.heap.size = tb := ⟨_, rfl⟩
  obtain ⟨nb, hnb⟩ : ∃ nb, w2.heap.size + 1 = nb := ⟨_, rfl⟩
  have HXB := hid (show ¬ tb = lb ∧ ¬ tb = mb ∧ ¬ nb = lb ∧ ¬ nb = mb ∧ ¬ tb = nb ∧ w.heap.size ≤ mb ∧ w.heap.size ≤ tb ∧ w.heap.size ≤ nb by have := HW1.out; have := HW2.out; omega)
  rw [hlb, hmb] at HE
  rw [htb] at HT0
  rw [hnb] at HN0
  rw [hlb, hnb, htb]
  clear hlb hmb htb hnb HW1 HW2 h0 hlen
  go_loopw [8] (fun iv wr => ∃ (k : Nat), k ≤ 4 ∧ iv = .int .i64 k ∧ IsMs wr lb mb 0 H0 ∧ Blk wr tb (iC (bgn k)) TI4 ∧ Blk wr nb (iC (bgn k)) TI4 ∧ Below w.heap.size w wr) (fun i _ => 4 - (intOf i).toNat)
  case atStart => exact ⟨0, by omega, rfl, HE.out, HT0.out, HN0.out, HF.out⟩
  case round =>
    clear HE HF HT0 HN0
    generalize wr = wx at *
    obtain ⟨k, hk, rfl, he, ht, hx, hf⟩ := hrel
    have HE := hid he; have HTB := hid ht; have HX := hid hx; have HF := hid hf
    clear he ht hx hf
    by_cases hk4 : k < 4
    · have tc := HTB.out.cell k; have xc := HX.out.cell k; have tz := HTB.out.free k; have xz := HX.out.free k
      rw [iC_at _ _ (by rw [bgn_len]; exact hk4)] at tc xc
      have HK4 := hid hk4
      have hki : (k : Int) < 4 := by omega
      have hk0 : (0 : Int) ≤ (k : Int) := by omega
      have htn := HXB.out.2.2.2.2.1
      have hnt : ¬ nb = tb := fun e => htn e.symm
      clear hk hk4
      go_wp2
      go_roundw
      case rel => exact ⟨k + 1, by have := HK4.out; omega, rfl, (HE.out.frm ((Frm.refl (· = tb) _).setCell _ _ (.inr rfl)) (fun q hq e => by rcases hq with hq | hq <;> have := HXB.out <;> omega)).frm ((Frm.refl (· = nb) _).setCell _ _ (.inr rfl)) (fun q hq e => by rcases hq with hq | hq <;> have := HXB.out <;> omega), by rw [← bgn_set k HK4.out, ← iC_set]; exact (HTB.out.setCell k _).setOther _ _ (fun e => HXB.out.2.2.2.2.1 e.symm), by rw [← bgn_set k HK4.out, ← iC_set]; exact (HX.out.setOther _ _ (fun e => HXB.out.2.2.2.2.1 e)).setCell k _, (HF.out.trans (((Frm.refl (· = tb) _).setCell _ _ (.inr rfl)).below HF.out.size (fun k hk e => by have := HXB.out; omega))).trans (((Frm.refl (· = nb) _).setCell _ _ (.inr rfl)).below (by have := HF.out.size; simpa using this) (fun k hk e => by have := HXB.out; omega))⟩
      case measure => have := HK4.out; simp [intOf]; omega
    · have hke : k = 4 := by omega
      subst hke
      clear hk hk4
      go_wp2
      try rw [show ((4 : Nat) : Int) = 4 from rfl]
      go_loopw [9] (fun iv wr => ∃ (k : Nat) (T X : List Int), k ≤ z0.length ∧ iv = .int .i64 k ∧ IsMs wr lb mb (2 * k) (HT T X) ∧ Blk wr tb (iC T) TI4 ∧ Blk wr nb (iC X) TI4 ∧ OkS T X ∧ T.length = 4 ∧ X.length = 4 ∧ Below w.heap.size w wr) (fun i _ => z0.length - (intOf i).toNat)
      case atStart => exact ⟨0, M1, M1, by omega, rfl, by rw [HT_zero]; exact HE.out, HTB.out, HX.out, OkS.zero, rfl, rfl, HF.out⟩
      case round =>
        clear HE HF HTB HX
        generalize wr = wy at *
        obtain ⟨k, T, X, hk, rfl, he, ht, hx, hs, htl, hxl, hf⟩ := hrel
        have HE := hid he; have HTB := hid ht; have HX := hid hx; have HF := hid hf; have HS := hid hs; have HTL := hid htl; have HXL := hid hxl
        clear he ht hx hf hs htl hxl
        by_cases hlt : k < z0.length
        · obtain ⟨ga, off, rfl, hga, hc⟩ := HH0.out.at_ (by omega)
          have hcx : wy.cell? ⟨ga, off + k, none⟩ = some (.int .u8 (z0.getD k 0)) := ((HF.out.cell (p := ⟨ga, off + k, none⟩) hga).trans (hc k hlt))
          have hgy : z0[k]? = some (z0.getD k 0) := by rw [List.getD_eq_getElem?_getD, List.getElem?_eq_getElem hlt]; rfl
          have hwf := HWF.out _ (List.mem_of_getElem? hgy)
          obtain ⟨y, hy⟩ : ∃ y, z0.getD k 0 = y := ⟨_, rfl⟩
          rw [hy] at hcx hwf
          obtain ⟨q, hq⟩ : ∃ q, y / 4 = q := ⟨_, rfl⟩
          obtain ⟨r, hr⟩ : ∃ r, q % 16 = r := ⟨_, rfl⟩
          obtain ⟨n, hn⟩ : ∃ n : Nat, (y % 4).toNat = n := ⟨_, rfl⟩
          have hq0 : 0 ≤ q := by omega
          obtain ⟨hr0, hr15⟩ : 0 ≤ r ∧ r ≤ 15 := by omega
          have hnt : y.tmod 4 = (n : Int) := by rw [Int.tmod_eq_emod_of_nonneg hwf.1]; omega
          have hqt : IntKind.u8.wrap (y.tdiv 4) = q := by rw [Int.tdiv_eq_ediv_of_nonneg hwf.1, hq]; simp [IntKind.wrap, IntKind.bits, IntKind.signed]; omega
          have hrt : q.tmod 16 = r := by rw [Int.tmod_eq_emod_of_nonneg hq0]; exact hr
          have hw1 : IntKind.i64.wrap r = r := by simp [IntKind.wrap, IntKind.bits, IntKind.signed]; omega
          have hn4 : n < 4 := by omega
          have HN4 := hid hn4
          have HRB := hid (show 0 ≤ r ∧ r ≤ 15 from ⟨hr0, hr15⟩)
          have HOK := hid (show okK (r * 4, 9) from ⟨⟨by show 0 ≤ r * 4; omega, by show r * 4 ≤ 4294967295; omega⟩, ⟨by show (0 : Int) ≤ 9; decide, by show (9 : Int) ≤ 18446744073709551615; decide⟩⟩)
          have hkl : (k : Int) < (z0.length : Int) := by omega
          have hk40 : (k : Int) ≤ 40 := by have := HZ40.out; omega
          have hni : (n : Int) < 4 := by omega
          have hn0 : (0 : Int) ≤ (n : Int) := by omega
          have HLT := hid hlt
          obtain ⟨t, htt⟩ : ∃ t, T.getD n (-1) = t := ⟨_, rfl⟩
          obtain ⟨x, hxx⟩ : ∃ x, X.getD n (-1) = x := ⟨_, rfl⟩
          have hp : OkP t x := htt ▸ hxx ▸ (HS.out : ∀ i, i < 4 → OkP (T.getD i (-1)) (X.getD i (-1))) n hn4
          have HP := hid hp
          have HTC := hid (show (iC T)[n]? = some (.int .i64 t) by rw [iC_at _ _ (by rw [HTL.out]; exact hn4), htt])
          have HXC := hid (show (iC X)[n]? = some (.int .i64 x) by rw [iC_at _ _ (by rw [HXL.out]; exact hn4), hxx])
          have HTT := hid htt; have HXX := hid hxx
          have htlo : -1 ≤ t := by rcases hp.le with h | ⟨h, _⟩ <;> have := hp.lo <;> omega
          have hthi := hp.hi
          have hxlo := hp.lo
          have hxhi : x ≤ 15 := by rcases hp.le with h | ⟨_, h⟩ <;> omega
          clear hc hgy hwf hy hq hr hn hq0 hlt hk hga hn4 htt hxx hp
          go_wp2_with fail
          go_quiet (fail)
          have hd1 := hid (HE.out.quiet (frm_drewN wy nq)); have hd2 := hid (HTB.out.frm (frm_drewN wy nq) (fun h => h)); have hd3 := hid (HX.out.frm (frm_drewN wy nq) (fun h => h)); have hd4 := hid (HF.out.trans ((frm_drewN wy nq).below HF.out.size (fun k hk hn => hn)))
          clear HE HTB HX HF hcx
          have HE := hd1; have HTB := hd2; have HX := hd3; have HF := hd4
          clear hd1 hd2 hd3 hd4
          obtain ⟨w5, hw5⟩ : ∃ w5, wy.drewN nq = w5 := ⟨_, rfl⟩
          rw [hw5]
          rw [hw5] at HE HTB HX HF
          clear hw5
          by_cases h1 : r = t
          · subst h1
            have HADD := hid (HT_add T X HTL.out HXL.out n HN4.out r r x (by rw [HTT.out, HXX.out]; exact addP_top HP.out hr0 rfl))
            have HPN := hid (show OkP r x from HP.out)
            have ht0 : 0 ≤ r := hr0
            have hth : r ≤ 15 := by omega
            have HTN := hid (show (iC (T.set n r))[n]? = some (.int .i64 r) by rw [iC_at _ _ (by rw [List.length_set, HTL.out]; exact HN4.out), getD_set1 _ _ _ _ (by rw [HTL.out]; exact HN4.out), if_pos rfl])
            have HZ := hid (show sq (HT (T.set n r) (X.set n x) n) 0 = r * 4 by unfold HT; rw [getD_set1 _ _ _ _ (by rw [HTL.out]; exact HN4.out), getD_set1 _ _ _ _ (by rw [HXL.out]; exact HN4.out), if_pos rfl, if_pos rfl]; exact sq_hl ht0)
            go_wp2_with (go_at_call 9; (with_reducible refine (MAdd_any HE.out (by have := HLT.out; have := HZ40.out; omega) n HN4.out n rfl (r * 4, 9) HOK.out (by show r * 4 % 4 = 0; omega) (by show r * 4 ≤ 1073741824; have := HRB.out; omega)).mono ?_); rintro e w6 ⟨⟨z, rfl⟩, he, f'⟩; rw [HADD.out] at he; have HE2 := hid he; have HT2 := hid (HTB.out.frm f' (fun e => HXB.out.2.1 e)); have HX2 := hid (HX.out.frm f' (fun e => HXB.out.2.2.2.1 e)); have HF2 := hid (HF.out.trans (f'.below HF.out.size (fun k hk e => by have := HXB.out; omega))); clear HE HF HTB HX he f'; have HE := HE2; have HF := HF2; have HTB := HT2; have HX := HX2; clear HE2 HF2 HT2 HX2; have tc := (HTB.out.cell n).trans HTC.out; have xc := (HX.out.cell n).trans HXC.out; have tz := HTB.out.free n; have xz := HX.out.free n)
            have hd1 := hid (HE.out.quiet (frm_drew w6)); have hd2 := hid (show Blk w6.drew tb (iC (T.set n r)) TI4 by rw [set_same1 T n (by rw [HTL.out]; exact HN4.out) r HTT.out]; exact HTB.out.frm (frm_drew _) (fun h => h)); have hd3 := hid (show Blk w6.drew nb (iC (X.set n x)) TI4 by rw [set_same1 X n (by rw [HXL.out]; exact HN4.out) x HXX.out]; exact HX.out.frm (frm_drew _) (fun h => h)); have hd4 := hid (bdrew HF.out)
            clear HE HTB HX HF tc xc tz xz
            have HE := hd1; have HTB := hd2; have HX := hd3; have HF := hd4
            clear hd1 hd2 hd3 hd4
            have tc := (HTB.out.cell n).trans HTN.out
            go_region_held3 (fun wx => wx.cell? ⟨tb, n, none⟩ = some (.int .i64 r)) (first | go_keep | exact tc) ((go_at_call 19; (with_reducible refine (MTop_calls HE.out.im n HN4.out n rfl (St_of HE.out.ok n HN4.out) _ HZ.out).mono ?_); rintro e w7 ⟨rfl, f'⟩; clear tc; have HE2 := hid (HE.out.quiet f'); have HT2 := hid (HTB.out.frm f' (fun h => h)); have HX2 := hid (HX.out.frm f' (fun h => h)); have HF2 := hid (HF.out.trans (f'.below HF.out.size (fun k hk hn => hn))); clear HE HF HTB HX f'; have HE := HE2; have HF := HF2; have HTB := HT2; have HX := HX2; clear HE2 HF2 HT2 HX2; have tc := (HTB.out.cell n).trans HTN.out))
            go_wp2
            go_roundw
            case rel => exact ⟨k + 1, (T.set n r), (X.set n x), by have := HLT.out; omega, rfl, HE.out, HTB.out, HX.out, OkS.set HS.out HTL.out HXL.out n HN4.out HPN.out, by rw [List.length_set]; exact HTL.out, by rw [List.length_set]; exact HXL.out, HF.out⟩
            case measure => have := HLT.out; simp [intOf]; omega
          · by_cases h2 : r = x
            · subst h2
              have e1 : (r == t) = false := beq_eq_false_iff_ne.2 h1
              have HADD := hid (HT_add T X HTL.out HXL.out n HN4.out r t r (by rw [HTT.out, HXX.out]; exact addP_next HP.out hr0 rfl))
              have HPN := hid (show OkP t r from HP.out)
              have ht0 : 0 ≤ t := by rcases HP.out.le with h | ⟨h, h3⟩ <;> omega
              have hth : t ≤ 15 := by omega
              have HTN := hid (show (iC (T.set n t))[n]? = some (.int .i64 t) by rw [iC_at _ _ (by rw [List.length_set, HTL.out]; exact HN4.out), getD_set1 _ _ _ _ (by rw [HTL.out]; exact HN4.out), if_pos rfl])
              have HZ := hid (show sq (HT (T.set n t) (X.set n r) n) 0 = t * 4 by unfold HT; rw [getD_set1 _ _ _ _ (by rw [HTL.out]; exact HN4.out), getD_set1 _ _ _ _ (by rw [HXL.out]; exact HN4.out), if_pos rfl, if_pos rfl]; exact sq_hl ht0)
              go_wp2_with (go_at_call 9; (with_reducible refine (MAdd_any HE.out (by have := HLT.out; have := HZ40.out; omega) n HN4.out n rfl (r * 4, 9) HOK.out (by show r * 4 % 4 = 0; omega) (by show r * 4 ≤ 1073741824; have := HRB.out; omega)).mono ?_); rintro e w6 ⟨⟨z, rfl⟩, he, f'⟩; rw [HADD.out] at he; have HE2 := hid he; have HT2 := hid (HTB.out.frm f' (fun e => HXB.out.2.1 e)); have HX2 := hid (HX.out.frm f' (fun e => HXB.out.2.2.2.1 e)); have HF2 := hid (HF.out.trans (f'.below HF.out.size (fun k hk e => by have := HXB.out; omega))); clear HE HF HTB HX he f'; have HE := HE2; have HF := HF2; have HTB := HT2; have HX := HX2; clear HE2 HF2 HT2 HX2; have tc := (HTB.out.cell n).trans HTC.out; have xc := (HX.out.cell n).trans HXC.out; have tz := HTB.out.free n; have xz := HX.out.free n)
              have hd1 := hid (HE.out.quiet (frm_drew w6)); have hd2 := hid (show Blk w6.drew tb (iC (T.set n t)) TI4 by rw [set_same1 T n (by rw [HTL.out]; exact HN4.out) t HTT.out]; exact HTB.out.frm (frm_drew _) (fun h => h)); have hd3 := hid (show Blk w6.drew nb (iC (X.set n r)) TI4 by rw [set_same1 X n (by rw [HXL.out]; exact HN4.out) r HXX.out]; exact HX.out.frm (frm_drew _) (fun h => h)); have hd4 := hid (bdrew HF.out)
              clear HE HTB HX HF tc xc tz xz
              have HE := hd1; have HTB := hd2; have HX := hd3; have HF := hd4
              clear hd1 hd2 hd3 hd4
              have tc := (HTB.out.cell n).trans HTN.out
              go_region_held3 (fun wx => wx.cell? ⟨tb, n, none⟩ = some (.int .i64 t)) (first | go_keep | exact tc) ((go_at_call 19; (with_reducible refine (MTop_calls HE.out.im n HN4.out n rfl (St_of HE.out.ok n HN4.out) _ HZ.out).mono ?_); rintro e w7 ⟨rfl, f'⟩; clear tc; have HE2 := hid (HE.out.quiet f'); have HT2 := hid (HTB.out.frm f' (fun h => h)); have HX2 := hid (HX.out.frm f' (fun h => h)); have HF2 := hid (HF.out.trans (f'.below HF.out.size (fun k hk hn => hn))); clear HE HF HTB HX f'; have HE := HE2; have HF := HF2; have HTB := HT2; have HX := HX2; clear HE2 HF2 HT2 HX2; have tc := (HTB.out.cell n).trans HTN.out))
              go_wp2
              go_roundw
              case rel => exact ⟨k + 1, (T.set n t), (X.set n r), by have := HLT.out; omega, rfl, HE.out, HTB.out, HX.out, OkS.set HS.out HTL.out HXL.out n HN4.out HPN.out, by rw [List.length_set]; exact HTL.out, by rw [List.length_set]; exact HXL.out, HF.out⟩
              case measure => have := HLT.out; simp [intOf]; omega
            · by_cases h3 : t < r
              · have e1 : (r == t) = false := beq_eq_false_iff_ne.2 h1
                have e2 : (r == x) = false := beq_eq_false_iff_ne.2 h2
                have htn := HXB.out.2.2.2.2.1
                have hnt9 : ¬ nb = tb := fun e => htn e.symm
                have hxr : x < r := by rcases HP.out.le with h | ⟨h, h5⟩ <;> omega
                have HADD := hid (HT_add T X HTL.out HXL.out n HN4.out r r t (by rw [HTT.out, HXX.out]; exact addP_more HP.out hr0 h3))
                have HPN := hid (show OkP r t from ⟨htlo, .inl h3, hr15⟩)
                have ht0 : 0 ≤ r := hr0
                have hth : r ≤ 15 := by omega
                have HTN := hid (show (iC (T.set n r))[n]? = some (.int .i64 r) by rw [iC_at _ _ (by rw [List.length_set, HTL.out]; exact HN4.out), getD_set1 _ _ _ _ (by rw [HTL.out]; exact HN4.out), if_pos rfl])
                have HZ := hid (show sq (HT (T.set n r) (X.set n t) n) 0 = r * 4 by unfold HT; rw [getD_set1 _ _ _ _ (by rw [HTL.out]; exact HN4.out), getD_set1 _ _ _ _ (by rw [HXL.out]; exact HN4.out), if_pos rfl, if_pos rfl]; exact sq_hl ht0)
                go_wp2_with (go_at_call 9; (with_reducible refine (MAdd_any HE.out (by have := HLT.out; have := HZ40.out; omega) n HN4.out n rfl (r * 4, 9) HOK.out (by show r * 4 % 4 = 0; omega) (by show r * 4 ≤ 1073741824; have := HRB.out; omega)).mono ?_); rintro e w6 ⟨⟨z, rfl⟩, he, f'⟩; rw [HADD.out] at he; have HE2 := hid he; have HT2 := hid (HTB.out.frm f' (fun e => HXB.out.2.1 e)); have HX2 := hid (HX.out.frm f' (fun e => HXB.out.2.2.2.1 e)); have HF2 := hid (HF.out.trans (f'.below HF.out.size (fun k hk e => by have := HXB.out; omega))); clear HE HF HTB HX he f'; have HE := HE2; have HF := HF2; have HTB := HT2; have HX := HX2; clear HE2 HF2 HT2 HX2; have tc := (HTB.out.cell n).trans HTC.out; have xc := (HX.out.cell n).trans HXC.out; have tz := HTB.out.free n; have xz := HX.out.free n)
                have hd1 := hid (((HE.out.frm (((Frm.refl (· = tb) w6).setCell ⟨tb, n, none⟩ (.int .i64 r) (.inr rfl))) (fun q hq e => by rcases hq with hq | hq <;> have := HXB.out <;> omega)).frm (((Frm.refl (· = nb) _).setCell ⟨nb, n, none⟩ (.int .i64 t) (.inr rfl))) (fun q hq e => by rcases hq with hq | hq <;> have := HXB.out <;> omega)).quiet (frm_drew _)); have hd2 := hid (show Blk _ tb (iC (T.set n r)) TI4 by rw [← iC_set]; exact ((HTB.out.setCell n (.int .i64 r)).setOther ⟨nb, n, none⟩ (.int .i64 t) (fun e => HXB.out.2.2.2.2.1 e.symm)).frm (frm_drew _) (fun h => h)); have hd3 := hid (show Blk _ nb (iC (X.set n t)) TI4 by rw [← iC_set]; exact ((HX.out.setOther ⟨tb, n, none⟩ (.int .i64 r) (fun e => HXB.out.2.2.2.2.1 e)).setCell n (.int .i64 t)).frm (frm_drew _) (fun h => h)); have hd4 := hid (bdrew (((HF.out).trans (((((Frm.refl (· = tb) w6).setCell ⟨tb, n, none⟩ (.int .i64 r) (.inr rfl)))).below (Nat.le_trans (HF.out).size (by simp)) (fun k hk e => by have := HXB.out; omega))).trans (((((Frm.refl (· = nb) _).setCell ⟨nb, n, none⟩ (.int .i64 t) (.inr rfl)))).below (Nat.le_trans ((HF.out).trans (((((Frm.refl (· = tb) w6).setCell ⟨tb, n, none⟩ (.int .i64 r) (.inr rfl)))).below (Nat.le_trans (HF.out).size (by simp)) (fun k hk e => by have := HXB.out; omega))).size (by simp)) (fun k hk e => by have := HXB.out; omega))))
                clear HE HTB HX HF tc xc tz xz
                have HE := hd1; have HTB := hd2; have HX := hd3; have HF := hd4
                clear hd1 hd2 hd3 hd4
                obtain ⟨w8, hw8⟩ : ∃ w8, (w6.setCell ⟨tb, n, none⟩ (.int .i64 r)).setCell ⟨nb, n, none⟩ (.int .i64 t) = w8 := ⟨_, rfl⟩
                rw [hw8]
                rw [hw8] at HE HTB HX HF
                clear hw8
                have tc := (HTB.out.cell n).trans HTN.out
                go_region_held3 (fun wx => wx.cell? ⟨tb, n, none⟩ = some (.int .i64 r)) (first | go_keep | exact tc) ((go_at_call 19; (with_reducible refine (MTop_calls HE.out.im n HN4.out n rfl (St_of HE.out.ok n HN4.out) _ HZ.out).mono ?_); rintro e w7 ⟨rfl, f'⟩; clear tc; have HE2 := hid (HE.out.quiet f'); have HT2 := hid (HTB.out.frm f' (fun h => h)); have HX2 := hid (HX.out.frm f' (fun h => h)); have HF2 := hid (HF.out.trans (f'.below HF.out.size (fun k hk hn => hn))); clear HE HF HTB HX f'; have HE := HE2; have HF := HF2; have HTB := HT2; have HX := HX2; clear HE2 HF2 HT2 HX2; have tc := (HTB.out.cell n).trans HTN.out))
                go_wp2
                go_roundw
                case rel => exact ⟨k + 1, (T.set n r), (X.set n t), by have := HLT.out; omega, rfl, HE.out, HTB.out, HX.out, OkS.set HS.out HTL.out HXL.out n HN4.out HPN.out, by rw [List.length_set]; exact HTL.out, by rw [List.length_set]; exact HXL.out, HF.out⟩
                case measure => have := HLT.out; simp [intOf]; omega
              · by_cases h4 : x < r
                · have e1 : (r == t) = false := beq_eq_false_iff_ne.2 h1
                  have e2 : (r == x) = false := beq_eq_false_iff_ne.2 h2
                  have hrt2 : r < t := by omega
                  have HADD := hid (HT_add T X HTL.out HXL.out n HN4.out r t r (by rw [HTT.out, HXX.out]; exact addP_mid HP.out hr0 hrt2 h4))
                  have HPN := hid (show OkP t r from ⟨by omega, .inl hrt2, hthi⟩)
                  have ht0 : 0 ≤ t := by omega
                  have hth : t ≤ 15 := by omega
                  have HTN := hid (show (iC (T.set n t))[n]? = some (.int .i64 t) by rw [iC_at _ _ (by rw [List.length_set, HTL.out]; exact HN4.out), getD_set1 _ _ _ _ (by rw [HTL.out]; exact HN4.out), if_pos rfl])
                  have HZ := hid (show sq (HT (T.set n t) (X.set n r) n) 0 = t * 4 by unfold HT; rw [getD_set1 _ _ _ _ (by rw [HTL.out]; exact HN4.out), getD_set1 _ _ _ _ (by rw [HXL.out]; exact HN4.out), if_pos rfl, if_pos rfl]; exact sq_hl ht0)
                  go_wp2_with (go_at_call 9; (with_reducible refine (MAdd_any HE.out (by have := HLT.out; have := HZ40.out; omega) n HN4.out n rfl (r * 4, 9) HOK.out (by show r * 4 % 4 = 0; omega) (by show r * 4 ≤ 1073741824; have := HRB.out; omega)).mono ?_); rintro e w6 ⟨⟨z, rfl⟩, he, f'⟩; rw [HADD.out] at he; have HE2 := hid he; have HT2 := hid (HTB.out.frm f' (fun e => HXB.out.2.1 e)); have HX2 := hid (HX.out.frm f' (fun e => HXB.out.2.2.2.1 e)); have HF2 := hid (HF.out.trans (f'.below HF.out.size (fun k hk e => by have := HXB.out; omega))); clear HE HF HTB HX he f'; have HE := HE2; have HF := HF2; have HTB := HT2; have HX := HX2; clear HE2 HF2 HT2 HX2; have tc := (HTB.out.cell n).trans HTC.out; have xc := (HX.out.cell n).trans HXC.out; have tz := HTB.out.free n; have xz := HX.out.free n)
                  have hd1 := hid ((HE.out.frm (((Frm.refl (· = nb) _).setCell ⟨nb, n, none⟩ (.int .i64 r) (.inr rfl))) (fun q hq e => by rcases hq with hq | hq <;> have := HXB.out <;> omega)).quiet (frm_drew _)); have hd2 := hid (show Blk _ tb (iC (T.set n t)) TI4 by rw [set_same1 T n (by rw [HTL.out]; exact HN4.out) t HTT.out]; exact (HTB.out.setOther ⟨nb, n, none⟩ (.int .i64 r) (fun e => HXB.out.2.2.2.2.1 e.symm)).frm (frm_drew _) (fun h => h)); have hd3 := hid (show Blk _ nb (iC (X.set n r)) TI4 by rw [← iC_set]; exact (HX.out.setCell n (.int .i64 r)).frm (frm_drew _) (fun h => h)); have hd4 := hid (bdrew ((HF.out).trans (((((Frm.refl (· = nb) _).setCell ⟨nb, n, none⟩ (.int .i64 r) (.inr rfl)))).below (Nat.le_trans (HF.out).size (by simp)) (fun k hk e => by have := HXB.out; omega))))
                  clear HE HTB HX HF tc xc tz xz
                  have HE := hd1; have HTB := hd2; have HX := hd3; have HF := hd4
                  clear hd1 hd2 hd3 hd4
                  obtain ⟨w8, hw8⟩ : ∃ w8, w6.setCell ⟨nb, n, none⟩ (.int .i64 r) = w8 := ⟨_, rfl⟩
                  rw [hw8]
                  rw [hw8] at HE HTB HX HF
                  clear hw8
                  have tc := (HTB.out.cell n).trans HTN.out
                  go_region_held3 (fun wx => wx.cell? ⟨tb, n, none⟩ = some (.int .i64 t)) (first | go_keep | exact tc) ((go_at_call 19; (with_reducible refine (MTop_calls HE.out.im n HN4.out n rfl (St_of HE.out.ok n HN4.out) _ HZ.out).mono ?_); rintro e w7 ⟨rfl, f'⟩; clear tc; have HE2 := hid (HE.out.quiet f'); have HT2 := hid (HTB.out.frm f' (fun h => h)); have HX2 := hid (HX.out.frm f' (fun h => h)); have HF2 := hid (HF.out.trans (f'.below HF.out.size (fun k hk hn => hn))); clear HE HF HTB HX f'; have HE := HE2; have HF := HF2; have HTB := HT2; have HX := HX2; clear HE2 HF2 HT2 HX2; have tc := (HTB.out.cell n).trans HTN.out))
                  go_wp2
                  go_roundw
                  case rel => exact ⟨k + 1, (T.set n t), (X.set n r), by have := HLT.out; omega, rfl, HE.out, HTB.out, HX.out, OkS.set HS.out HTL.out HXL.out n HN4.out HPN.out, by rw [List.length_set]; exact HTL.out, by rw [List.length_set]; exact HXL.out, HF.out⟩
                  case measure => have := HLT.out; simp [intOf]; omega
                · have e1 : (r == t) = false := beq_eq_false_iff_ne.2 h1
                  have e2 : (r == x) = false := beq_eq_false_iff_ne.2 h2
                  have hrx2 : r < x := by omega
                  have hrt2 : r < t := by rcases HP.out.le with h | ⟨h, h5⟩ <;> omega
                  have HADD := hid (HT_add T X HTL.out HXL.out n HN4.out r t x (by rw [HTT.out, HXX.out]; exact addP_less HP.out hr0 hrx2))
                  have HPN := hid (show OkP t x from HP.out)
                  have ht0 : 0 ≤ t := by omega
                  have hth : t ≤ 15 := by omega
                  have HTN := hid (show (iC (T.set n t))[n]? = some (.int .i64 t) by rw [iC_at _ _ (by rw [List.length_set, HTL.out]; exact HN4.out), getD_set1 _ _ _ _ (by rw [HTL.out]; exact HN4.out), if_pos rfl])
                  have HZ := hid (show sq (HT (T.set n t) (X.set n x) n) 0 = t * 4 by unfold HT; rw [getD_set1 _ _ _ _ (by rw [HTL.out]; exact HN4.out), getD_set1 _ _ _ _ (by rw [HXL.out]; exact HN4.out), if_pos rfl, if_pos rfl]; exact sq_hl ht0)
                  go_wp2_with (go_at_call 9; (with_reducible refine (MAdd_any HE.out (by have := HLT.out; have := HZ40.out; omega) n HN4.out n rfl (r * 4, 9) HOK.out (by show r * 4 % 4 = 0; omega) (by show r * 4 ≤ 1073741824; have := HRB.out; omega)).mono ?_); rintro e w6 ⟨⟨z, rfl⟩, he, f'⟩; rw [HADD.out] at he; have HE2 := hid he; have HT2 := hid (HTB.out.frm f' (fun e => HXB.out.2.1 e)); have HX2 := hid (HX.out.frm f' (fun e => HXB.out.2.2.2.1 e)); have HF2 := hid (HF.out.trans (f'.below HF.out.size (fun k hk e => by have := HXB.out; omega))); clear HE HF HTB HX he f'; have HE := HE2; have HF := HF2; have HTB := HT2; have HX := HX2; clear HE2 HF2 HT2 HX2; have tc := (HTB.out.cell n).trans HTC.out; have xc := (HX.out.cell n).trans HXC.out; have tz := HTB.out.free n; have xz := HX.out.free n)
                  have hd1 := hid (HE.out.quiet (frm_drew w6)); have hd2 := hid (show Blk w6.drew tb (iC (T.set n t)) TI4 by rw [set_same1 T n (by rw [HTL.out]; exact HN4.out) t HTT.out]; exact HTB.out.frm (frm_drew _) (fun h => h)); have hd3 := hid (show Blk w6.drew nb (iC (X.set n x)) TI4 by rw [set_same1 X n (by rw [HXL.out]; exact HN4.out) x HXX.out]; exact HX.out.frm (frm_drew _) (fun h => h)); have hd4 := hid (bdrew HF.out)
                  clear HE HTB HX HF tc xc tz xz
                  have HE := hd1; have HTB := hd2; have HX := hd3; have HF := hd4
                  clear hd1 hd2 hd3 hd4
                  have tc := (HTB.out.cell n).trans HTN.out
                  go_region_held3 (fun wx => wx.cell? ⟨tb, n, none⟩ = some (.int .i64 t)) (first | go_keep | exact tc) ((go_at_call 19; (with_reducible refine (MTop_calls HE.out.im n HN4.out n rfl (St_of HE.out.ok n HN4.out) _ HZ.out).mono ?_); rintro e w7 ⟨rfl, f'⟩; clear tc; have HE2 := hid (HE.out.quiet f'); have HT2 := hid (HTB.out.frm f' (fun h => h)); have HX2 := hid (HX.out.frm f' (fun h => h)); have HF2 := hid (HF.out.trans (f'.below HF.out.size (fun k hk hn => hn))); clear HE HF HTB HX f'; have HE := HE2; have HF := HF2; have HTB := HT2; have HX := HX2; clear HE2 HF2 HT2 HX2; have tc := (HTB.out.cell n).trans HTN.out))
                  go_wp2
                  go_roundw
                  case rel => exact ⟨k + 1, (T.set n t), (X.set n x), by have := HLT.out; omega, rfl, HE.out, HTB.out, HX.out, OkS.set HS.out HTL.out HXL.out n HN4.out HPN.out, by rw [List.length_set]; exact HTL.out, by rw [List.length_set]; exact HXL.out, HF.out⟩
                  case measure => have := HLT.out; simp [intOf]; omega
        · have hke : k = z0.length := by omega
          subst hke
          obtain ⟨d, hd⟩ : ∃ d, a1 % 16 = d := ⟨_, rfl⟩
          obtain ⟨hd0, hd15⟩ : 0 ≤ d ∧ d ≤ 15 := by omega
          have hdt : a1.tmod 16 = d := by rw [Int.tmod_eq_emod_of_nonneg HA1.out.1]; exact hd
          have hw1 : IntKind.i64.wrap d = d := by simp [IntKind.wrap, IntKind.bits, IntKind.signed]; omega
          have HD0 := hid hd0
          clear hlt hk hd
          go_wp2_with (go_at_call 13; (with_reducible refine (MDrop_calls HE.out (d * 4)).mono ?_); rintro e w6 ⟨rfl, he, f'⟩; have HE2 := hid he; have HT2 := hid (HTB.out.frm f' (fun e => HXB.out.2.1 e)); have HX2 := hid (HX.out.frm f' (fun e => HXB.out.2.2.2.1 e)); have HF2 := hid (HF.out.trans (f'.below HF.out.size (fun k hk e => by have := HXB.out; omega))); clear HE HF HTB HX he f'; have HE := HE2; have HF := HF2; have HTB := HT2; have HX := HX2; clear HE2 HF2 HT2 HX2)
          go_loopw [13, 14] (fun nv fv wr => ∃ F : Nat, F ≤ 4 ∧ nv = .int .i64 (st d T X F) ∧ fv = .int .u8 F ∧ w6 = wr) (fun _ f _ => 4 - (intOf f).toNat)
          case atStart => exact ⟨0, by omega, rfl, rfl, rfl⟩
          case round =>
            obtain ⟨F, hF4, rfl, rfl, rfl⟩ := hrel
            obtain ⟨C, hC⟩ : ∃ C, st d T X F = C := ⟨_, rfl⟩
            have hcb := st_b d T X F
            rw [hC] at hcb ⊢
            have HC := hid hC
            obtain ⟨hc0, hc1⟩ := hcb
            have hc8 : C ≤ 8 := by omega
            clear hC
            by_cases hf4 : F < 4
            · have HF4 := hid hf4
              obtain ⟨t, htt⟩ : ∃ t, T.getD F (-1) = t := ⟨_, rfl⟩
              obtain ⟨x, hxx⟩ : ∃ x, X.getD F (-1) = x := ⟨_, rfl⟩
              have tc := (HTB.out.cell F).trans (iC_at T F (by rw [HTL.out]; exact hf4)); have xc := (HX.out.cell F).trans (iC_at X F (by rw [HXL.out]; exact hf4))
              rw [htt] at tc
              rw [hxx] at xc
              have HST := hid (show st d T X (F + 1) = C + stay d t x by rw [st, HC.out, htt, hxx])
              have hfi : (F : Int) < 4 := by omega
              have hf0 : (0 : Int) ≤ (F : Int) := by omega
              have hc6 : C ≤ 6 := by omega
              clear hf4 hF4 htt hxx hc1
              by_cases h1 : d ≤ t
              · by_cases h2 : d ≤ x
                · have HS2 := hid (show st d T X (F + 1) = C + 1 + 1 by rw [HST.out, stay, if_pos h1, if_pos h2]; omega)
                  go_wp2
                  go_roundw
                  case rel => exact ⟨F + 1, by have := HF4.out; omega, by rw [HS2.out], by first | rfl | go_num, by first | rfl | trivial⟩
                  case measure => have := HF4.out; simp [intOf]; omega
                · have HS2 := hid (show st d T X (F + 1) = C + 1 by rw [HST.out, stay, if_pos h1, if_neg h2]; omega)
                  go_wp2
                  go_roundw
                  case rel => exact ⟨F + 1, by have := HF4.out; omega, by rw [HS2.out], by first | rfl | go_num, by first | rfl | trivial⟩
                  case measure => have := HF4.out; simp [intOf]; omega
              · by_cases h2 : d ≤ x
                · have HS2 := hid (show st d T X (F + 1) = C + 1 by rw [HST.out, stay, if_neg h1, if_pos h2]; omega)
                  go_wp2
                  go_roundw
                  case rel => exact ⟨F + 1, by have := HF4.out; omega, by rw [HS2.out], by first | rfl | go_num, by first | rfl | trivial⟩
                  case measure => have := HF4.out; simp [intOf]; omega
                · have HS2 := hid (show st d T X (F + 1) = C by rw [HST.out, stay, if_neg h1, if_neg h2]; omega)
                  go_wp2
                  go_roundw
                  case rel => exact ⟨F + 1, by have := HF4.out; omega, by rw [HS2.out], by first | rfl | go_num, by first | rfl | trivial⟩
                  case measure => have := HF4.out; simp [intOf]; omega
            · have hfe : F = 4 := by omega
              subst hfe
              have HSUM := hid (show ((sum4 fun i => (dropH (d * 4) (HT T X) i).length : Nat) : Int) = C by rw [sum_st HD0.out, HC.out])
              obtain ⟨V, hV⟩ : ∃ V, cntB (St (forgH (dropH (d * 4) (HT T X)) 2) (0, 9)) (-1) = V := ⟨_, rfl⟩
              have hV3 : V ≤ 3 := hV ▸ cnt_forg _ _
              have HV := hid hV
              have HK09 := hid (show okK (0, 9) by unfold okK; decide)
              clear hf4 hF4 hV hc1
              go_wp2_with (first
                | (go_at_call 21; (with_reducible refine (MLen_z HE.out C HSUM.out).mono ?_); rintro e w7 ⟨rfl, f'⟩; have HE2 := hid (HE.out.quiet f'); have HF2 := hid (HF.out.trans (f'.below HF.out.size (fun k hk hn => hn))); clear HE HF f'; have HE := HE2; have HF := HF2; clear HE2 HF2)
                | (go_at_call 15; (with_reducible refine (MForget_calls HE.out (by have := HZ40.out; omega) 2 (by decide) 2 rfl).mono ?_); rintro e w8 ⟨rfl, he, f'⟩; have HE2 := hid he; have HF2 := hid (HF.out.trans (f'.below HF.out.size (fun k hk e => by have := HXB.out; omega))); clear HE HF he f'; have HE := HE2; have HF := HF2; clear HE2 HF2)
                | (go_at_call 19; (with_reducible refine (MTop_calls HE.out.im 2 (by decide) 2 rfl (St_of HE.out.ok 2 (by decide)) 0 rfl).mono ?_); rintro e w9 ⟨rfl, f'⟩; have HE2 := hid (HE.out.quiet f'); have HF2 := hid (HF.out.trans (f'.below HF.out.size (fun k hk hn => hn))); clear HE HF f'; have HE := HE2; have HF := HF2; clear HE2 HF2)
                | (go_at_call 11; (with_reducible refine (MCount_calls HE.out.im (0, 9) HK09.out (-1) V HV.out).mono ?_); rintro e w9 ⟨rfl, rfl⟩; skip))
              go_ret
              exact ⟨rfl, HF.out⟩
end Go.Proofs.Ytiffhkhmkigolaa
