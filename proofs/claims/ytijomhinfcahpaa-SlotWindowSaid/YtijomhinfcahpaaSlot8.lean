/- The log within its window: Move. -/
import Derived.Test.YtijomhinfcahpaaSlot7
namespace Go.Proofs.Ytijomhinfcahpaa
open Go.RowKit Go.ChangeShapes
set_option linter.unusedVariables false
set_option linter.unusedSimpArgs false
set_option maxRecDepth 20000
theorem In_raw {w : World} {lb : Nat} {low : Int} {m : Value} (h : Blk w lb [.int .u32 low, m] TLg) (hl : 0 ≤ low ∧ low ≤ 4294967295) (s : Int) (hs : 0 ≤ s ∧ s ≤ 4294967295) (z : Bool) (hz : inW low s = z) :
    Calls Try.prog 16 #[.pointer (some ⟨lb, 0, none⟩), .int .u32 s] w fun e w' => e = .returned (.bool z) ∧ w = w' := by
  have q0 := h.cell 0
  simp only [List.getElem?_cons_zero] at q0
  obtain ⟨hl0, hl1⟩ := hl
  obtain ⟨hs0, hs1⟩ := hs
  unfold inW at hz
  clear h
  by_cases h1 : low < s
  · have e1 : IntKind.u32.wrap (s - low) = s - low := wrap32 ⟨by omega, by omega⟩
    by_cases h2 : s - low ≤ 8
    · rw [decide_eq_true ⟨h1, h2⟩] at hz
      subst hz
      go_enter Try.func16, Try.ntmps16
      go_wp2
      go_ret
      exact ⟨rfl, rfl⟩
    · rw [decide_eq_false (fun h => h2 h.2)] at hz
      subst hz
      go_enter Try.func16, Try.ntmps16
      go_wp2
      go_ret
      exact ⟨rfl, rfl⟩
  · rw [decide_eq_false (fun h => h1 h.1)] at hz
    subst hz
    go_enter Try.func16, Try.ntmps16
    go_wp2
    go_ret
    exact ⟨rfl, rfl⟩
def cutI {α : Type} (low : Int) (g : Int → Option α) : Int → Option α := fun s => if inW low s = true then g s else none
def cutS (low : Int) (σ : Int → Sl) : Int → Sl := fun s => if inW low s = true then σ s else sl0
def delI {α : Type} (g : Int → Option α) (s : Int) : Int → Option α := fun i => if i = s then none else g i
theorem fOf_del (g : Int → Option Nat) (s : Int) : IsUpd (fOf g) (fOf (delI g s)) (.int .u32 s) none := by
  refine ⟨fOf_none (if_pos rfl), fun x e => ?_⟩
  unfold fOf
  split
  · rename_i i
    rw [delI, if_neg (fun e2 => e (by rw [e2]))]
  · rfl
/-- How far the cutting has come. -/
structure Cut (low : Int) (g g1 : Int → Option Nat) (left : Value → Prop) : Prop where
  is : ∀ s, g1 s = g s ∨ g1 s = none ∧ inW low s = false
  to : ∀ s, inW low s = false → g1 s ≠ none → left (.int .u32 s)
theorem Cut.done {low : Int} {g g1 : Int → Option Nat} {left : Value → Prop} (h : Cut low g g1 left) (hl : ∀ k, ¬ left k) : g1 = cutI low g := by
  funext s
  unfold cutI
  cases hi : inW low s
  · rw [if_neg (by decide)]
    cases hg : g1 s
    · rfl
    · exact absurd (h.to s hi (by rw [hg]; simp)) (hl _)
  · rw [if_pos rfl]
    rcases h.is s with h1 | ⟨_, h1⟩
    · exact h1
    · rw [hi] at h1; cases h1
theorem Cut.keep {low : Int} {g g1 : Int → Option Nat} {left : Value → Prop} (h : Cut low g g1 left) {s : Int} (hi : inW low s = true) : Cut low g g1 (strike left (.int .u32 s)) :=
  ⟨h.is, fun s' h1 h2 => ⟨h.to s' h1 h2, fun e => by cases e; rw [hi] at h1; cases h1⟩⟩
theorem Cut.cut {low : Int} {g g1 : Int → Option Nat} {left : Value → Prop} (h : Cut low g g1 left) {s : Int} (hi : inW low s = false) : Cut low g (delI g1 s) (strike left (.int .u32 s)) :=
  ⟨fun s' => by
    by_cases e : s' = s
    · subst e; exact .inr ⟨if_pos rfl, hi⟩
    · rw [delI, if_neg e]; exact h.is s',
   fun s' h1 h2 => by
    by_cases e : s' = s
    · subst e; exact absurd (if_pos rfl) h2
    · rw [delI, if_neg e] at h2
      exact ⟨h.to s' h1 h2, fun e2 => e (by injection e2)⟩⟩
theorem fOf_keyb {w : World} {mb n : Nat} {g : Int → Option Nat} (h : IsMp TU32 w mb n (fOf g)) {s : Int} {v : Value} (hf : fOf g (.int .u32 s) = some v) : 0 ≤ s ∧ s ≤ 4294967295 := by
  obtain ⟨kl, hk⟩ := h.isKey hf
  obtain ⟨x, e, _, hw⟩ := Go.Maps.keyOf_int_inv Try.underlying22 hk
  cases e
  simp [Lit.wf, IntKind.min, IntKind.max, IntKind.bits, IntKind.signed] at hw
  omega
theorem cut_frm {w wr : World} {lb mb : Nat} {g : Int → Option Nat} (f : Frm (fun k => k = lb ∨ k = mb ∨ w.heap.size ≤ k) w wr) : Frm (Own lb mb g) w wr :=
  f.mono (fun k hk h => by
    rcases h with h | h | h
    · exact .inl h
    · exact .inr (.inl h)
    · omega)
theorem cut_log {w wr : World} {lb mb N n1 : Nat} {low M : Int} {g : Int → Option Nat} {σ : Int → Sl} (h : IsLogG w lb mb low N g σ) (hb : Blk wr lb [.int .u32 M, .map (some mb)] TLg) (hM : 0 ≤ M ∧ M ≤ 4294967295) (f : Frm (fun k => k = lb ∨ k = mb ∨ w.heap.size ≤ k) w wr) (hm : IsMp TU32 wr mb n1 (fOf (cutI M g))) (hn : n1 ≤ N) : IsLogG wr lb mb M N (cutI M g) (cutS M σ) := by
  refine ⟨hb, ⟨n1, hn, hm⟩, fun s b hs => ?_, fun s hs => ?_, fun s s' b h1 h2 => ?_, hM, fun s => ?_⟩
  · unfold cutI at hs
    unfold cutS
    cases hi : inW M s
    · rw [hi, if_neg (by decide)] at hs; cases hs
    · rw [hi, if_pos rfl] at hs
      rw [if_pos rfl]
      have hne := h.sl hs
      have hlt := (h.slot s b hs).lt
      exact (h.slot s b hs).frm f (fun e => by rcases e with e | e | e; exact hne.1 e; exact hne.2 e; omega)
  · unfold cutI at hs
    unfold cutS
    cases hi : inW M s
    · rw [if_neg (by decide)]
    · rw [hi, if_pos rfl] at hs
      rw [if_pos rfl]
      exact h.none s hs
  · unfold cutI at h1 h2
    split at h1
    · split at h2
      · exact h.inj s s' b h1 h2
      · cases h2
    · cases h1
  · unfold cutS
    split
    · exact h.vwb s
    · show 0 ≤ (0 : Int) ∧ (0 : Int) ≤ 4294967295; decide
theorem rng_ne {w : World} {mb r n cnt : Nat} {g1 : Int → Option Nat} {left : Value → Prop} (h : Rng TU32 w mb r n (fOf g1) left cnt) {b T : Nat} {cs : List Value} (hb : Blk w b cs T) : r ≠ b := by
  rintro rfl
  obtain ⟨es, clock, since, seen, c0, _, _, _, _, hr, _⟩ := h.ex
  unfold Blk at hb
  rw [hr] at hb
  cases hb
set_option maxHeartbeats 8000000 in
theorem Move_up {w : World} {lb mb N : Nat} {low : Int} {g : Int → Option Nat} {σ : Int → Sl} (h : IsLogG w lb mb low N g σ) (to_ : Int) (ht : 0 ≤ to_ ∧ to_ ≤ 4294967295) (hlt : low < to_) :
    Calls Try.prog 18 #[.pointer (some ⟨lb, 0, none⟩), .int .u32 to_] w fun e w' => e = .returned (.tuple #[]) ∧ IsLogG w' lb mb to_ N (cutI to_ g) (cutS to_ σ) ∧ Frm (Own lb mb g) w w' := by
  have HMB := hid (show 0 ≤ to_ ∧ to_ ≤ 4294967295 by have := h.low0; omega)
  have q0 := h.blk.cell 0; have q1 := h.blk.cell 1; have z0 := h.blk.free 0
  simp only [List.getElem?_cons_succ, List.getElem?_cons_zero] at q0 q1
  obtain ⟨n, hn, hm⟩ := h.map
  have HML := hid h.lm
  have HBL := hid h.blk.lt
  have HB1 := hid (show Blk (w.setCell ⟨lb, 0, none⟩ (.int .u32 to_)) lb [.int .u32 to_, .map (some mb)] TLg from h.blk.setCell 0 (.int .u32 to_))
  have HF1 := hid ((Frm.refl (fun k => k = lb ∨ k = mb ∨ w.heap.size ≤ k) w).setCell ⟨lb, 0, none⟩ (.int .u32 to_) (.inr (.inl rfl)))
  have HM1 := hid (hm.frm ((Frm.refl (· = lb) w).setCell ⟨lb, 0, none⟩ (.int .u32 to_) (.inr rfl)) (fun e => HML.out e))
  have HSZ := hid (show (w.setCell ⟨lb, 0, none⟩ (.int .u32 to_)).heap.size = w.heap.size by simp)
  have HH := hid h; have HN := hid hn
  clear h hn hm
  go_enter Try.func18, Try.ntmps18
  go_wp2_with (at_range; refine wpList_mp_range rfl _ rfl HM1.out u_map rfl ?_; intro w1 hrg hg1 hs1; (rw [HSZ.out] at hrg); (rw [HSZ.out]); have HRG := hid hrg; have HG1 := hid hg1; have HS1 := hid hs1; clear hrg hg1 hs1)
  try go_frame
  go_loopw [4] (fun _ wr => ∃ (g1 : Int → Option Nat) (left : Value → Prop) (cnt n1 : Nat), Rng TU32 wr mb w.heap.size n1 (fOf g1) left cnt ∧ n1 ≤ N ∧ Cut to_ g g1 left ∧ Blk wr lb [.int .u32 to_, .map (some mb)] TLg ∧ Frm (fun k => k = lb ∨ k = mb ∨ w.heap.size ≤ k) w wr) (fun _ wr => wr.rangeLeft mb w.heap.size)
  case atStart => exact ⟨g, _, n, n, HRG.out, HN.out, ⟨fun s => .inl rfl, fun s _ hne => by cases hgs : g s; exact absurd hgs hne; rw [fOf_some hgs]; simp⟩, HB1.out.frm HG1.out (fun h => h), HF1.out.trans' HG1.out (fun _ _ h => h.elim)⟩
  case round =>
    clear HRG HG1 HS1 HM1 HB1 HF1
    obtain ⟨g1, left, cnt, n1, hrg, hn1, hcut, hb, hf⟩ := hrel
    have HRG := hid hrg; have HN1 := hid hn1; have HC := hid hcut; have HB := hid hb; have HF := hid hf
    have q0 := hb.cell 0; have q1 := hb.cell 1
    simp only [List.getElem?_cons_succ, List.getElem?_cons_zero] at q0 q1
    have HRN := hid (rng_ne hrg hb)
    clear hrg hn1 hcut hb hf
    go_wp2_with (at_next; refine wpList_mp_next rfl _ rfl (Value.int .u32) (fun b : Nat => .pointer (some ⟨b, 0, none⟩)) HRG.out (fun key v hf => fOf_inv hf) rfl ?_ ?_)
    · intro hl0 hc0
      have HLG := hid (show IsLogG wr lb mb to_ N (cutI to_ g) (cutS to_ σ) from HC.out.done hl0 ▸ cut_log HH.out HB.out HMB.out HF.out (HC.out.done hl0 ▸ HRG.out.mp) HN1.out)
      have HFO := hid (cut_frm (lb := lb) (mb := mb) (g := g) HF.out)
      clear hl0 hc0
      go_wp2
      go_end0
      exact ⟨rfl, HLG.out, HFO.out⟩
    · intro s b w2 cnt2 hlk hfk hrg2 hlt2 hg2 hs2 hen
      have hsb := fOf_keyb hrg2.mp hfk
      have HSB := hid hsb; have HR2 := hid hrg2; have HLT := hid hlt2
      have HB2 := hid (HB.out.frm hg2 (fun e => HRN.out e.symm))
      have q0 := HB2.out.cell 0; have q1 := HB2.out.cell 1
      simp only [List.getElem?_cons_succ, List.getElem?_cons_zero] at q0 q1
      have HF2 := hid (HF.out.trans' hg2 (fun i _ e => .inr (.inr (by rw [e]; exact Nat.le_refl _))))
      clear hlk hfk hrg2 hlt2 hg2 hs2 hsb
      cases hin : inW to_ s
      · have HI := hid hin; clear hin
        go_wp2_with (first
          | (go_at_call 16; (with_reducible refine (In_raw HB2.out HMB.out s HSB.out _ HI.out).mono ?_); rintro e w' ⟨rfl, rfl⟩; skip)
          | (at_delete; refine wpList_mp_rdel rfl _ _ rfl HR2.out keyed32 u_map _ _ (key32 HSB.out) (fun h => h.2 rfl) (fOf_del g1 s) rfl rfl ?_; intro w3 cnt3 n3 hrg3 hc3 hn3 hf3 hs3; have HR3 := hid hrg3; have HC3 := hid hc3; have HN3 := hid hn3; have HB3 := hid (HB2.out.frm hf3 (fun e => HML.out e.symm)); have HF3 := hid (HF2.out.trans' hf3 (fun i _ e => .inr (.inl e))); clear hrg3 hc3 hn3 hf3 hs3))
        try go_frame
        go_roundw
        case rel => exact ⟨delI g1 s, _, cnt3, n3, HR3.out, Nat.le_trans HN3.out HN1.out, HC.out.cut HI.out, HB3.out, HF3.out⟩
        case measure => rw [HR3.out.left_eq, HRG.out.left_eq]; exact Nat.lt_of_le_of_lt HC3.out HLT.out
      · have HI := hid hin; clear hin
        go_wp2_with ((go_at_call 16; (with_reducible refine (In_raw HB2.out HMB.out s HSB.out _ HI.out).mono ?_); rintro e w' ⟨rfl, rfl⟩; skip))
        go_roundw
        case rel => exact ⟨g1, _, cnt2, n1, HR2.out, HN1.out, HC.out.keep HI.out, HB2.out, HF2.out⟩
        case measure => rw [HR2.out.left_eq, HRG.out.left_eq]; exact HLT.out
set_option maxHeartbeats 8000000 in
theorem Move_no {w : World} {lb mb N : Nat} {low : Int} {g : Int → Option Nat} {σ : Int → Sl} (h : IsLogG w lb mb low N g σ) (to_ : Int) (ht : 0 ≤ to_ ∧ to_ ≤ 4294967295) (hlt : ¬ low < to_) :
    Calls Try.prog 18 #[.pointer (some ⟨lb, 0, none⟩), .int .u32 to_] w fun e w' => e = .returned (.tuple #[]) ∧ IsLogG w' lb mb low N (cutI low g) (cutS low σ) ∧ Frm (Own lb mb g) w w' := by
  have HMB := hid (show 0 ≤ low ∧ low ≤ 4294967295 by have := h.low0; omega)
  have q0 := h.blk.cell 0; have q1 := h.blk.cell 1; have z0 := h.blk.free 0
  simp only [List.getElem?_cons_succ, List.getElem?_cons_zero] at q0 q1
  obtain ⟨n, hn, hm⟩ := h.map
  have HML := hid h.lm
  have HBL := hid h.blk.lt
  have HB1 := hid (show Blk (w.setCell ⟨lb, 0, none⟩ (.int .u32 low)) lb [.int .u32 low, .map (some mb)] TLg from h.blk.setCell 0 (.int .u32 low))
  have HF1 := hid ((Frm.refl (fun k => k = lb ∨ k = mb ∨ w.heap.size ≤ k) w).setCell ⟨lb, 0, none⟩ (.int .u32 low) (.inr (.inl rfl)))
  have HM1 := hid (hm.frm ((Frm.refl (· = lb) w).setCell ⟨lb, 0, none⟩ (.int .u32 low) (.inr rfl)) (fun e => HML.out e))
  have HSZ := hid (show (w.setCell ⟨lb, 0, none⟩ (.int .u32 low)).heap.size = w.heap.size by simp)
  have HH := hid h; have HN := hid hn
  clear h hn hm
  go_enter Try.func18, Try.ntmps18
  go_wp2_with (at_range; refine wpList_mp_range rfl _ rfl HM1.out u_map rfl ?_; intro w1 hrg hg1 hs1; (rw [HSZ.out] at hrg); (rw [HSZ.out]); have HRG := hid hrg; have HG1 := hid hg1; have HS1 := hid hs1; clear hrg hg1 hs1)
  try go_frame
  go_loopw [4] (fun _ wr => ∃ (g1 : Int → Option Nat) (left : Value → Prop) (cnt n1 : Nat), Rng TU32 wr mb w.heap.size n1 (fOf g1) left cnt ∧ n1 ≤ N ∧ Cut low g g1 left ∧ Blk wr lb [.int .u32 low, .map (some mb)] TLg ∧ Frm (fun k => k = lb ∨ k = mb ∨ w.heap.size ≤ k) w wr) (fun _ wr => wr.rangeLeft mb w.heap.size)
  case atStart => exact ⟨g, _, n, n, HRG.out, HN.out, ⟨fun s => .inl rfl, fun s _ hne => by cases hgs : g s; exact absurd hgs hne; rw [fOf_some hgs]; simp⟩, HB1.out.frm HG1.out (fun h => h), HF1.out.trans' HG1.out (fun _ _ h => h.elim)⟩
  case round =>
    clear HRG HG1 HS1 HM1 HB1 HF1
    obtain ⟨g1, left, cnt, n1, hrg, hn1, hcut, hb, hf⟩ := hrel
    have HRG := hid hrg; have HN1 := hid hn1; have HC := hid hcut; have HB := hid hb; have HF := hid hf
    have q0 := hb.cell 0; have q1 := hb.cell 1
    simp only [List.getElem?_cons_succ, List.getElem?_cons_zero] at q0 q1
    have HRN := hid (rng_ne hrg hb)
    clear hrg hn1 hcut hb hf
    go_wp2_with (at_next; refine wpList_mp_next rfl _ rfl (Value.int .u32) (fun b : Nat => .pointer (some ⟨b, 0, none⟩)) HRG.out (fun key v hf => fOf_inv hf) rfl ?_ ?_)
    · intro hl0 hc0
      have HLG := hid (show IsLogG wr lb mb low N (cutI low g) (cutS low σ) from HC.out.done hl0 ▸ cut_log HH.out HB.out HMB.out HF.out (HC.out.done hl0 ▸ HRG.out.mp) HN1.out)
      have HFO := hid (cut_frm (lb := lb) (mb := mb) (g := g) HF.out)
      clear hl0 hc0
      go_wp2
      go_end0
      exact ⟨rfl, HLG.out, HFO.out⟩
    · intro s b w2 cnt2 hlk hfk hrg2 hlt2 hg2 hs2 hen
      have hsb := fOf_keyb hrg2.mp hfk
      have HSB := hid hsb; have HR2 := hid hrg2; have HLT := hid hlt2
      have HB2 := hid (HB.out.frm hg2 (fun e => HRN.out e.symm))
      have q0 := HB2.out.cell 0; have q1 := HB2.out.cell 1
      simp only [List.getElem?_cons_succ, List.getElem?_cons_zero] at q0 q1
      have HF2 := hid (HF.out.trans' hg2 (fun i _ e => .inr (.inr (by rw [e]; exact Nat.le_refl _))))
      clear hlk hfk hrg2 hlt2 hg2 hs2 hsb
      cases hin : inW low s
      · have HI := hid hin; clear hin
        go_wp2_with (first
          | (go_at_call 16; (with_reducible refine (In_raw HB2.out HMB.out s HSB.out _ HI.out).mono ?_); rintro e w' ⟨rfl, rfl⟩; skip)
          | (at_delete; refine wpList_mp_rdel rfl _ _ rfl HR2.out keyed32 u_map _ _ (key32 HSB.out) (fun h => h.2 rfl) (fOf_del g1 s) rfl rfl ?_; intro w3 cnt3 n3 hrg3 hc3 hn3 hf3 hs3; have HR3 := hid hrg3; have HC3 := hid hc3; have HN3 := hid hn3; have HB3 := hid (HB2.out.frm hf3 (fun e => HML.out e.symm)); have HF3 := hid (HF2.out.trans' hf3 (fun i _ e => .inr (.inl e))); clear hrg3 hc3 hn3 hf3 hs3))
        try go_frame
        go_roundw
        case rel => exact ⟨delI g1 s, _, cnt3, n3, HR3.out, Nat.le_trans HN3.out HN1.out, HC.out.cut HI.out, HB3.out, HF3.out⟩
        case measure => rw [HR3.out.left_eq, HRG.out.left_eq]; exact Nat.lt_of_le_of_lt HC3.out HLT.out
      · have HI := hid hin; clear hin
        go_wp2_with ((go_at_call 16; (with_reducible refine (In_raw HB2.out HMB.out s HSB.out _ HI.out).mono ?_); rintro e w' ⟨rfl, rfl⟩; skip))
        go_roundw
        case rel => exact ⟨g1, _, cnt2, n1, HR2.out, HN1.out, HC.out.keep HI.out, HB2.out, HF2.out⟩
        case measure => rw [HR2.out.left_eq, HRG.out.left_eq]; exact HLT.out
theorem Move_calls {w : World} {lb mb N : Nat} {low : Int} {g : Int → Option Nat} {σ : Int → Sl} (h : IsLogG w lb mb low N g σ) (to_ M : Int) (ht : 0 ≤ to_ ∧ to_ ≤ 4294967295) (hM : (if low < to_ then to_ else low) = M) :
    Calls Try.prog 18 #[.pointer (some ⟨lb, 0, none⟩), .int .u32 to_] w fun e w' => e = .returned (.tuple #[]) ∧ IsLogG w' lb mb M N (cutI M g) (cutS M σ) ∧ Frm (Own lb mb g) w w' := by
  by_cases hlt : low < to_
  · rw [if_pos hlt] at hM; subst hM; exact Move_up h to_ ht hlt
  · rw [if_neg hlt] at hM; subst hM; exact Move_no h to_ ht hlt
theorem GMove_calls {w : World} {B lb N : Nat} {low : Int} {σ : Int → Sl} (h : Lg w B lb low N σ) (to_ M : Int) (ht : 0 ≤ to_ ∧ to_ ≤ 4294967295) (hM : (if low < to_ then to_ else low) = M) :
    Calls Try.prog 18 #[.pointer (some ⟨lb, 0, none⟩), .int .u32 to_] w fun e w' => e = .returned (.tuple #[]) ∧ Lg w' B lb M N (cutS M σ) ∧ LF B w w' := by
  obtain ⟨mb, g, hg, hB, hw⟩ := h
  refine (Move_calls hg to_ M ht hM).mono ?_
  rintro e w' ⟨rfl, h', f⟩
  refine ⟨rfl, ⟨mb, _, h', fun k hk => hB k ?_, Nat.le_trans hw f.size⟩, LF.of_own hg hB f⟩
  rcases hk with hk | hk | ⟨s, hs⟩
  · exact .inl hk
  · exact .inr (.inl hk)
  · unfold cutI at hs
    split at hs
    · exact .inr (.inr ⟨s, hs⟩)
    · cases hs
end Go.Proofs.Ytijomhinfcahpaa
