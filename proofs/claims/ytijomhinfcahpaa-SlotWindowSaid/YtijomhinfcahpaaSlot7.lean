/- The log within its window, its inside hidden: what each method tells and does. -/
import Derived.Test.YtijomhinfcahpaaSlot6
namespace Go.Proofs.Ytijomhinfcahpaa
open Go.RowKit Go.ChangeShapes
set_option linter.unusedVariables false
set_option linter.unusedSimpArgs false
/-- A log at lb, all of its blocks from B on. -/
def Lg (w : World) (B lb : Nat) (low : Int) (N : Nat) (σ : Int → Sl) : Prop := ∃ mb g, IsLogG w lb mb low N g σ ∧ (∀ k, Own lb mb g k → B ≤ k) ∧ B ≤ w.heap.size
/-- What a step of the log has changed: blocks from B on, and none that is a request's or an entry's. -/
def LF (B : Nat) (w w' : World) : Prop := ∃ S : Nat → Prop, Frm S w w' ∧ (∀ k, S k → B ≤ k) ∧ ∀ k cs T, Blk w k cs T → cs.length ≠ 2 → cs.length ≠ 63 → ¬ S k
theorem LF.blk {B : Nat} {w w' : World} (h : LF B w w') {k T : Nat} {cs : List Value} (hb : Blk w k cs T) (h2 : cs.length ≠ 2) (h63 : cs.length ≠ 63) : Blk w' k cs T := by
  obtain ⟨S, f, _, hs⟩ := h
  exact hb.frm f (hs k cs T hb h2 h63)
theorem LF.below {B : Nat} {w0 w w' : World} (h : LF B w w') (hb : w0.heap.size ≤ B) (f : Below w0.heap.size w0 w) : Below w0.heap.size w0 w' := by
  obtain ⟨S, g, hs, _⟩ := h
  exact below_frm f g (fun k hk h => by have := hs k h; omega)
theorem LF.of0 {B : Nat} {w w' : World} (f : Frm (fun _ => False) w w') : LF B w w' := ⟨_, f, fun _ h => h.elim, fun _ _ _ _ _ _ h => h⟩
theorem Own.not {w : World} {lb mb N : Nat} {low : Int} {g : Int → Option Nat} {σ : Int → Sl} (h : IsLogG w lb mb low N g σ) {k T : Nat} {cs : List Value} (hb : Blk w k cs T) (h2 : cs.length ≠ 2) (h63 : cs.length ≠ 63) : ¬ Own lb mb g k := by
  rintro (rfl | rfl | ⟨s, hs⟩)
  · exact h2 (by rw [(blk_one hb h.blk).1]; rfl)
  · obtain ⟨n, _, hm⟩ := h.map
    exact hm.not_blk hb rfl
  · exact h63 (by rw [(blk_one hb (h.slot s k hs)).1]; exact slV_len _)
theorem LF.of_own {B : Nat} {w w' : World} {lb mb N : Nat} {low : Int} {g : Int → Option Nat} {σ : Int → Sl} (h : IsLogG w lb mb low N g σ) (hB : ∀ k, Own lb mb g k → B ≤ k) (f : Frm (Own lb mb g) w w') : LF B w w' :=
  ⟨_, f, hB, fun k cs T hb h2 h63 => Own.not h hb h2 h63⟩
theorem Lg.frm {S : Nat → Prop} {w w' : World} {B lb N : Nat} {low : Int} {σ : Int → Sl} (h : Lg w B lb low N σ) (f : Frm S w w') (hs : ∀ k, B ≤ k → ¬ S k) : Lg w' B lb low N σ := by
  obtain ⟨mb, g, hg, hB, hw⟩ := h
  exact ⟨mb, g, hg.frm f (fun k hk => hs k (hB k hk)), hB, Nat.le_trans hw f.size⟩
theorem Lg.quiet {w w' : World} {B lb N : Nat} {low : Int} {σ : Int → Sl} (h : Lg w B lb low N σ) (f : Frm (fun _ => False) w w') : Lg w' B lb low N σ := h.frm f (fun _ _ h => h)
theorem Lg.more {w : World} {B lb N N' : Nat} {low : Int} {σ : Int → Sl} (h : Lg w B lb low N σ) (hN : N ≤ N') : Lg w B lb low N' σ := by
  obtain ⟨mb, g, hg, hB, hw⟩ := h
  exact ⟨mb, g, hg.more hN, hB, hw⟩
theorem Lg.low0 {w : World} {B lb N : Nat} {low : Int} {σ : Int → Sl} (h : Lg w B lb low N σ) : 0 ≤ low ∧ low ≤ 4294967295 := by
  obtain ⟨mb, g, hg, hB, hw⟩ := h
  exact hg.low0
theorem Lg.cast {w : World} {B lb N : Nat} {low : Int} {σ σ' : Int → Sl} (h : Lg w B lb low N σ) (e : σ = σ') : Lg w B lb low N σ' := e ▸ h
theorem GNew_calls (w : World) (low : Int) (hl : 0 ≤ low ∧ low ≤ 4294967295) : Calls Try.prog 9 #[.int .u32 low] w fun e w' => ∃ lb, e = .returned (.pointer (some ⟨lb, 0, none⟩)) ∧ Lg w' w.heap.size lb low 0 (fun _ => sl0) ∧ w.heap.size ≤ lb ∧ Below w.heap.size w w' := by
  refine (LNew_calls w low hl).mono ?_
  rintro e w' ⟨lb, mb, rfl, hl, h1, h2, hb⟩
  refine ⟨lb, rfl, ⟨mb, _, hl, fun k hk => ?_, hb.size⟩, h1, hb⟩
  rcases hk with rfl | rfl | ⟨s, hs⟩
  · exact h1
  · exact h2
  · cases hs
def accC (low : Int) (σ : Int → Sl) (view s c t k y v : Int) : Int := if inW low s = true then (if taken (σ s).acc view c t k y v = true then 121 else 0) else 120
def accX (low : Int) (σ : Int → Sl) (view s c t k y v : Int) : Int → Sl := if inW low s = true then (if taken (σ s).acc view c t k y v = true then σ else updS σ s ((σ s).accept ⟨true, view, c, t, k, y, v⟩)) else σ
def sayC (low : Int) (σ : Int → Sl) (q : Nat) (view s : Int) : Int := if inW low s = true then oldC ((σ s).get q) view else 120
def sayZ (low : Int) (σ : Int → Sl) (q : Nat) (view s c t k y v : Int) : Int → Sl := if inW low s = true then updS σ s (sayX (σ s) q view c t k y v) else σ
theorem own_B {w w' : World} {B lb mb N : Nat} {low : Int} {g g' : Int → Option Nat} {σ σ' : Int → Sl} (hB : ∀ k, Own lb mb g k → B ≤ k) (hw : B ≤ w.heap.size) (h' : IsLogG w' lb mb low N g' σ') (f : Frm (Own lb mb g) w w') (ho : ∀ k, Own lb mb g' k → Own lb mb g k ∨ w.heap.size ≤ k) : Lg w' B lb low N σ' :=
  ⟨mb, g', h', fun k hk => (ho k hk).elim (hB k) (fun h => Nat.le_trans hw h), Nat.le_trans hw f.size⟩
theorem GAccept_calls {w : World} {B lb N : Nat} {low : Int} {σ : Int → Sl} (h : Lg w B lb low N σ) (hN : N < 100000) (view s c t k y v : Int) (hvw : 0 ≤ view ∧ view ≤ 4294967295) (hs : 0 ≤ s ∧ s ≤ 4294967295) (code : Int) (hc : accC low σ view s c t k y v = code) (σ' : Int → Sl) (hσ : accX low σ view s c t k y v = σ') :
    Calls Try.prog 10 #[.pointer (some ⟨lb, 0, none⟩), .int .u32 view, .int .u32 s, .agg #[.int .u8 c, .int .u32 t, .int .u8 k, .int .u8 y, .int .u16 v]] w fun e w' => e = .returned (.int .i64 code) ∧ Lg w' B lb low (N + 1) σ' ∧ LF B w w' := by
  subst hσ
  unfold accC at hc
  unfold accX
  obtain ⟨mb, g, hg, hB, hw⟩ := h
  cases hz : inW low s
  · rw [hz, if_neg (by decide)] at hc
    subst hc
    rw [if_neg (by decide)]
    refine (Accept_out hg view s c t k y v hs hz).mono ?_
    rintro e w' ⟨rfl, f⟩
    exact ⟨rfl, (Lg.quiet ⟨mb, g, hg, hB, hw⟩ f).more (by omega), LF.of0 f⟩
  · rw [hz, if_pos rfl] at hc
    rw [if_pos rfl]
    refine (Accept_in hg hN view s c t k y v hvw hs hz code hc).mono ?_
    rintro e w' ⟨g', rfl, h', f, ho⟩
    exact ⟨rfl, own_B (σ := σ) hB hw h' f ho, LF.of_own hg hB f⟩
theorem GPrepare_calls {w : World} {B lb N : Nat} {low : Int} {σ : Int → Sl} (h : Lg w B lb low N σ) (hN : N < 100000) (i : Nat) (hi : i < 4) (from_ : Int) (hfr : from_ = i) (view s c t k y v : Int) (hs : 0 ≤ s ∧ s ≤ 4294967295) (code : Int) (hc : sayC low σ (0 + i) view s = code) (σ' : Int → Sl) (hσ : sayZ low σ (0 + i) view s c t k y v = σ') :
    Calls Try.prog 11 #[.pointer (some ⟨lb, 0, none⟩), .int .u8 from_, .int .u32 view, .int .u32 s, .agg #[.int .u8 c, .int .u32 t, .int .u8 k, .int .u8 y, .int .u16 v]] w fun e w' => e = .returned (.int .i64 code) ∧ Lg w' B lb low (N + 1) σ' ∧ LF B w w' := by
  subst hσ
  unfold sayC at hc
  unfold sayZ
  obtain ⟨mb, g, hg, hB, hw⟩ := h
  cases hz : inW low s
  · rw [hz, if_neg (by decide)] at hc
    subst hc
    rw [if_neg (by decide)]
    refine (Prepare_out hg from_ view s c t k y v hs hz).mono ?_
    rintro e w' ⟨rfl, f⟩
    exact ⟨rfl, (Lg.quiet ⟨mb, g, hg, hB, hw⟩ f).more (by omega), LF.of0 f⟩
  · rw [hz, if_pos rfl] at hc
    rw [if_pos rfl]
    refine (Prepare_in hg hN i hi from_ hfr view s c t k y v hs hz code hc).mono ?_
    rintro e w' ⟨g', rfl, h', f, ho⟩
    exact ⟨rfl, own_B (σ := σ) hB hw h' f ho, LF.of_own hg hB f⟩
theorem GPrepare_far {w : World} {B lb N : Nat} {low : Int} {σ : Int → Sl} (h : Lg w B lb low N σ) (hN : N < 100000) (from_ : Int) (hfr : 4 ≤ from_) (view s c t k y v : Int) (hs : 0 ≤ s ∧ s ≤ 4294967295) :
    Calls Try.prog 11 #[.pointer (some ⟨lb, 0, none⟩), .int .u8 from_, .int .u32 view, .int .u32 s, .agg #[.int .u8 c, .int .u32 t, .int .u8 k, .int .u8 y, .int .u16 v]] w fun e w' => e = .returned (.int .i64 120) ∧ Lg w' B lb low (N + 1) σ ∧ LF B w w' := by
  obtain ⟨mb, g, hg, hB, hw⟩ := h
  cases hz : inW low s
  · refine (Prepare_out hg from_ view s c t k y v hs hz).mono ?_
    rintro e w' ⟨rfl, f⟩
    exact ⟨rfl, (Lg.quiet ⟨mb, g, hg, hB, hw⟩ f).more (by omega), LF.of0 f⟩
  · refine (Prepare_far hg hN from_ view s c t k y v hfr hs hz).mono ?_
    rintro e w' ⟨g', rfl, h', f, ho⟩
    exact ⟨rfl, own_B (σ := σ) hB hw h' f ho, LF.of_own hg hB f⟩
theorem GCommit_calls {w : World} {B lb N : Nat} {low : Int} {σ : Int → Sl} (h : Lg w B lb low N σ) (hN : N < 100000) (i : Nat) (hi : i < 4) (from_ : Int) (hfr : from_ = i) (view s c t k y v : Int) (hs : 0 ≤ s ∧ s ≤ 4294967295) (code : Int) (hc : sayC low σ (4 + i) view s = code) (σ' : Int → Sl) (hσ : sayZ low σ (4 + i) view s c t k y v = σ') :
    Calls Try.prog 12 #[.pointer (some ⟨lb, 0, none⟩), .int .u8 from_, .int .u32 view, .int .u32 s, .agg #[.int .u8 c, .int .u32 t, .int .u8 k, .int .u8 y, .int .u16 v]] w fun e w' => e = .returned (.int .i64 code) ∧ Lg w' B lb low (N + 1) σ' ∧ LF B w w' := by
  subst hσ
  unfold sayC at hc
  unfold sayZ
  obtain ⟨mb, g, hg, hB, hw⟩ := h
  cases hz : inW low s
  · rw [hz, if_neg (by decide)] at hc
    subst hc
    rw [if_neg (by decide)]
    refine (Commit_out hg from_ view s c t k y v hs hz).mono ?_
    rintro e w' ⟨rfl, f⟩
    exact ⟨rfl, (Lg.quiet ⟨mb, g, hg, hB, hw⟩ f).more (by omega), LF.of0 f⟩
  · rw [hz, if_pos rfl] at hc
    rw [if_pos rfl]
    refine (Commit_in hg hN i hi from_ hfr view s c t k y v hs hz code hc).mono ?_
    rintro e w' ⟨g', rfl, h', f, ho⟩
    exact ⟨rfl, own_B (σ := σ) hB hw h' f ho, LF.of_own hg hB f⟩
theorem GCommit_far {w : World} {B lb N : Nat} {low : Int} {σ : Int → Sl} (h : Lg w B lb low N σ) (hN : N < 100000) (from_ : Int) (hfr : 4 ≤ from_) (view s c t k y v : Int) (hs : 0 ≤ s ∧ s ≤ 4294967295) :
    Calls Try.prog 12 #[.pointer (some ⟨lb, 0, none⟩), .int .u8 from_, .int .u32 view, .int .u32 s, .agg #[.int .u8 c, .int .u32 t, .int .u8 k, .int .u8 y, .int .u16 v]] w fun e w' => e = .returned (.int .i64 120) ∧ Lg w' B lb low (N + 1) σ ∧ LF B w w' := by
  obtain ⟨mb, g, hg, hB, hw⟩ := h
  cases hz : inW low s
  · refine (Commit_out hg from_ view s c t k y v hs hz).mono ?_
    rintro e w' ⟨rfl, f⟩
    exact ⟨rfl, (Lg.quiet ⟨mb, g, hg, hB, hw⟩ f).more (by omega), LF.of0 f⟩
  · refine (Commit_far hg hN from_ view s c t k y v hfr hs hz).mono ?_
    rintro e w' ⟨g', rfl, h', f, ho⟩
    exact ⟨rfl, own_B (σ := σ) hB hw h' f ho, LF.of_own hg hB f⟩
theorem GAccepted_false {w : World} {B lb N : Nat} {low : Int} {σ : Int → Sl} (h : Lg w B lb low N σ) (s : Int) (hs : 0 ≤ s ∧ s ≤ 4294967295) (hz : toldS low σ (fun _ => true) s = false) :
    Calls Try.prog 17 #[.pointer (some ⟨lb, 0, none⟩), .int .u32 s] w fun e w' => e = .returned (.tuple #[.agg #[.int .u32 0, .int .u32 0, .int .u8 0, .int .u32 0, .int .u8 0, .int .u8 0, .int .u16 0], .bool false]) ∧ Frm (fun _ => False) w w' := by
  obtain ⟨mb, g, hg, hB, hw⟩ := h
  exact Accepted_false hg s hs hz
theorem GAccepted_true {w : World} {B lb N : Nat} {low : Int} {σ : Int → Sl} (h : Lg w B lb low N σ) (s : Int) (hs : 0 ≤ s ∧ s ≤ 4294967295) (hz : toldS low σ (fun _ => true) s = true) :
    Calls Try.prog 17 #[.pointer (some ⟨lb, 0, none⟩), .int .u32 s] w fun e w' => e = .returned (.tuple #[.agg #[.int .u32 s, .int .u32 (σ s).acc.vw, .int .u8 (σ s).acc.c, .int .u32 (σ s).acc.t, .int .u8 (σ s).acc.k, .int .u8 (σ s).acc.y, .int .u16 (σ s).acc.v], .bool true]) ∧ Frm (fun _ => False) w w' := by
  obtain ⟨mb, g, hg, hB, hw⟩ := h
  exact Accepted_true hg s hs hz
theorem GPrepared_false {w : World} {B lb N : Nat} {low : Int} {σ : Int → Sl} (h : Lg w B lb low N σ) (s : Int) (hs : 0 ≤ s ∧ s ≤ 4294967295) (hz : toldS low σ (rdyS) s = false) :
    Calls Try.prog 15 #[.pointer (some ⟨lb, 0, none⟩), .int .u32 s] w fun e w' => e = .returned (.tuple #[.agg #[.int .u32 0, .int .u32 0, .int .u8 0, .int .u32 0, .int .u8 0, .int .u8 0, .int .u16 0], .bool false]) ∧ Frm (fun _ => False) w w' := by
  obtain ⟨mb, g, hg, hB, hw⟩ := h
  exact Prepared_false hg s hs hz
theorem GPrepared_true {w : World} {B lb N : Nat} {low : Int} {σ : Int → Sl} (h : Lg w B lb low N σ) (s : Int) (hs : 0 ≤ s ∧ s ≤ 4294967295) (hz : toldS low σ (rdyS) s = true) :
    Calls Try.prog 15 #[.pointer (some ⟨lb, 0, none⟩), .int .u32 s] w fun e w' => e = .returned (.tuple #[.agg #[.int .u32 s, .int .u32 (σ s).acc.vw, .int .u8 (σ s).acc.c, .int .u32 (σ s).acc.t, .int .u8 (σ s).acc.k, .int .u8 (σ s).acc.y, .int .u16 (σ s).acc.v], .bool true]) ∧ Frm (fun _ => False) w w' := by
  obtain ⟨mb, g, hg, hB, hw⟩ := h
  exact Prepared_true hg s hs hz
theorem GCommitted_false {w : World} {B lb N : Nat} {low : Int} {σ : Int → Sl} (h : Lg w B lb low N σ) (s : Int) (hs : 0 ≤ s ∧ s ≤ 4294967295) (hz : toldS low σ (comS) s = false) :
    Calls Try.prog 13 #[.pointer (some ⟨lb, 0, none⟩), .int .u32 s] w fun e w' => e = .returned (.tuple #[.agg #[.int .u32 0, .int .u32 0, .int .u8 0, .int .u32 0, .int .u8 0, .int .u8 0, .int .u16 0], .bool false]) ∧ Frm (fun _ => False) w w' := by
  obtain ⟨mb, g, hg, hB, hw⟩ := h
  exact Committed_false hg s hs hz
theorem GCommitted_true {w : World} {B lb N : Nat} {low : Int} {σ : Int → Sl} (h : Lg w B lb low N σ) (s : Int) (hs : 0 ≤ s ∧ s ≤ 4294967295) (hz : toldS low σ (comS) s = true) :
    Calls Try.prog 13 #[.pointer (some ⟨lb, 0, none⟩), .int .u32 s] w fun e w' => e = .returned (.tuple #[.agg #[.int .u32 s, .int .u32 (σ s).acc.vw, .int .u8 (σ s).acc.c, .int .u32 (σ s).acc.t, .int .u8 (σ s).acc.k, .int .u8 (σ s).acc.y, .int .u16 (σ s).acc.v], .bool true]) ∧ Frm (fun _ => False) w w' := by
  obtain ⟨mb, g, hg, hB, hw⟩ := h
  exact Committed_true hg s hs hz
theorem GIn_calls {w : World} {B lb N : Nat} {low : Int} {σ : Int → Sl} (h : Lg w B lb low N σ) (s : Int) (hs : 0 ≤ s ∧ s ≤ 4294967295) (z : Bool) (hz : inW low s = z) :
    Calls Try.prog 16 #[.pointer (some ⟨lb, 0, none⟩), .int .u32 s] w fun e w' => e = .returned (.bool z) ∧ w = w' := by
  obtain ⟨mb, g, hg, hB, hw⟩ := h
  exact In_calls hg s hs z hz
theorem GLow_calls {w : World} {B lb N : Nat} {low : Int} {σ : Int → Sl} (h : Lg w B lb low N σ) :
    Calls Try.prog 19 #[.pointer (some ⟨lb, 0, none⟩)] w fun e w' => e = .returned (.int .u32 low) ∧ w = w' := by
  obtain ⟨mb, g, hg, hB, hw⟩ := h
  exact Low_calls hg
end Go.Proofs.Ytijomhinfcahpaa
