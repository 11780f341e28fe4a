/- The log within its window: its object; In, at, says, count, ready. -/
import Derived.Test.YtijomhinfcahpaaMapF
import Derived.Test.YtijomhinfcahpaaArgs
import Derived.Laws.Rows
import Derived.Laws.StructEq
namespace Go.Proofs.Ytijomhinfcahpaa
open Go.RowKit Go.ChangeShapes
set_option linter.unusedVariables false
set_option linter.unusedSimpArgs false
set_option maxRecDepth 20000
abbrev TSd : Nat := 64
abbrev TSl : Nat := 67
abbrev TLg : Nat := 60
abbrev TU32 : Nat := 22
theorem frm_box (w : World) (o : Obj) : Frm (fun _ => False) w (w.alloc o) := (Frm.refl _ _).alloc o
/-- What a replica said, in which view. -/
structure Sd where
  th : Bool
  vw : Int
  c : Int
  t : Int
  k : Int
  y : Int
  v : Int
def sd0 : Sd := ⟨false, 0, 0, 0, 0, 0, 0⟩
def sdV (s : Sd) : List Value := [.bool s.th, .int .u32 s.vw, .int .u8 s.c, .int .u32 s.t, .int .u8 s.k, .int .u8 s.y, .int .u16 s.v]
def sdEq (a b : Sd) : Bool := a.th == b.th && (a.vw == b.vw && (a.c == b.c && (a.t == b.t && (a.k == b.k && (a.y == b.y && a.v == b.v)))))
theorem sdEq_iff (a b : Sd) : sdEq a b = true ↔ a = b := by
  obtain ⟨a0, a1, a2, a3, a4, a5, a6⟩ := a
  obtain ⟨b0, b1, b2, b3, b4, b5, b6⟩ := b
  simp [sdEq]
/-- A slot. -/
structure Sl where
  acc : Sd
  p0 : Sd
  p1 : Sd
  p2 : Sd
  p3 : Sd
  c0 : Sd
  c1 : Sd
  c2 : Sd
  c3 : Sd
def sl0 : Sl := ⟨sd0, sd0, sd0, sd0, sd0, sd0, sd0, sd0, sd0⟩
def slV (x : Sl) : List Value := sdV x.acc ++ (sdV x.p0 ++ (sdV x.p1 ++ (sdV x.p2 ++ (sdV x.p3 ++ (sdV x.c0 ++ (sdV x.c1 ++ (sdV x.c2 ++ sdV x.c3)))))))
def inW (low s : Int) : Bool := decide (low < s ∧ s - low ≤ 8)
def updI {α : Type} (g : Int → Option α) (s : Int) (x : α) : Int → Option α := fun i => if i = s then some x else g i
theorem updI_eq {α : Type} (g : Int → Option α) (s : Int) (x : α) : updI g s x s = some x := if_pos rfl
theorem updI_ne {α : Type} {g : Int → Option α} {s i : Int} (h : i ≠ s) (x : α) : updI g s x i = g i := if_neg h
theorem updI_same {α : Type} {g : Int → Option α} {s : Int} {x : α} (h : g s = some x) : updI g s x = g := by
  funext i
  by_cases e : i = s
  · subst e; rw [updI_eq, h]
  · rw [updI_ne e]
def updS (σ : Int → Sl) (s : Int) (x : Sl) : Int → Sl := fun i => if i = s then x else σ i
theorem updS_eq (σ : Int → Sl) (s : Int) (x : Sl) : updS σ s x s = x := if_pos rfl
theorem updS_ne {σ : Int → Sl} {s i : Int} (h : i ≠ s) (x : Sl) : updS σ s x i = σ i := if_neg h
theorem updS_same (σ : Int → Sl) (s : Int) : updS σ s (σ s) = σ := by
  funext i
  by_cases e : i = s
  · subst e; rw [updS_eq]
  · rw [updS_ne e]
/-- The map of slots, as a map of values. -/
def fOf (g : Int → Option Nat) : Value → Option Value
  | .int .u32 s => (g s).map fun b => .pointer (some ⟨b, 0, none⟩)
  | _ => none
theorem fOf_some {g : Int → Option Nat} {s : Int} {b : Nat} (h : g s = some b) : fOf g (.int .u32 s) = some (.pointer (some ⟨b, 0, none⟩)) := by simp [fOf, h]
theorem fOf_none {g : Int → Option Nat} {s : Int} (h : g s = none) : fOf g (.int .u32 s) = none := by simp [fOf, h]
theorem fOf_upd (g : Int → Option Nat) (s : Int) (b : Nat) : IsUpd (fOf g) (fOf (updI g s b)) (.int .u32 s) (some (.pointer (some ⟨b, 0, none⟩))) := by
  refine ⟨fOf_some (updI_eq g s b), fun x e => ?_⟩
  unfold fOf
  split
  · rename_i i
    rw [updI_ne (fun e2 => e (by rw [e2]))]
  · rfl
theorem fOf_inv {g : Int → Option Nat} {key v : Value} (h : fOf g key = some v) : (∃ s, key = .int .u32 s) ∧ ∃ b : Nat, v = .pointer (some ⟨b, 0, none⟩) := by
  unfold fOf at h
  split at h
  · obtain ⟨b, _, rfl⟩ := Option.map_eq_some_iff.1 h
    exact ⟨⟨_, rfl⟩, b, rfl⟩
  · cases h
/-- The log at lb; g: where which slot lies; σ: what is in it. -/
structure IsLogG (w : World) (lb mb : Nat) (low : Int) (N : Nat) (g : Int → Option Nat) (σ : Int → Sl) : Prop where
  blk : Blk w lb [.int .u32 low, .map (some mb)] TLg
  map : ∃ n, n ≤ N ∧ IsMp TU32 w mb n (fOf g)
  slot : ∀ s b, g s = some b → Blk w b (slV (σ s)) TSl
  none : ∀ s, g s = none → σ s = sl0
  inj : ∀ s s' b, g s = some b → g s' = some b → s = s'
  low0 : 0 ≤ low ∧ low ≤ 4294967295
  vwb : ∀ s, 0 ≤ (σ s).acc.vw ∧ (σ s).acc.vw ≤ 4294967295
/-- Its blocks. -/
def Own (lb mb : Nat) (g : Int → Option Nat) (k : Nat) : Prop := k = lb ∨ k = mb ∨ ∃ s, g s = some k
theorem IsLogG.frm {S : Nat → Prop} {w w' : World} {lb mb N : Nat} {low : Int} {g : Int → Option Nat} {σ : Int → Sl} (h : IsLogG w lb mb low N g σ) (f : Frm S w w') (hs : ∀ k, Own lb mb g k → ¬ S k) : IsLogG w' lb mb low N g σ :=
  ⟨h.blk.frm f (hs lb (.inl rfl)), by obtain ⟨n, hn, hm⟩ := h.map; exact ⟨n, hn, hm.frm f (hs mb (.inr (.inl rfl)))⟩,
    fun s b hg => (h.slot s b hg).frm f (hs b (.inr (.inr ⟨s, hg⟩))), h.none, h.inj, h.low0, h.vwb⟩
theorem IsLogG.quiet {w w' : World} {lb mb N : Nat} {low : Int} {g : Int → Option Nat} {σ : Int → Sl} (h : IsLogG w lb mb low N g σ) (f : Frm (fun _ => False) w w') : IsLogG w' lb mb low N g σ := h.frm f (fun _ _ h => h)
theorem IsLogG.more {w : World} {lb mb N N' : Nat} {low : Int} {g : Int → Option Nat} {σ : Int → Sl} (h : IsLogG w lb mb low N g σ) (hN : N ≤ N') : IsLogG w lb mb low N' g σ :=
  ⟨h.blk, by obtain ⟨n, hn, hm⟩ := h.map; exact ⟨n, by omega, hm⟩, h.slot, h.none, h.inj, h.low0, h.vwb⟩
theorem IsLogG.lm {w : World} {lb mb N : Nat} {low : Int} {g : Int → Option Nat} {σ : Int → Sl} (h : IsLogG w lb mb low N g σ) : mb ≠ lb := by
  obtain ⟨n, _, hm⟩ := h.map; exact hm.not_blk h.blk
theorem blk_one {w : World} {b T T' : Nat} {cs cs' : List Value} (h : Blk w b cs T) (h' : Blk w b cs' T') : cs = cs' ∧ T = T' := by
  unfold Blk at h h'
  rw [h] at h'
  injection h' with h'
  injection h' with h1 h2
  exact ⟨by simpa using h1, h2⟩
theorem IsLogG.sl {w : World} {lb mb N : Nat} {low : Int} {g : Int → Option Nat} {σ : Int → Sl} (h : IsLogG w lb mb low N g σ) {s : Int} {b : Nat} (hg : g s = some b) : b ≠ lb ∧ b ≠ mb := by
  have hb := h.slot s b hg
  constructor
  · rintro rfl
    have := (blk_one hb h.blk).1
    simp [slV, sdV] at this
  · rintro rfl
    obtain ⟨n, _, hm⟩ := h.map
    exact hm.not_blk hb rfl
/-- A slot is turned. -/
theorem IsLogG.set {w w' : World} {lb mb N : Nat} {low : Int} {g : Int → Option Nat} {σ : Int → Sl} (h : IsLogG w lb mb low N g σ) {s : Int} {b : Nat} (hg : g s = some b) {x : Sl} (hxv : 0 ≤ x.acc.vw ∧ x.acc.vw ≤ 4294967295) (f : Frm (· = b) w w') (hb : Blk w' b (slV x) TSl) : IsLogG w' lb mb low N g (updS σ s x) := by
  have hne := h.sl hg
  refine ⟨h.blk.frm f (fun e => hne.1 e.symm), by obtain ⟨n, hn, hm⟩ := h.map; exact ⟨n, hn, hm.frm f (fun e => hne.2 e.symm)⟩, fun s' b' hg' => ?_, fun s' hg' => ?_, h.inj, h.low0, fun s' => by by_cases e : s' = s; subst e; rw [updS_eq]; exact hxv; rw [updS_ne e]; exact h.vwb s'⟩
  · by_cases e : s' = s
    · subst e
      rw [hg] at hg'
      cases hg'
      rw [updS_eq]
      exact hb
    · rw [updS_ne e]
      exact (h.slot s' b' hg').frm f (fun e2 => e (h.inj s' s b' hg' (e2 ▸ hg)))
  · rw [updS_ne (fun e => by rw [e, hg] at hg'; cases hg')]
    exact h.none s' hg'
/-- A slot is laid. -/
theorem IsLogG.new {w w' w'' : World} {lb mb N n : Nat} {low : Int} {g : Int → Option Nat} {σ : Int → Sl} (h : IsLogG w lb mb low N g σ) {s : Int} (hg : g s = Option.none) {b : Nat} (hb : w.heap.size ≤ b) (f : Frm (fun _ => False) w w') (hx : Blk w' b (slV sl0) TSl) (hn : n ≤ N + 1)
    (f' : Frm (· = mb) w' w'') (hm : IsMp TU32 w'' mb n (fOf (updI g s b))) : IsLogG w'' lb mb low (N + 1) (updI g s b) σ := by
  have h1 := h.quiet f
  have hml : mb < w.heap.size := by obtain ⟨_, _, hm⟩ := h.map; exact hm.lt
  refine ⟨h1.blk.frm f' (fun e => h.lm e.symm), ⟨n, hn, hm⟩, fun s' b' hg' => ?_, fun s' hg' => ?_, fun s' s2 b' h2 h3 => ?_, h.low0, h.vwb⟩
  · by_cases e : s' = s
    · subst e
      rw [updI_eq] at hg'
      cases hg'
      rw [h.none _ hg]
      exact hx.frm f' (fun e => by omega)
    · rw [updI_ne e] at hg'
      exact (h1.slot s' b' hg').frm f' (fun e2 => (h.sl hg').2 e2)
  · by_cases e : s' = s
    · subst e; rw [updI_eq] at hg'; cases hg'
    · rw [updI_ne e] at hg'
      exact h.none s' hg'
  · have old : ∀ i k, g i = some k → k < b := fun i k hi => Nat.lt_of_lt_of_le (h.slot i k hi).lt hb
    by_cases e1 : s' = s
    · by_cases e2 : s2 = s
      · rw [e1, e2]
      · subst e1
        rw [updI_eq] at h2
        rw [updI_ne e2] at h3
        cases h2
        exact absurd (old _ _ h3) (Nat.lt_irrefl _)
    · rw [updI_ne e1] at h2
      by_cases e2 : s2 = s
      · subst e2
        rw [updI_eq] at h3
        cases h3
        exact absurd (old _ _ h2) (Nat.lt_irrefl _)
      · rw [updI_ne e2] at h3
        exact h.inj _ _ _ h2 h3
theorem wf32 {s : Int} (h : 0 ≤ s ∧ s ≤ 4294967295) : (Lit.int .u32 s).wf = true := by simp [Lit.wf, IntKind.min, IntKind.max, IntKind.bits, IntKind.signed]; omega
theorem key32 {s : Int} (h : 0 ≤ s ∧ s ≤ 4294967295) : keyOf Try.prog TU32 (.int .u32 s) = some (.int .u32 s) := Go.Maps.keyOf_int_mk Try.underlying22 (wf32 h)
theorem keyed32 : Go.Maps.Keyed Try.prog TU32 := Go.Maps.int_keyed Try.underlying22
abbrev TMs : Nat := 58
theorem u_map : Try.prog.underlying TMs = some (.map TU32 61) := Try.underlying58
theorem z_ptr (w : World) : (zeroValue 61).run Try.prog w = .ok (.pointer none) w := by kernel_rfl
theorem wrap32 {x : Int} (h : 0 ≤ x ∧ x ≤ 4294967295) : IntKind.u32.wrap x = x := by simp [IntKind.wrap, IntKind.bits, IntKind.signed]; omega
theorem In_calls {w : World} {lb mb N : Nat} {low : Int} {g : Int → Option Nat} {σ : Int → Sl} (h : IsLogG w lb mb low N g σ) (s : Int) (hs : 0 ≤ s ∧ s ≤ 4294967295) (z : Bool) (hz : inW low s = z) :
    Calls Try.prog 16 #[.pointer (some ⟨lb, 0, none⟩), .int .u32 s] w fun e w' => e = .returned (.bool z) ∧ w = w' := by
  have q0 := h.blk.cell 0
  simp only [List.getElem?_cons_zero] at q0
  obtain ⟨hl0, hl1⟩ := h.low0
  obtain ⟨hs0, hs1⟩ := hs
  unfold inW at hz
  clear h
  by_cases h1 : low < s
  · have e1 : IntKind.u32.wrap (s - low) = s - low := wrap32 ⟨by omega, by omega⟩
    by_cases h2 : s - low ≤ 8
    · rw [decide_eq_true ⟨h1, h2⟩] at hz
      subst hz
      go_enter Try.func16, Try.ntmps16
      go_wp2
      go_ret
      exact ⟨rfl, rfl⟩
    · rw [decide_eq_false (fun h => h2 h.2)] at hz
      subst hz
      go_enter Try.func16, Try.ntmps16
      go_wp2
      go_ret
      exact ⟨rfl, rfl⟩
  · rw [decide_eq_false (fun h => h1 h.1)] at hz
    subst hz
    go_enter Try.func16, Try.ntmps16
    go_wp2
    go_ret
    exact ⟨rfl, rfl⟩
theorem At_out {w : World} {lb mb N : Nat} {low : Int} {g : Int → Option Nat} {σ : Int → Sl} (h : IsLogG w lb mb low N g σ) (s : Int) (hs : 0 ≤ s ∧ s ≤ 4294967295) (hz : inW low s = false) :
    Calls Try.prog 29 #[.pointer (some ⟨lb, 0, none⟩), .int .u32 s] w fun e w' => e = .returned (.pointer none) ∧ w = w' := by
  have HE := hid h; have HS := hid hs; have HZ := hid hz; clear h hs hz
  go_enter Try.func29, Try.ntmps29
  go_wp2_with (first
    | (go_at_call 16; (with_reducible refine (In_calls HE.out s HS.out false HZ.out).mono ?_); rintro e w' ⟨rfl, rfl⟩; skip))
  go_ret
  exact ⟨rfl, rfl⟩
theorem At_have {w : World} {lb mb N : Nat} {low : Int} {g : Int → Option Nat} {σ : Int → Sl} (h : IsLogG w lb mb low N g σ) (s : Int) (hs : 0 ≤ s ∧ s ≤ 4294967295) (hz : inW low s = true) {b : Nat} (hg : g s = some b) :
    Calls Try.prog 29 #[.pointer (some ⟨lb, 0, none⟩), .int .u32 s] w fun e w' => e = .returned (.pointer (some ⟨b, 0, none⟩)) ∧ w = w' := by
  have q1 := h.blk.cell 1
  simp only [List.getElem?_cons_succ, List.getElem?_cons_zero] at q1
  obtain ⟨n, _, hm⟩ := h.map
  have q2 := hm.look_some keyed32 u_map (z_ptr w) (key32 hs) (fOf_some hg) false
  simp only [Bool.false_eq_true, if_false] at q2
  have HE := hid h; have HS := hid hs; have HZ := hid hz; clear h hs hz hm
  go_enter Try.func29, Try.ntmps29
  go_wp2_with (first
    | (go_at_call 16; (with_reducible refine (In_calls HE.out s HS.out true HZ.out).mono ?_); rintro e w' ⟨rfl, rfl⟩; skip))
  go_ret
  exact ⟨rfl, rfl⟩
theorem zeroSl (w : World) : (zeroValue TSl).run Try.prog w = .ok (.agg (slV sl0).toArray) w := by kernel_rfl
theorem At_new {w : World} {lb mb N : Nat} {low : Int} {g : Int → Option Nat} {σ : Int → Sl} (h : IsLogG w lb mb low N g σ) (hN : N < 100000) (s : Int) (hs : 0 ≤ s ∧ s ≤ 4294967295) (hz : inW low s = true) (hg : g s = none) :
    Calls Try.prog 29 #[.pointer (some ⟨lb, 0, none⟩), .int .u32 s] w fun e w' => e = .returned (.pointer (some ⟨w.heap.size, 0, none⟩)) ∧ IsLogG w' lb mb low (N + 1) (updI g s w.heap.size) σ ∧ Frm (· = mb) w w' := by
  have q1 := h.blk.cell 1
  simp only [List.getElem?_cons_succ, List.getElem?_cons_zero] at q1
  obtain ⟨n, hn, hm⟩ := h.map
  have q2 := hm.look_none keyed32 u_map (z_ptr w) (key32 hs) (fOf_none hg) false
  simp only [Bool.false_eq_true, if_false] at q2
  obtain ⟨Z, hZ⟩ : ∃ Z, (slV sl0).toArray = Z := ⟨_, rfl⟩
  have hzz := zeroSl
  rw [hZ] at hzz
  have HZZ := hid hZ; clear hZ
  have HB := hid (show Blk (w.alloc (.cells Z TSl)) w.heap.size (slV sl0) TSl from HZZ.out ▸ Blk.new w (slV sl0) TSl)
  have HE := hid h; have HS := hid hs; have HZ := hid hz; have HM := hid hm; have HNN := hid hn; have HG := hid hg; have HN := hid hN; clear h hs hz hm hn hg hN
  have HMA := hid (HM.out.frm (frm_box w (.cells Z TSl)) (fun h => h))
  have HMS := hid (fOf_none HG.out)
  go_enter Try.func29, Try.ntmps29
  go_wp2_with (first
    | (go_at_call 16; (with_reducible refine (In_calls HE.out s HS.out true HZ.out).mono ?_); rintro e w' ⟨rfl, rfl⟩; skip)
    | (at_mapUpdate; refine wpList_mp_upd rfl _ _ _ rfl HMA.out keyed32 u_map (by have := HN.out; have := HNN.out; omega) _ _ _ (key32 HS.out) (fOf_upd _ _ _) rfl rfl rfl ?_; rw [if_pos HMS.out]; intro w2 hm2 hf2 hs2; have HL := hid (HE.out.new HG.out (Nat.le_refl _) (frm_box w _) HB.out (by have := HNN.out; omega) hf2 hm2); have HF := hid (((frm_box w _).mono (S' := (· = mb)) (fun _ _ h => h.elim)).trans hf2); have q3 := HL.out.blk.cell 1; (simp only [List.getElem?_cons_succ, List.getElem?_cons_zero] at q3); have q4 := hm2.look_some keyed32 u_map (z_ptr w2) (key32 HS.out) (fOf_some (updI_eq _ _ _)) false; (simp only [Bool.false_eq_true, if_false] at q4); clear hm2 hf2 hs2))
  go_ret
  exact ⟨rfl, HL.out, HF.out⟩
theorem At_calls {w : World} {lb mb N : Nat} {low : Int} {g : Int → Option Nat} {σ : Int → Sl} (h : IsLogG w lb mb low N g σ) (hN : N < 100000) (s : Int) (hs : 0 ≤ s ∧ s ≤ 4294967295) (hz : inW low s = true) :
    Calls Try.prog 29 #[.pointer (some ⟨lb, 0, none⟩), .int .u32 s] w fun e w' => ∃ b g', e = .returned (.pointer (some ⟨b, 0, none⟩)) ∧ IsLogG w' lb mb low (N + 1) g' σ ∧ g' s = some b ∧ Frm (· = mb) w w' ∧ ∀ k, Own lb mb g' k → Own lb mb g k ∨ w.heap.size ≤ k := by
  cases hg : g s with
  | some b =>
    refine (At_have h s hs hz hg).mono ?_
    rintro e w' ⟨rfl, rfl⟩
    exact ⟨b, g, rfl, h.more (by omega), hg, Frm.refl _ _, fun k hk => .inl hk⟩
  | none =>
    refine (At_new h hN s hs hz hg).mono ?_
    rintro e w' ⟨rfl, hl, f⟩
    refine ⟨_, _, rfl, hl, updI_eq _ _ _, f, fun k hk => ?_⟩
    rcases hk with hk | hk | ⟨i, hi⟩
    · exact .inl (.inl hk)
    · exact .inl (.inr (.inl hk))
    · by_cases e : i = s
      · subst e; rw [updI_eq] at hi; cases hi; exact .inr (Nat.le_refl _)
      · rw [updI_ne e] at hi; exact .inl (.inr (.inr ⟨i, hi⟩))
end Go.Proofs.Ytijomhinfcahpaa
