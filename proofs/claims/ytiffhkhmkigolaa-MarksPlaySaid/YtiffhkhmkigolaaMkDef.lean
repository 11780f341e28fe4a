/- Marks: the object, New, sets. -/
import Derived.Test.YtiffhkhmkigolaaMkSort2
import Derived.Test.YtiffhkhmkigolaaMapF
import Derived.Test.YtiffhkhmkigolaaArgs
import Derived.DeepKeys4
import Derived.Laws.StructEq
namespace Go.Proofs.Ytiffhkhmkigolaa
open Go.RowKit Go.ChangeShapes
set_option linter.unusedVariables false
set_option linter.unusedSimpArgs false
set_option maxRecDepth 100000
abbrev TMs : Nat := 53
abbrev TMm : Nat := 51
abbrev TB4 : Nat := 59
theorem laid_mk : laidOutB Try.prog = true := by kernel_rfl
theorem row_mk : TMk < Try.prog.types.size := of_decide_eq_true (by kernel_rfl)
theorem wide_mk : (match Try.prog.underlying TMk with | some (.array _ _) | some (.struct _) => true | _ => false) = true := by rw [Try.underlying30]
theorem keyedMk : Go.Maps.Keyed Try.prog TMk := Go.Maps.Keyed.of_law (deep_law_laid laid_mk (m := 3) (by omega) row_mk (by kernel_rfl) wide_mk)
theorem kt_mk : Try.prog.keyType TMk = true := by kernel_rfl
theorem cells_mk : Try.prog.cellsOf TMk = 2 := by kernel_rfl
theorem cells_32 : Try.prog.cellsOf 26 = 1 := by kernel_rfl
theorem cells_64 : Try.prog.cellsOf 28 = 1 := by kernel_rfl
theorem wf32k {x : Int} (h : 0 ≤ x ∧ x ≤ 4294967295) : (Lit.int .u32 x).wf = true := by simp [Lit.wf, IntKind.min, IntKind.max, IntKind.bits, IntKind.signed]; omega
theorem wf64k {x : Int} (h : 0 ≤ x ∧ x ≤ 18446744073709551615) : (Lit.int .u64 x).wf = true := by simp [Lit.wf, IntKind.min, IntKind.max, IntKind.bits, IntKind.signed]; omega
/-- A mark's numbers are numbers of their kinds. -/
def okK (m : Mk) : Prop := (0 ≤ m.1 ∧ m.1 ≤ 4294967295) ∧ (0 ≤ m.2 ∧ m.2 ≤ 18446744073709551615)
theorem keyMk (m : Mk) (h : okK m) : ∃ kl, keyOf Try.prog TMk (mkV m) = some kl := by
  obtain ⟨k, hm⟩ : ∃ k, Try.prog.types.size + 1 = k + 3 := ⟨Try.prog.types.size - 2, by have h2 : 2 ≤ Try.prog.types.size := of_decide_eq_true (by kernel_rfl); omega⟩
  unfold keyOf
  simp only [Try.underlying30]
  rw [if_pos (by simp [kt_mk, mkV, Value.formed, Try.underlying30, cells_mk]), hm]
  have w1 := wf32k h.1
  have w2 := wf64k h.2
  obtain ⟨s, r⟩ := m
  dsimp only at w1 w2
  unfold Program.keyLits
  simp only [Try.underlying30, mkV, Value.cells]
  rw [if_pos ⟨by rw [cells_mk]; rfl, by kernel_rfl⟩]
  have h32 : Try.prog.keyLits (k + 2) 26 [.int .u32 s] = some [.int .u32 s] := by unfold Program.keyLits; simp [Try.underlying26, w1]
  have h64 : Try.prog.keyLits (k + 2) 28 [.int .u64 r] = some [.int .u64 r] := by unfold Program.keyLits; simp [Try.underlying28, w2]
  simp [h32, h64, cells_32, cells_64, List.mapM_cons, List.mapM_nil]
theorem u_mm : Try.prog.underlying TMm = some (.map TMk TB4) := Try.underlying51
theorem z_b4 (w : World) : (zeroValue TB4).run Try.prog w = .ok (.agg #[.bool false, .bool false, .bool false, .bool false]) w := by kernel_rfl
theorem upd_ex (f : Value → Option Value) (key : Value) (r : Option Value) : ∃ f', IsUpd f f' key r := by
  classical exact ⟨fun x => if x = key then r else f x, if_pos rfl, fun x hx => if_neg hx⟩
theorem mkV_inj {m m' : Mk} (h : mkV m = mkV m') : m = m' := by
  obtain ⟨a, b⟩ := m
  obtain ⟨c, d⟩ := m'
  simp [mkV] at h
  rw [h.1, h.2]
/-- Who has which. -/
abbrev Has : Type := Mk → Nat → Bool
def bits (b : Nat → Bool) : List Value := [.bool (b 0), .bool (b 1), .bool (b 2), .bool (b 3)]
def b4V (b : Nat → Bool) : Value := .agg #[.bool (b 0), .bool (b 1), .bool (b 2), .bool (b 3)]
def anyB (b : Nat → Bool) : Bool := b 0 || (b 1 || (b 2 || b 3))
theorem anyB_no {b : Nat → Bool} (h : anyB b = false) : b 0 = false ∧ b 1 = false ∧ b 2 = false ∧ b 3 = false := by simpa [anyB, Bool.or_eq_false_iff] using h
/-- The map of marks, as a map of values. -/
def fM (σ : Has) : Value → Option Value
  | .agg ⟨[.int .u32 s, .int .u64 r]⟩ => if anyB (σ (s, r)) = true then some (b4V (σ (s, r))) else none
  | _ => none
theorem fM_at (σ : Has) (m : Mk) : fM σ (mkV m) = if anyB (σ m) = true then some (b4V (σ m)) else none := rfl
theorem fM_inv {σ : Has} {key v : Value} (h : fM σ key = some v) : ∃ m, key = mkV m ∧ v = b4V (σ m) ∧ anyB (σ m) = true := by
  unfold fM at h
  split at h
  · rename_i s r
    split at h
    · rename_i ha
      exact ⟨(s, r), rfl, (Option.some.inj h).symm, ha⟩
    · cases h
  · cases h
def updM (σ : Has) (k : Mk) (i : Nat) (has : Bool) : Has := fun m j => if m = k ∧ j = i then has else σ m j
theorem updM_at (σ : Has) (k : Mk) (i : Nat) (has : Bool) (j : Nat) : updM σ k i has k j = if j = i then has else σ k j := by
  unfold updM
  by_cases h : j = i
  · rw [if_pos ⟨rfl, h⟩, if_pos h]
  · rw [if_neg (fun e => h e.2), if_neg h]
theorem updM_ne (σ : Has) (k : Mk) (i : Nat) (has : Bool) {m : Mk} (h : m ≠ k) : updM σ k i has m = σ m := by
  funext j; unfold updM; rw [if_neg (fun e => h e.1)]
theorem fM_ne {σ : Has} {k : Mk} {i : Nat} {has : Bool} {x : Value} (h : x ≠ mkV k) : fM (updM σ k i has) x = fM σ x := by
  unfold fM
  split
  · rename_i s r
    rw [updM_ne σ k i has (fun e => h (by rw [← e]))]
  · rfl
theorem fM_upd (σ : Has) (k : Mk) (i : Nat) (has : Bool) (h : anyB (updM σ k i has k) = true) : IsUpd (fM σ) (fM (updM σ k i has)) (mkV k) (some (b4V (updM σ k i has k))) :=
  ⟨by rw [fM_at, if_pos h], fun x hx => fM_ne hx⟩
theorem fM_del {σ : Has} {k : Mk} {i : Nat} {has : Bool} (h : anyB (updM σ k i has k) = false) {f1 : Value → Option Value} {r : Option Value} (h1 : IsUpd (fM σ) f1 (mkV k) r) : IsUpd f1 (fM (updM σ k i has)) (mkV k) none :=
  ⟨by rw [fM_at, if_neg (by rw [h]; decide)], fun x hx => (fM_ne hx).trans (h1.ne x hx).symm⟩
/-- The marks at lb. -/
structure IsMk (w : World) (lb mb N : Nat) (σ : Has) : Prop where
  blk : Blk w lb [.map (some mb)] TMs
  map : ∃ n, n ≤ N ∧ IsMp TMk w mb n (fM σ)
def Two (lb mb : Nat) (k : Nat) : Prop := k = lb ∨ k = mb
theorem IsMk.frm {S : Nat → Prop} {w w' : World} {lb mb N : Nat} {σ : Has} (h : IsMk w lb mb N σ) (f : Frm S w w') (hs : ∀ k, Two lb mb k → ¬ S k) : IsMk w' lb mb N σ :=
  ⟨h.blk.frm f (hs _ (.inl rfl)), by obtain ⟨n, hn, hm⟩ := h.map; exact ⟨n, hn, hm.frm f (hs _ (.inr rfl))⟩⟩
theorem IsMk.quiet {w w' : World} {lb mb N : Nat} {σ : Has} (h : IsMk w lb mb N σ) (f : Frm (fun _ => False) w w') : IsMk w' lb mb N σ := h.frm f (fun _ _ h => h)
theorem IsMk.more {w : World} {lb mb N N' : Nat} {σ : Has} (h : IsMk w lb mb N σ) (hN : N ≤ N') : IsMk w lb mb N' σ := ⟨h.blk, by obtain ⟨n, hn, hm⟩ := h.map; exact ⟨n, by omega, hm⟩⟩
theorem IsMk.lm {w : World} {lb mb N : Nat} {σ : Has} (h : IsMk w lb mb N σ) : mb ≠ lb := by obtain ⟨n, _, hm⟩ := h.map; exact hm.not_blk h.blk
theorem IsMk.lt {w : World} {lb mb N : Nat} {σ : Has} (h : IsMk w lb mb N σ) : lb < w.heap.size ∧ mb < w.heap.size := ⟨h.blk.lt, by obtain ⟨n, _, hm⟩ := h.map; exact hm.lt⟩
theorem IsMk.cell {w : World} {lb mb N : Nat} {σ : Has} (h : IsMk w lb mb N σ) : w.cell? ⟨lb, 0, none⟩ = some (.map (some mb)) := by rw [h.blk.cell 0]; rfl
/-- What is looked up. -/
theorem IsMk.look {w : World} {lb mb N : Nat} {σ : Has} (h : IsMk w lb mb N σ) (m : Mk) (hm : okK m) : (Instr.lookup TMm (.map (some mb)) (mkV m) false).run Try.prog w = .ok (b4V (σ m)) w := by
  obtain ⟨n, _, hp⟩ := h.map
  obtain ⟨kl, hk⟩ := keyMk m hm
  cases ha : anyB (σ m)
  · have q := hp.look_none keyedMk u_mm (z_b4 w) hk (by rw [fM_at, if_neg (by rw [ha]; decide)]) false
    simp only [Bool.false_eq_true, if_false] at q
    rw [q]
    obtain ⟨h0, h1, h2, h3⟩ := anyB_no ha
    unfold b4V; rw [h0, h1, h2, h3]
  · have q := hp.look_some keyedMk u_mm (z_b4 w) hk (by rw [fM_at, if_pos ha]) false
    simp only [Bool.false_eq_true, if_false] at q
    exact q
def has0 : Has := fun _ _ => false
theorem fM_zero : fM has0 = fun _ => none := by
  funext x
  unfold fM
  split
  · rfl
  · rfl
theorem MNew_calls (w : World) : Calls Try.prog 8 #[] w fun e w' => e = .returned (.pointer (some ⟨w.heap.size + 1, 0, none⟩)) ∧ IsMk w' (w.heap.size + 1) w.heap.size 0 has0 ∧ Frm (fun _ => False) w w' := by
  have hmm := @run_makeMap Try.prog
  have HM := hid (IsMp.made TMk w)
  go_enter Try.func8, Try.ntmps8
  go_wp2
  go_ret
  have hb : Blk ((w.alloc (.map #[] 0)).alloc (.cells #[.map (some w.heap.size)] TMs)) (w.heap.size + 1) [.map (some w.heap.size)] TMs := by
    have := Blk.new (w.alloc (.map #[] 0)) [.map (some w.heap.size)] TMs
    rwa [World.size_alloc] at this
  refine ⟨rfl, ⟨hb, ⟨0, Nat.le_refl _, ?_⟩⟩, (mbox _ _).trans (mbox _ _)⟩
  rw [fM_zero]
  exact HM.out.frm (mbox _ _) (fun h => h)
end Go.Proofs.Ytiffhkhmkigolaa
