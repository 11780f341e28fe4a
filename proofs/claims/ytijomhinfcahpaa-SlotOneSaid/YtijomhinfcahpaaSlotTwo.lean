/- Two logs side by side. -/
import Derived.Test.YtijomhinfcahpaaSlotOneP
namespace Go.Proofs.Ytijomhinfcahpaa
open Go.RowKit Go.ChangeShapes
set_option linter.unusedVariables false
set_option linter.unusedSimpArgs false
theorem Own.lt {w : World} {lb mb N : Nat} {low : Int} {g : Int → Option Nat} {σ : Int → Sl} (h : IsLogG w lb mb low N g σ) {k : Nat} (hk : Own lb mb g k) : k < w.heap.size := by
  rcases hk with rfl | rfl | ⟨s, hs⟩
  · exact h.blk.lt
  · exact map_lt h
  · exact (h.slot s k hs).lt
/-- Two logs, no block of both. -/
def Two (w : World) (B lx ly N : Nat) (σ τ : Int → Sl) : Prop := ∃ mx gx my gy, IsLogG w lx mx 0 N gx σ ∧ IsLogG w ly my 0 N gy τ ∧ (∀ k, Own lx mx gx k → ¬ Own ly my gy k) ∧ (∀ k, Own lx mx gx k → B ≤ k) ∧ (∀ k, Own ly my gy k → B ≤ k) ∧ B ≤ w.heap.size
theorem Two.swap {w : World} {B lx ly N : Nat} {σ τ : Int → Sl} (h : Two w B lx ly N σ τ) : Two w B ly lx N τ σ := by
  obtain ⟨mx, gx, my, gy, hx, hy, hd, h1, h2, hb⟩ := h
  exact ⟨my, gy, mx, gx, hy, hx, fun k hk hk2 => hd k hk2 hk, h2, h1, hb⟩
theorem Two.frm {S : Nat → Prop} {w w' : World} {B lx ly N : Nat} {σ τ : Int → Sl} (h : Two w B lx ly N σ τ) (f : Frm S w w') (hs : ∀ k, B ≤ k → ¬ S k) : Two w' B lx ly N σ τ := by
  obtain ⟨mx, gx, my, gy, hx, hy, hd, h1, h2, hb⟩ := h
  exact ⟨mx, gx, my, gy, hx.frm f (fun k hk => hs k (h1 k hk)), hy.frm f (fun k hk => hs k (h2 k hk)), hd, h1, h2, Nat.le_trans hb f.size⟩
theorem Two.quiet {w w' : World} {B lx ly N : Nat} {σ τ : Int → Sl} (h : Two w B lx ly N σ τ) (f : Frm (fun _ => False) w w') : Two w' B lx ly N σ τ := h.frm f (fun _ _ h => h)
theorem Two.cast {w : World} {B lx ly N N' : Nat} {σ τ σ' τ' : Int → Sl} (h : Two w B lx ly N σ τ) (hN : N ≤ N') (e : σ = σ') (e2 : τ = τ') : Two w B lx ly N' σ' τ' := by
  subst e e2
  obtain ⟨mx, gx, my, gy, hx, hy, r⟩ := h
  exact ⟨mx, gx, my, gy, hx.more hN, hy.more hN, r⟩
theorem Two.step {w w' : World} {B lx ly N mx my : Nat} {σ σ' τ : Int → Sl} {gx gy g' : Int → Option Nat} (hx : IsLogG w lx mx 0 N gx σ) (hy : IsLogG w ly my 0 N gy τ) (hd : ∀ k, Own lx mx gx k → ¬ Own ly my gy k) (h1 : ∀ k, Own lx mx gx k → B ≤ k) (h2 : ∀ k, Own ly my gy k → B ≤ k) (hb : B ≤ w.heap.size)
    (h' : IsLogG w' lx mx 0 (N + 1) g' σ') (f : Frm (Own lx mx gx) w w') (ho : ∀ k, Own lx mx g' k → Own lx mx gx k ∨ w.heap.size ≤ k) : Two w' B lx ly (N + 1) σ' τ ∧ LF B w w' := by
  refine ⟨⟨mx, g', my, gy, h', (hy.frm f (fun k hk hk2 => hd k hk2 hk)).more (by omega), fun k hk hk2 => ?_, fun k hk => ?_, h2, Nat.le_trans hb f.size⟩, LF.of_own hx h1 f⟩
  · rcases ho k hk with h | h
    · exact hd k h hk2
    · have := Own.lt hy hk2; omega
  · rcases ho k hk with h | h
    · exact h1 k h
    · omega
theorem Two.of {w w1 w2 : World} {B lx ly mx my : Nat} (hB : B ≤ w.heap.size) (hx : IsLogG w1 lx mx 0 0 (fun _ => none) (fun _ => sl0)) (hlx : w.heap.size ≤ lx) (hmx : w.heap.size ≤ mx) (f : Below w1.heap.size w1 w2) (hy : IsLogG w2 ly my 0 0 (fun _ => none) (fun _ => sl0)) (hly : w1.heap.size ≤ ly) (hmy : w1.heap.size ≤ my) (hs : w.heap.size ≤ w1.heap.size) : Two w2 B lx ly 0 (fun _ => sl0) (fun _ => sl0) := by
  have hlt : ∀ k, Own lx mx (fun _ => none) k → k < w1.heap.size := fun k hk => Own.lt hx hk
  refine ⟨mx, _, my, _, hx.quiet (frm0_of f), hy, fun k hk hk2 => ?_, fun k hk => ?_, fun k hk => ?_, ?_⟩
  · have h1 := hlt k hk
    rcases hk2 with rfl | rfl | ⟨s, h⟩
    · omega
    · omega
    · cases h
  · rcases hk with rfl | rfl | ⟨s, h⟩
    · omega
    · omega
    · cases h
  · rcases hk with rfl | rfl | ⟨s, h⟩
    · omega
    · omega
    · cases h
  · have := f.size; omega
theorem T_acc {w : World} {B lx ly N : Nat} {τ : Int → Sl} (h : Two w B lx ly N (fun _ => sl0) τ) (hN : N < 100000) (view s c t k y v : Int) (hvw : 0 ≤ view ∧ view ≤ 4294967295) (hs : 1 ≤ s ∧ s ≤ 8) (a : Sl) (ha : sl0.accept ⟨true, view, c, t, k, y, v⟩ = a) :
    Calls Try.prog 10 #[.pointer (some ⟨lx, 0, none⟩), .int .u32 view, .int .u32 s, .agg #[.int .u8 c, .int .u32 t, .int .u8 k, .int .u8 y, .int .u16 v]] w fun e w' => e = .returned (.int .i64 0) ∧ Two w' B lx ly (N + 1) (one s a) τ ∧ LF B w w' := by
  subst ha
  have hin : inW 0 s = true := decide_eq_true ⟨by omega, by omega⟩
  have ht : taken sl0.acc view c t k y v = false := rfl
  obtain ⟨mx, gx, my, gy, hx, hy, hd, h1, h2, hb⟩ := h
  refine (Accept_in hx hN view s c t k y v hvw ⟨by omega, by omega⟩ hin 0 (if_neg (by rw [ht]; decide))).mono ?_
  rintro e w' ⟨g', rfl, h', f, ho⟩
  rw [if_neg (by rw [ht]; decide)] at h'
  exact ⟨rfl, Two.step hx hy hd h1 h2 hb h' f ho⟩
theorem T_Prepare {w : World} {B lx ly N : Nat} {a : Sl} {s : Int} {τ : Int → Sl} (h : Two w B lx ly N (one s a) τ) (hN : N < 100000) (i : Nat) (hi : i < 4) (from_ : Int) (hfr : from_ = i) (view c t k y v : Int) (hs : 1 ≤ s ∧ s ≤ 8) (ho : old (a.get (0 + i)) view = false) (a' : Sl) (ha : a.put (0 + i) ⟨true, view, c, t, k, y, v⟩ = a') :
    Calls Try.prog 11 #[.pointer (some ⟨lx, 0, none⟩), .int .u8 from_, .int .u32 view, .int .u32 s, .agg #[.int .u8 c, .int .u32 t, .int .u8 k, .int .u8 y, .int .u16 v]] w fun e w' => e = .returned (.int .i64 0) ∧ Two w' B lx ly (N + 1) (one s a') τ ∧ LF B w w' := by
  subst ha
  have hin : inW 0 s = true := decide_eq_true ⟨by omega, by omega⟩
  obtain ⟨mx, gx, my, gy, hx, hy, hd, h1, h2, hb⟩ := h
  refine (Prepare_in hx hN i hi from_ hfr view s c t k y v ⟨by omega, by omega⟩ hin 0 (by rw [one_at, oldC_new ho])).mono ?_
  rintro e w' ⟨g', rfl, h', f, ho2⟩
  rw [one_at, sayX_new ho, one_upd] at h'
  exact ⟨rfl, Two.step hx hy hd h1 h2 hb h' f ho2⟩
theorem T_Commit {w : World} {B lx ly N : Nat} {a : Sl} {s : Int} {τ : Int → Sl} (h : Two w B lx ly N (one s a) τ) (hN : N < 100000) (i : Nat) (hi : i < 4) (from_ : Int) (hfr : from_ = i) (view c t k y v : Int) (hs : 1 ≤ s ∧ s ≤ 8) (ho : old (a.get (4 + i)) view = false) (a' : Sl) (ha : a.put (4 + i) ⟨true, view, c, t, k, y, v⟩ = a') :
    Calls Try.prog 12 #[.pointer (some ⟨lx, 0, none⟩), .int .u8 from_, .int .u32 view, .int .u32 s, .agg #[.int .u8 c, .int .u32 t, .int .u8 k, .int .u8 y, .int .u16 v]] w fun e w' => e = .returned (.int .i64 0) ∧ Two w' B lx ly (N + 1) (one s a') τ ∧ LF B w w' := by
  subst ha
  have hin : inW 0 s = true := decide_eq_true ⟨by omega, by omega⟩
  obtain ⟨mx, gx, my, gy, hx, hy, hd, h1, h2, hb⟩ := h
  refine (Commit_in hx hN i hi from_ hfr view s c t k y v ⟨by omega, by omega⟩ hin 0 (by rw [one_at, oldC_new ho])).mono ?_
  rintro e w' ⟨g', rfl, h', f, ho2⟩
  rw [one_at, sayX_new ho, one_upd] at h'
  exact ⟨rfl, Two.step hx hy hd h1 h2 hb h' f ho2⟩
theorem T_Committed_false {w : World} {B lx ly N : Nat} {σ τ : Int → Sl} (h : Two w B lx ly N σ τ) (s : Int) (hs : 0 ≤ s ∧ s ≤ 4294967295) (hz : toldS 0 σ comS s = false) :
    Calls Try.prog 13 #[.pointer (some ⟨lx, 0, none⟩), .int .u32 s] w fun e w' => e = .returned (.tuple #[.agg #[.int .u32 0, .int .u32 0, .int .u8 0, .int .u32 0, .int .u8 0, .int .u8 0, .int .u16 0], .bool false]) ∧ Frm (fun _ => False) w w' := by
  obtain ⟨mx, gx, my, gy, hx, hy, hd, h1, h2, hb⟩ := h
  exact Committed_false hx s hs hz
theorem T_Committed_true {w : World} {B lx ly N : Nat} {σ τ : Int → Sl} (h : Two w B lx ly N σ τ) (s : Int) (hs : 0 ≤ s ∧ s ≤ 4294967295) (hz : toldS 0 σ comS s = true) :
    Calls Try.prog 13 #[.pointer (some ⟨lx, 0, none⟩), .int .u32 s] w fun e w' => e = .returned (.tuple #[.agg #[.int .u32 s, .int .u32 (σ s).acc.vw, .int .u8 (σ s).acc.c, .int .u32 (σ s).acc.t, .int .u8 (σ s).acc.k, .int .u8 (σ s).acc.y, .int .u16 (σ s).acc.v], .bool true]) ∧ Frm (fun _ => False) w w' := by
  obtain ⟨mx, gx, my, gy, hx, hy, hd, h1, h2, hb⟩ := h
  exact Committed_true hx s hs hz
theorem eql_rq (w : World) (c t k y v c' t' k' y' v' : Int) (z : Bool) (hz : (c == c' && (t == t' && (k == k' && (y == y' && v == v')))) = z) : (binOp .eql TRq (.agg #[.int .u8 c, .int .u32 t, .int .u8 k, .int .u8 y, .int .u16 v]) (.agg #[.int .u8 c', .int .u32 t', .int .u8 k', .int .u8 y', .int .u16 v'])).run Try.prog w = .ok (.bool z) w := by
  subst hz
  go_simp
  repeat' split
  all_goals simp_all
theorem Blk.at2 (w : World) (P Q : List Value) (T : Nat) : Blk ((w.alloc (.cells P.toArray T)).alloc (.cells Q.toArray T)) (w.heap.size + 1) Q T := by
  have := Blk.new (w.alloc (.cells P.toArray T)) Q T
  rwa [World.size_alloc] at this
theorem two_boxes (w : World) (o o' : Obj) : Frm (fun _ => False) w ((w.alloc o).alloc o').drew := (((Frm.refl _ _).alloc o).alloc o').drew
end Go.Proofs.Ytijomhinfcahpaa
