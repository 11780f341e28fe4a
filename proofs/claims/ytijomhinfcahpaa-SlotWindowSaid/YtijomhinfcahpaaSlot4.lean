/- The log within its window: Accept, Prepare, Commit. -/
import Derived.Test.YtijomhinfcahpaaSlot3
import Derived.Deep.RegionHeld3
namespace Go.Proofs.Ytijomhinfcahpaa
open Go.RowKit Go.ChangeShapes
set_option linter.unusedVariables false
set_option linter.unusedSimpArgs false
set_option maxRecDepth 20000
abbrev TRq : Nat := 27
theorem blk_ne {w : World} {b b' T T' : Nat} {cs cs' : List Value} (h : Blk w b cs T) (h' : Blk w b' cs' T') (hl : cs.length ≠ cs'.length) : b ≠ b' := by
  rintro rfl
  exact hl (by rw [(blk_one h h').1])
theorem slV_len (x : Sl) : (slV x).length = 63 := rfl
theorem put_acc (x : Sl) (q : Nat) (s : Sd) : (x.put q s).acc = x.acc := by unfold Sl.put; split <;> rfl
theorem sayX_acc (x : Sl) (q : Nat) (view c t k y v : Int) : (sayX x q view c t k y v).acc = x.acc := by unfold sayX; split; rfl; exact put_acc _ _ _
theorem own_of {lb mb : Nat} {g : Int → Option Nat} {s : Int} {b : Nat} (h : g s = some b) : Own lb mb g b := .inr (.inr ⟨s, h⟩)
theorem frm_own {w w1 w2 w3 : World} {lb mb b : Nat} {g g' : Int → Option Nat} {s : Int} (f0 : Frm (fun _ => False) w w1) (f1 : Frm (· = mb) w1 w2) (hg : g' s = some b) (ho : ∀ k, Own lb mb g' k → Own lb mb g k ∨ w.heap.size ≤ k) (f2 : Frm (· = b) w2 w3) : Frm (Own lb mb g) w w3 := by
  refine ((f0.mono (fun _ _ h => h.elim)).trans (f1.mono (S' := Own lb mb g) (fun k _ e => .inr (.inl e)))).trans' (f2) (fun i hi e => ?_)
  subst e
  rcases ho i (own_of hg) with h | h
  · exact h
  · omega
theorem frm_own0 {w w1 w2 : World} {lb mb : Nat} {g : Int → Option Nat} (f0 : Frm (fun _ => False) w w1) (f1 : Frm (· = mb) w1 w2) : Frm (Own lb mb g) w w2 :=
  (f0.mono (fun _ _ h => h.elim)).trans (f1.mono (S' := Own lb mb g) (fun k _ e => .inr (.inl e)))
theorem frm_q {S : Nat → Prop} {a b c : World} (h : Frm S a b) (f : Frm (fun _ => False) b c) : Frm S a c := h.trans (f.mono (fun _ _ h => h.elim))
theorem own_box {w : World} {o : Obj} {lb mb : Nat} {g g' : Int → Option Nat} (h : ∀ k, Own lb mb g' k → Own lb mb g k ∨ (w.alloc o).heap.size ≤ k) : ∀ k, Own lb mb g' k → Own lb mb g k ∨ w.heap.size ≤ k := fun k hk => (h k hk).imp id (fun h => by rw [World.size_alloc] at h; omega)
theorem frm_drew (w : World) : Frm (fun _ => False) w w.drew := (Frm.refl _ _).drew
theorem map_lt {w : World} {lb mb N : Nat} {low : Int} {g : Int → Option Nat} {σ : Int → Sl} (h : IsLogG w lb mb low N g σ) : mb < w.heap.size := by obtain ⟨_, _, hm⟩ := h.map; exact hm.lt
theorem Prepare_out {w : World} {lb mb N : Nat} {low : Int} {g : Int → Option Nat} {σ : Int → Sl} (h : IsLogG w lb mb low N g σ) (from_ view s c t k y v : Int) (hs : 0 ≤ s ∧ s ≤ 4294967295) (hz : inW low s = false) :
    Calls Try.prog 11 #[.pointer (some ⟨lb, 0, none⟩), .int .u8 from_, .int .u32 view, .int .u32 s, .agg #[.int .u8 c, .int .u32 t, .int .u8 k, .int .u8 y, .int .u16 v]] w fun e w' => e = .returned (.int .i64 120) ∧ Frm (fun _ => False) w w' := by
  have HE := hid (h.quiet (frm_box w (.cells #[.int .u8 c, .int .u32 t, .int .u8 k, .int .u8 y, .int .u16 v] TRq))); have HS := hid hs; have HZ := hid hz; clear h hs hz
  go_enter Try.func11, Try.ntmps11
  go_wp2_with (first
    | (go_at_call 29; (with_reducible refine (At_out HE.out s HS.out HZ.out).mono ?_); rintro e w' ⟨rfl, rfl⟩; skip))
  go_ret
  exact ⟨rfl, frm_box _ _⟩
theorem Prepare_far {w : World} {lb mb N : Nat} {low : Int} {g : Int → Option Nat} {σ : Int → Sl} (h : IsLogG w lb mb low N g σ) (hN : N < 100000) (from_ view s c t k y v : Int) (hf : 4 ≤ from_) (hs : 0 ≤ s ∧ s ≤ 4294967295) (hz : inW low s = true) :
    Calls Try.prog 11 #[.pointer (some ⟨lb, 0, none⟩), .int .u8 from_, .int .u32 view, .int .u32 s, .agg #[.int .u8 c, .int .u32 t, .int .u8 k, .int .u8 y, .int .u16 v]] w fun e w' => ∃ g', e = .returned (.int .i64 120) ∧ IsLogG w' lb mb low (N + 1) g' σ ∧ Frm (Own lb mb g) w w' ∧ ∀ k, Own lb mb g' k → Own lb mb g k ∨ w.heap.size ≤ k := by
  have HE := hid (h.quiet (frm_box w (.cells #[.int .u8 c, .int .u32 t, .int .u8 k, .int .u8 y, .int .u16 v] TRq))); have HS := hid hs; have HZ := hid hz; have HN := hid hN; clear h hs hz hN
  go_enter Try.func11, Try.ntmps11
  go_wp2_with (first
    | (go_at_call 29; (with_reducible refine (At_calls HE.out HN.out s HS.out HZ.out).mono ?_); rintro e w2 ⟨b, g', rfl, hl, hg, hf, ho⟩; have HL := hid hl; have HG := hid hg; have HF := hid hf; have HO := hid ho; clear hl hg hf ho))
  go_ret
  exact ⟨g', rfl, HL.out, frm_own0 (frm_box w _) HF.out, own_box HO.out⟩
set_option maxHeartbeats 2000000 in
theorem Prepare_in {w : World} {lb mb N : Nat} {low : Int} {g : Int → Option Nat} {σ : Int → Sl} (h : IsLogG w lb mb low N g σ) (hN : N < 100000) (i : Nat) (hi : i < 4) (from_ : Int) (hfr : from_ = i) (view s c t k y v : Int) (hs : 0 ≤ s ∧ s ≤ 4294967295) (hz : inW low s = true) (code : Int) (hc : oldC ((σ s).get (0 + i)) view = code) :
    Calls Try.prog 11 #[.pointer (some ⟨lb, 0, none⟩), .int .u8 from_, .int .u32 view, .int .u32 s, .agg #[.int .u8 c, .int .u32 t, .int .u8 k, .int .u8 y, .int .u16 v]] w fun e w' => ∃ g', e = .returned (.int .i64 code) ∧ IsLogG w' lb mb low (N + 1) g' (updS σ s (sayX (σ s) (0 + i) view c t k y v)) ∧ Frm (Own lb mb g) w w' ∧ ∀ k, Own lb mb g' k → Own lb mb g k ∨ w.heap.size ≤ k := by
  subst hfr
  have hi4 : (i : Int) < 4 := by omega
  have hi0 : 0 ≤ (i : Int) := by omega
  have HML := hid (map_lt h)
  have HE := hid (h.quiet (frm_box w (.cells #[.int .u8 c, .int .u32 t, .int .u8 k, .int .u8 y, .int .u16 v] TRq))); have HS := hid hs; have HZ := hid hz; have HN := hid hN; have HC := hid hc; have HI := hid hi; clear h hs hz hN hc hi
  have HQ := hid (Blk.new w [.int .u8 c, .int .u32 t, .int .u8 k, .int .u8 y, .int .u16 v] TRq)
  go_enter Try.func11, Try.ntmps11
  go_wp2_with (first
    | (go_at_call 29; (with_reducible refine (At_calls HE.out HN.out s HS.out HZ.out).mono ?_); rintro e w2 ⟨b, g', rfl, hl, hg, hf, ho⟩; have HL := hid hl; have HG := hid hg; have HF := hid hf; have HO := hid ho; clear hl hg hf ho))
  have HQ2 := hid (HQ.out.frm HF.out (fun e => by have := HML.out; omega)); clear HQ
  have q0 := HQ2.out.cell 0; have q1 := HQ2.out.cell 1; have q2 := HQ2.out.cell 2; have q3 := HQ2.out.cell 3; have q4 := HQ2.out.cell 4
  simp only [List.getElem?_cons_succ, List.getElem?_cons_zero] at q0 q1 q2 q3 q4
  have HNB := hid (blk_ne HQ2.out (HL.out.slot _ _ HG.out) (by rw [slV_len]; simp))
  have HHW := hid (Nat.le_refl w.heap.size)
  generalize hhw : w.heap.size = hw at *
  have HF2 := hid (frm_drew w2)
  go_region_held3 (fun wx => wx.cell? ⟨hw, 0, none⟩ = some (.int .u8 c) ∧ wx.cell? ⟨hw, 1, none⟩ = some (.int .u32 t) ∧ wx.cell? ⟨hw, 2, none⟩ = some (.int .u8 k) ∧ wx.cell? ⟨hw, 3, none⟩ = some (.int .u8 y) ∧ wx.cell? ⟨hw, 4, none⟩ = some (.int .u16 v)) (first | go_keep | exact ⟨r0, r1, r2, r3, r4⟩) ((go_at_call 30; (with_reducible refine (Says_calls _ ((HL.out.slot _ _ HG.out).frm (frm_drew _) (fun h => h)) (0 + i) i 7 (by have := HI.out; omega) (by have := HI.out; rw [if_pos (by omega)]) (by have := HI.out; omega) view c t k y v code HC.out).mono ?_); rintro e w3 ⟨rfl, h', f'⟩; have HX := hid h'; have HF3 := hid f'; clear h' f'; have HQ3 := hid ((HQ2.out.frm (frm_drew _) (fun h => h)).frm HF3.out HNB.out); have r0 := HQ3.out.cell 0; have r1 := HQ3.out.cell 1; have r2 := HQ3.out.cell 2; have r3 := HQ3.out.cell 3; have r4 := HQ3.out.cell 4; (simp only [List.getElem?_cons_succ, List.getElem?_cons_zero] at r0 r1 r2 r3 r4)))
  go_wp2
  go_ret
  exact ⟨g', rfl, (HL.out.quiet (frm_drew _)).set HG.out (by rw [sayX_acc]; exact HL.out.vwb s) HF3.out HX.out, frm_own (frm_box w _) HF.out HG.out (own_box HO.out) (((frm_drew _).mono (fun _ _ h => h.elim)).trans HF3.out), own_box HO.out⟩
theorem Commit_out {w : World} {lb mb N : Nat} {low : Int} {g : Int → Option Nat} {σ : Int → Sl} (h : IsLogG w lb mb low N g σ) (from_ view s c t k y v : Int) (hs : 0 ≤ s ∧ s ≤ 4294967295) (hz : inW low s = false) :
    Calls Try.prog 12 #[.pointer (some ⟨lb, 0, none⟩), .int .u8 from_, .int .u32 view, .int .u32 s, .agg #[.int .u8 c, .int .u32 t, .int .u8 k, .int .u8 y, .int .u16 v]] w fun e w' => e = .returned (.int .i64 120) ∧ Frm (fun _ => False) w w' := by
  have HE := hid (h.quiet (frm_box w (.cells #[.int .u8 c, .int .u32 t, .int .u8 k, .int .u8 y, .int .u16 v] TRq))); have HS := hid hs; have HZ := hid hz; clear h hs hz
  go_enter Try.func12, Try.ntmps12
  go_wp2_with (first
    | (go_at_call 29; (with_reducible refine (At_out HE.out s HS.out HZ.out).mono ?_); rintro e w' ⟨rfl, rfl⟩; skip))
  go_ret
  exact ⟨rfl, frm_box _ _⟩
theorem Commit_far {w : World} {lb mb N : Nat} {low : Int} {g : Int → Option Nat} {σ : Int → Sl} (h : IsLogG w lb mb low N g σ) (hN : N < 100000) (from_ view s c t k y v : Int) (hf : 4 ≤ from_) (hs : 0 ≤ s ∧ s ≤ 4294967295) (hz : inW low s = true) :
    Calls Try.prog 12 #[.pointer (some ⟨lb, 0, none⟩), .int .u8 from_, .int .u32 view, .int .u32 s, .agg #[.int .u8 c, .int .u32 t, .int .u8 k, .int .u8 y, .int .u16 v]] w fun e w' => ∃ g', e = .returned (.int .i64 120) ∧ IsLogG w' lb mb low (N + 1) g' σ ∧ Frm (Own lb mb g) w w' ∧ ∀ k, Own lb mb g' k → Own lb mb g k ∨ w.heap.size ≤ k := by
  have HE := hid (h.quiet (frm_box w (.cells #[.int .u8 c, .int .u32 t, .int .u8 k, .int .u8 y, .int .u16 v] TRq))); have HS := hid hs; have HZ := hid hz; have HN := hid hN; clear h hs hz hN
  go_enter Try.func12, Try.ntmps12
  go_wp2_with (first
    | (go_at_call 29; (with_reducible refine (At_calls HE.out HN.out s HS.out HZ.out).mono ?_); rintro e w2 ⟨b, g', rfl, hl, hg, hf, ho⟩; have HL := hid hl; have HG := hid hg; have HF := hid hf; have HO := hid ho; clear hl hg hf ho))
  go_ret
  exact ⟨g', rfl, HL.out, frm_own0 (frm_box w _) HF.out, own_box HO.out⟩
set_option maxHeartbeats 2000000 in
theorem Commit_in {w : World} {lb mb N : Nat} {low : Int} {g : Int → Option Nat} {σ : Int → Sl} (h : IsLogG w lb mb low N g σ) (hN : N < 100000) (i : Nat) (hi : i < 4) (from_ : Int) (hfr : from_ = i) (view s c t k y v : Int) (hs : 0 ≤ s ∧ s ≤ 4294967295) (hz : inW low s = true) (code : Int) (hc : oldC ((σ s).get (4 + i)) view = code) :
    Calls Try.prog 12 #[.pointer (some ⟨lb, 0, none⟩), .int .u8 from_, .int .u32 view, .int .u32 s, .agg #[.int .u8 c, .int .u32 t, .int .u8 k, .int .u8 y, .int .u16 v]] w fun e w' => ∃ g', e = .returned (.int .i64 code) ∧ IsLogG w' lb mb low (N + 1) g' (updS σ s (sayX (σ s) (4 + i) view c t k y v)) ∧ Frm (Own lb mb g) w w' ∧ ∀ k, Own lb mb g' k → Own lb mb g k ∨ w.heap.size ≤ k := by
  subst hfr
  have hi4 : (i : Int) < 4 := by omega
  have hi0 : 0 ≤ (i : Int) := by omega
  have HML := hid (map_lt h)
  have HE := hid (h.quiet (frm_box w (.cells #[.int .u8 c, .int .u32 t, .int .u8 k, .int .u8 y, .int .u16 v] TRq))); have HS := hid hs; have HZ := hid hz; have HN := hid hN; have HC := hid hc; have HI := hid hi; clear h hs hz hN hc hi
  have HQ := hid (Blk.new w [.int .u8 c, .int .u32 t, .int .u8 k, .int .u8 y, .int .u16 v] TRq)
  go_enter Try.func12, Try.ntmps12
  go_wp2_with (first
    | (go_at_call 29; (with_reducible refine (At_calls HE.out HN.out s HS.out HZ.out).mono ?_); rintro e w2 ⟨b, g', rfl, hl, hg, hf, ho⟩; have HL := hid hl; have HG := hid hg; have HF := hid hf; have HO := hid ho; clear hl hg hf ho))
  have HQ2 := hid (HQ.out.frm HF.out (fun e => by have := HML.out; omega)); clear HQ
  have q0 := HQ2.out.cell 0; have q1 := HQ2.out.cell 1; have q2 := HQ2.out.cell 2; have q3 := HQ2.out.cell 3; have q4 := HQ2.out.cell 4
  simp only [List.getElem?_cons_succ, List.getElem?_cons_zero] at q0 q1 q2 q3 q4
  have HNB := hid (blk_ne HQ2.out (HL.out.slot _ _ HG.out) (by rw [slV_len]; simp))
  have HHW := hid (Nat.le_refl w.heap.size)
  generalize hhw : w.heap.size = hw at *
  have HF2 := hid (frm_drew w2)
  go_region_held3 (fun wx => wx.cell? ⟨hw, 0, none⟩ = some (.int .u8 c) ∧ wx.cell? ⟨hw, 1, none⟩ = some (.int .u32 t) ∧ wx.cell? ⟨hw, 2, none⟩ = some (.int .u8 k) ∧ wx.cell? ⟨hw, 3, none⟩ = some (.int .u8 y) ∧ wx.cell? ⟨hw, 4, none⟩ = some (.int .u16 v)) (first | go_keep | exact ⟨r0, r1, r2, r3, r4⟩) ((go_at_call 30; (with_reducible refine (Says_calls _ ((HL.out.slot _ _ HG.out).frm (frm_drew _) (fun h => h)) (4 + i) i 35 (by have := HI.out; omega) (by have := HI.out; rw [if_neg (by omega)]) (by have := HI.out; omega) view c t k y v code HC.out).mono ?_); rintro e w3 ⟨rfl, h', f'⟩; have HX := hid h'; have HF3 := hid f'; clear h' f'; have HQ3 := hid ((HQ2.out.frm (frm_drew _) (fun h => h)).frm HF3.out HNB.out); have r0 := HQ3.out.cell 0; have r1 := HQ3.out.cell 1; have r2 := HQ3.out.cell 2; have r3 := HQ3.out.cell 3; have r4 := HQ3.out.cell 4; (simp only [List.getElem?_cons_succ, List.getElem?_cons_zero] at r0 r1 r2 r3 r4)))
  go_wp2
  go_ret
  exact ⟨g', rfl, (HL.out.quiet (frm_drew _)).set HG.out (by rw [sayX_acc]; exact HL.out.vwb s) HF3.out HX.out, frm_own (frm_box w _) HF.out HG.out (own_box HO.out) (((frm_drew _).mono (fun _ _ h => h.elim)).trans HF3.out), own_box HO.out⟩
theorem Accept_out {w : World} {lb mb N : Nat} {low : Int} {g : Int → Option Nat} {σ : Int → Sl} (h : IsLogG w lb mb low N g σ) (view s c t k y v : Int) (hs : 0 ≤ s ∧ s ≤ 4294967295) (hz : inW low s = false) :
    Calls Try.prog 10 #[.pointer (some ⟨lb, 0, none⟩), .int .u32 view, .int .u32 s, .agg #[.int .u8 c, .int .u32 t, .int .u8 k, .int .u8 y, .int .u16 v]] w fun e w' => e = .returned (.int .i64 120) ∧ Frm (fun _ => False) w w' := by
  have HE := hid (h.quiet (frm_box w (.cells #[.int .u8 c, .int .u32 t, .int .u8 k, .int .u8 y, .int .u16 v] TRq))); have HS := hid hs; have HZ := hid hz; clear h hs hz
  go_enter Try.func10, Try.ntmps10
  go_wp2_with (first
    | (go_at_call 29; (with_reducible refine (At_out HE.out s HS.out HZ.out).mono ?_); rintro e w' ⟨rfl, rfl⟩; skip))
  go_ret
  exact ⟨rfl, frm_box _ _⟩
theorem acc_put (x : Sl) (view c t k y v : Int) : (((((((slV x).set 0 (.bool true)).set 1 (.int .u32 view)).set 2 (.int .u8 c)).set 3 (.int .u32 t)).set 4 (.int .u8 k)).set 5 (.int .u8 y)).set 6 (.int .u16 v) = slV (x.accept ⟨true, view, c, t, k, y, v⟩) := rfl
theorem neq_rq (w : World) (c t k y v c' t' k' y' v' : Int) (z : Bool) (hz : (c == c' && (t == t' && (k == k' && (y == y' && v == v')))) = z) : (binOp .neq TRq (.agg #[.int .u8 c, .int .u32 t, .int .u8 k, .int .u8 y, .int .u16 v]) (.agg #[.int .u8 c', .int .u32 t', .int .u8 k', .int .u8 y', .int .u16 v'])).run Try.prog w = .ok (.bool (!z)) w := by
  subst hz
  go_simp
  repeat' split
  all_goals simp_all
/-- Does another one stand there? -/
def taken (x : Sd) (view c t k y v : Int) : Bool := x.th && (decide (view < x.vw) || (decide (x.vw = view) && !(x.c == c && (x.t == t && (x.k == k && (x.y == y && x.v == v))))))
set_option maxHeartbeats 4000000 in
theorem Accept_in {w : World} {lb mb N : Nat} {low : Int} {g : Int → Option Nat} {σ : Int → Sl} (h : IsLogG w lb mb low N g σ) (hN : N < 100000) (view s c t k y v : Int) (hvw : 0 ≤ view ∧ view ≤ 4294967295) (hs : 0 ≤ s ∧ s ≤ 4294967295) (hz : inW low s = true) (code : Int) (hc : (if taken (σ s).acc view c t k y v = true then 121 else 0) = code) :
    Calls Try.prog 10 #[.pointer (some ⟨lb, 0, none⟩), .int .u32 view, .int .u32 s, .agg #[.int .u8 c, .int .u32 t, .int .u8 k, .int .u8 y, .int .u16 v]] w fun e w' => ∃ g', e = .returned (.int .i64 code) ∧ IsLogG w' lb mb low (N + 1) g' (if taken (σ s).acc view c t k y v = true then σ else updS σ s ((σ s).accept ⟨true, view, c, t, k, y, v⟩)) ∧ Frm (Own lb mb g) w w' ∧ ∀ k, Own lb mb g' k → Own lb mb g k ∨ w.heap.size ≤ k := by
  have HVW := hid hvw; clear hvw
  have HML := hid (map_lt h)
  have HE := hid (h.quiet (frm_box w (.cells #[.int .u8 c, .int .u32 t, .int .u8 k, .int .u8 y, .int .u16 v] TRq))); have HS := hid hs; have HZ := hid hz; have HN := hid hN; clear h hs hz hN
  have HQ := hid (Blk.new w [.int .u8 c, .int .u32 t, .int .u8 k, .int .u8 y, .int .u16 v] TRq)
  obtain ⟨X, hX⟩ : ∃ X, (σ s).acc = X := ⟨_, rfl⟩
  rw [hX] at hc ⊢
  have HX := hid hX; clear hX
  obtain ⟨xt, xv, xc, xts, xk, xy, xw⟩ := X
  obtain ⟨z, hz⟩ : ∃ z, taken ⟨xt, xv, xc, xts, xk, xy, xw⟩ view c t k y v = z := ⟨_, rfl⟩
  rw [hz] at hc ⊢
  have HT := hid hz
  clear hz
  cases z
  · obtain rfl : (0 : Int) = code := hc
    rw [if_neg (by decide)]
    have hT := HT.out
    unfold taken at hT
    dsimp only at hT
    cases xt
    · clear hT
      go_enter Try.func10, Try.ntmps10
      go_wp2_with (first
        | (go_at_call 29; (with_reducible refine (At_calls HE.out HN.out s HS.out HZ.out).mono ?_); rintro e w2 ⟨b, g', rfl, hl, hg, hf, ho⟩; have HL := hid hl; have HG := hid hg; have HF := hid hf; have HO := hid ho; clear hl hg hf ho; have HB := hid (HL.out.slot _ _ HG.out); have HQ2 := hid (HQ.out.frm HF.out (fun e => by have := HML.out; omega)); clear HQ; have q0 := HQ2.out.cell 0; have q1 := HQ2.out.cell 1; have q2 := HQ2.out.cell 2; have q3 := HQ2.out.cell 3; have q4 := HQ2.out.cell 4; have HNB := hid (blk_ne HQ2.out HB.out (by rw [slV_len]; simp)); have p0 := HB.out.cell 0; have p1 := HB.out.cell 1; have p2 := HB.out.cell 2; have p3 := HB.out.cell 3; have p4 := HB.out.cell 4; have p5 := HB.out.cell 5; have p6 := HB.out.cell 6; have z0 := HB.out.free 0; have z1 := HB.out.free 1; have z2 := HB.out.free 2; have z3 := HB.out.free 3; have z4 := HB.out.free 4; have z5 := HB.out.free 5; have z6 := HB.out.free 6; (simp only [slV, sdV, List.cons_append, List.nil_append, List.getElem?_cons_succ, List.getElem?_cons_zero] at q0 q1 q2 q3 q4 p0 p1 p2 p3 p4 p5 p6); (rw [HX.out] at p0 p1 p2 p3 p4 p5 p6);  have hbl := HB.out.lt; have hql := HQ2.out.lt; have hnb := HNB.out))
      go_ret
      refine ⟨g', rfl, HL.out.set (x := (σ s).accept ⟨true, _, c, t, k, y, v⟩) HG.out (b := b) HVW.out (((((((((Frm.refl (· = b) w2).setCell ⟨b, 0, none⟩ _ (.inr rfl)).setCell ⟨b, 1, none⟩ _ (.inr rfl)).setCell ⟨b, 2, none⟩ _ (.inr rfl)).setCell ⟨b, 3, none⟩ _ (.inr rfl)).setCell ⟨b, 4, none⟩ _ (.inr rfl)).setCell ⟨b, 5, none⟩ _ (.inr rfl)).setCell ⟨b, 6, none⟩ _ (.inr rfl)).alloc _) ?_, frm_own (frm_box w _) HF.out HG.out (own_box HO.out) (((((((((Frm.refl (· = b) w2).setCell ⟨b, 0, none⟩ _ (.inr rfl)).setCell ⟨b, 1, none⟩ _ (.inr rfl)).setCell ⟨b, 2, none⟩ _ (.inr rfl)).setCell ⟨b, 3, none⟩ _ (.inr rfl)).setCell ⟨b, 4, none⟩ _ (.inr rfl)).setCell ⟨b, 5, none⟩ _ (.inr rfl)).setCell ⟨b, 6, none⟩ _ (.inr rfl)).alloc _), own_box HO.out⟩
      rw [← acc_put (σ s) _ c t k y v]
      exact ((((((((HB.out.setCell 0 _).setCell 1 _).setCell 2 _).setCell 3 _).setCell 4 _).setCell 5 _).setCell 6 _).alloc _)
    · rw [Bool.true_and, Bool.or_eq_false_iff, decide_eq_false_iff_not] at hT
      obtain ⟨hT1, hT2⟩ := hT
      by_cases hv : xv = view
      · subst hv
        rw [decide_eq_true rfl, Bool.true_and] at hT2
        have hT3 := hT2
        simp only [Bool.not_eq_false', Bool.and_eq_true, beq_iff_eq] at hT3
        obtain ⟨rfl, rfl, rfl, rfl, rfl⟩ := hT3
        clear hT1 hT2
        go_enter Try.func10, Try.ntmps10
        go_wp2_with (first
          | (go_at_call 29; (with_reducible refine (At_calls HE.out HN.out s HS.out HZ.out).mono ?_); rintro e w2 ⟨b, g', rfl, hl, hg, hf, ho⟩; have HL := hid hl; have HG := hid hg; have HF := hid hf; have HO := hid ho; clear hl hg hf ho; have HB := hid (HL.out.slot _ _ HG.out); have HQ2 := hid (HQ.out.frm HF.out (fun e => by have := HML.out; omega)); clear HQ; have q0 := HQ2.out.cell 0; have q1 := HQ2.out.cell 1; have q2 := HQ2.out.cell 2; have q3 := HQ2.out.cell 3; have q4 := HQ2.out.cell 4; have HNB := hid (blk_ne HQ2.out HB.out (by rw [slV_len]; simp)); have p0 := HB.out.cell 0; have p1 := HB.out.cell 1; have p2 := HB.out.cell 2; have p3 := HB.out.cell 3; have p4 := HB.out.cell 4; have p5 := HB.out.cell 5; have p6 := HB.out.cell 6; have z0 := HB.out.free 0; have z1 := HB.out.free 1; have z2 := HB.out.free 2; have z3 := HB.out.free 3; have z4 := HB.out.free 4; have z5 := HB.out.free 5; have z6 := HB.out.free 6; (simp only [slV, sdV, List.cons_append, List.nil_append, List.getElem?_cons_succ, List.getElem?_cons_zero] at q0 q1 q2 q3 q4 p0 p1 p2 p3 p4 p5 p6); (rw [HX.out] at p0 p1 p2 p3 p4 p5 p6);  have hbl := HB.out.lt; have hql := HQ2.out.lt; have hnb := HNB.out))
        go_ret
        refine ⟨g', rfl, HL.out.set (x := (σ s).accept ⟨true, _, xc, xts, xk, xy, xw⟩) HG.out (b := b) HVW.out (((((((((Frm.refl (· = b) w2).setCell ⟨b, 0, none⟩ _ (.inr rfl)).setCell ⟨b, 1, none⟩ _ (.inr rfl)).setCell ⟨b, 2, none⟩ _ (.inr rfl)).setCell ⟨b, 3, none⟩ _ (.inr rfl)).setCell ⟨b, 4, none⟩ _ (.inr rfl)).setCell ⟨b, 5, none⟩ _ (.inr rfl)).setCell ⟨b, 6, none⟩ _ (.inr rfl)).alloc _) ?_, frm_own (frm_box w _) HF.out HG.out (own_box HO.out) (((((((((Frm.refl (· = b) w2).setCell ⟨b, 0, none⟩ _ (.inr rfl)).setCell ⟨b, 1, none⟩ _ (.inr rfl)).setCell ⟨b, 2, none⟩ _ (.inr rfl)).setCell ⟨b, 3, none⟩ _ (.inr rfl)).setCell ⟨b, 4, none⟩ _ (.inr rfl)).setCell ⟨b, 5, none⟩ _ (.inr rfl)).setCell ⟨b, 6, none⟩ _ (.inr rfl)).alloc _), own_box HO.out⟩
        rw [← acc_put (σ s) _ xc xts xk xy xw]
        exact ((((((((HB.out.setCell 0 _).setCell 1 _).setCell 2 _).setCell 3 _).setCell 4 _).setCell 5 _).setCell 6 _).alloc _)
      · have hv1 : xv < view := by omega
        have hv2 : ¬ view < xv := by omega
        have hv3 : (xv == view) = false := beq_eq_false_iff_ne.2 hv
        clear hT1 hT2 hv
        go_enter Try.func10, Try.ntmps10
        go_wp2_with (first
          | (go_at_call 29; (with_reducible refine (At_calls HE.out HN.out s HS.out HZ.out).mono ?_); rintro e w2 ⟨b, g', rfl, hl, hg, hf, ho⟩; have HL := hid hl; have HG := hid hg; have HF := hid hf; have HO := hid ho; clear hl hg hf ho; have HB := hid (HL.out.slot _ _ HG.out); have HQ2 := hid (HQ.out.frm HF.out (fun e => by have := HML.out; omega)); clear HQ; have q0 := HQ2.out.cell 0; have q1 := HQ2.out.cell 1; have q2 := HQ2.out.cell 2; have q3 := HQ2.out.cell 3; have q4 := HQ2.out.cell 4; have HNB := hid (blk_ne HQ2.out HB.out (by rw [slV_len]; simp)); have p0 := HB.out.cell 0; have p1 := HB.out.cell 1; have p2 := HB.out.cell 2; have p3 := HB.out.cell 3; have p4 := HB.out.cell 4; have p5 := HB.out.cell 5; have p6 := HB.out.cell 6; have z0 := HB.out.free 0; have z1 := HB.out.free 1; have z2 := HB.out.free 2; have z3 := HB.out.free 3; have z4 := HB.out.free 4; have z5 := HB.out.free 5; have z6 := HB.out.free 6; (simp only [slV, sdV, List.cons_append, List.nil_append, List.getElem?_cons_succ, List.getElem?_cons_zero] at q0 q1 q2 q3 q4 p0 p1 p2 p3 p4 p5 p6); (rw [HX.out] at p0 p1 p2 p3 p4 p5 p6);  have hbl := HB.out.lt; have hql := HQ2.out.lt; have hnb := HNB.out))
        go_ret
        refine ⟨g', rfl, HL.out.set (x := (σ s).accept ⟨true, _, c, t, k, y, v⟩) HG.out (b := b) HVW.out (((((((((Frm.refl (· = b) w2).setCell ⟨b, 0, none⟩ _ (.inr rfl)).setCell ⟨b, 1, none⟩ _ (.inr rfl)).setCell ⟨b, 2, none⟩ _ (.inr rfl)).setCell ⟨b, 3, none⟩ _ (.inr rfl)).setCell ⟨b, 4, none⟩ _ (.inr rfl)).setCell ⟨b, 5, none⟩ _ (.inr rfl)).setCell ⟨b, 6, none⟩ _ (.inr rfl)).alloc _) ?_, frm_own (frm_box w _) HF.out HG.out (own_box HO.out) (((((((((Frm.refl (· = b) w2).setCell ⟨b, 0, none⟩ _ (.inr rfl)).setCell ⟨b, 1, none⟩ _ (.inr rfl)).setCell ⟨b, 2, none⟩ _ (.inr rfl)).setCell ⟨b, 3, none⟩ _ (.inr rfl)).setCell ⟨b, 4, none⟩ _ (.inr rfl)).setCell ⟨b, 5, none⟩ _ (.inr rfl)).setCell ⟨b, 6, none⟩ _ (.inr rfl)).alloc _), own_box HO.out⟩
        rw [← acc_put (σ s) _ c t k y v]
        exact ((((((((HB.out.setCell 0 _).setCell 1 _).setCell 2 _).setCell 3 _).setCell 4 _).setCell 5 _).setCell 6 _).alloc _)
  · obtain rfl : (121 : Int) = code := hc
    rw [if_pos rfl]
    have hT := HT.out
    unfold taken at hT
    dsimp only at hT
    rw [Bool.and_eq_true, Bool.or_eq_true, decide_eq_true_eq] at hT
    obtain ⟨rfl, hT⟩ := hT
    by_cases hv : view < xv
    · clear hT
      go_enter Try.func10, Try.ntmps10
      go_wp2_with (first
        | (go_at_call 29; (with_reducible refine (At_calls HE.out HN.out s HS.out HZ.out).mono ?_); rintro e w2 ⟨b, g', rfl, hl, hg, hf, ho⟩; have HL := hid hl; have HG := hid hg; have HF := hid hf; have HO := hid ho; clear hl hg hf ho; have HB := hid (HL.out.slot _ _ HG.out); have HQ2 := hid (HQ.out.frm HF.out (fun e => by have := HML.out; omega)); clear HQ; have q0 := HQ2.out.cell 0; have q1 := HQ2.out.cell 1; have q2 := HQ2.out.cell 2; have q3 := HQ2.out.cell 3; have q4 := HQ2.out.cell 4; have HNB := hid (blk_ne HQ2.out HB.out (by rw [slV_len]; simp)); have p0 := HB.out.cell 0; have p1 := HB.out.cell 1; have p2 := HB.out.cell 2; have p3 := HB.out.cell 3; have p4 := HB.out.cell 4; have p5 := HB.out.cell 5; have p6 := HB.out.cell 6; have z0 := HB.out.free 0; have z1 := HB.out.free 1; have z2 := HB.out.free 2; have z3 := HB.out.free 3; have z4 := HB.out.free 4; have z5 := HB.out.free 5; have z6 := HB.out.free 6; (simp only [slV, sdV, List.cons_append, List.nil_append, List.getElem?_cons_succ, List.getElem?_cons_zero] at q0 q1 q2 q3 q4 p0 p1 p2 p3 p4 p5 p6); (rw [HX.out] at p0 p1 p2 p3 p4 p5 p6);  have hbl := HB.out.lt; have hql := HQ2.out.lt; have hnb := HNB.out))
      go_ret
      exact ⟨g', rfl, HL.out.quiet (frm_box _ _), frm_q (frm_own0 (frm_box w _) HF.out) (frm_box _ _), own_box HO.out⟩
    · have hT2 := hT.resolve_left hv
      rw [Bool.and_eq_true, decide_eq_true_eq] at hT2
      obtain ⟨rfl, hT3⟩ := hT2
      have hT4 : (xc == c && (xts == t && (xk == k && (xy == y && xw == v)))) = false := by revert hT3; cases (xc == c && (xts == t && (xk == k && (xy == y && xw == v)))) <;> simp
      have hnq := (fun w => neq_rq w xc xts xk xy xw c t k y v false hT4)
      simp only [Bool.not_false] at hnq
      clear hT hT3 hT4
      go_enter Try.func10, Try.ntmps10
      go_wp2_with (first
        | (go_at_call 29; (with_reducible refine (At_calls HE.out HN.out s HS.out HZ.out).mono ?_); rintro e w2 ⟨b, g', rfl, hl, hg, hf, ho⟩; have HL := hid hl; have HG := hid hg; have HF := hid hf; have HO := hid ho; clear hl hg hf ho; have HB := hid (HL.out.slot _ _ HG.out); have HQ2 := hid (HQ.out.frm HF.out (fun e => by have := HML.out; omega)); clear HQ; have q0 := HQ2.out.cell 0; have q1 := HQ2.out.cell 1; have q2 := HQ2.out.cell 2; have q3 := HQ2.out.cell 3; have q4 := HQ2.out.cell 4; have HNB := hid (blk_ne HQ2.out HB.out (by rw [slV_len]; simp)); have p0 := HB.out.cell 0; have p1 := HB.out.cell 1; have p2 := HB.out.cell 2; have p3 := HB.out.cell 3; have p4 := HB.out.cell 4; have p5 := HB.out.cell 5; have p6 := HB.out.cell 6; have z0 := HB.out.free 0; have z1 := HB.out.free 1; have z2 := HB.out.free 2; have z3 := HB.out.free 3; have z4 := HB.out.free 4; have z5 := HB.out.free 5; have z6 := HB.out.free 6; (simp only [slV, sdV, List.cons_append, List.nil_append, List.getElem?_cons_succ, List.getElem?_cons_zero] at q0 q1 q2 q3 q4 p0 p1 p2 p3 p4 p5 p6); (rw [HX.out] at p0 p1 p2 p3 p4 p5 p6);  have hbl := HB.out.lt; have hql := HQ2.out.lt; have hnb := HNB.out))
      go_ret
      exact ⟨g', rfl, HL.out.quiet (frm_box _ _), frm_q (frm_own0 (frm_box w _) HF.out) (frm_box _ _), own_box HO.out⟩
end Go.Proofs.Ytijomhinfcahpaa
