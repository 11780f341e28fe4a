/- The document's queue; rows of requests held against one another. -/
import Derived.Test.YtabmbppolmikcaaQuKnown
namespace Go.Proofs.Ytabmbppolmikcaa
open Go.RowKit Go.ChangeShapes
set_option linter.unusedVariables false
set_option linter.unusedSimpArgs false
set_option maxRecDepth 100000
abbrev TRQ : Nat := 42
theorem cell_keep {w w' : World} (f : Frm (fun _ => False) w w') {p : Addr} {v : Value} (h : w.cell? p = some v) : w'.cell? p = some v := (f.cell (World.block_lt_of_cell? w p h) (fun h => h)).trans h
set_option maxHeartbeats 4000000 in
theorem RIsReq_calls (w : World) (c t k y v : Int) (z : Bool) (hz : (isNull c t k y v || isReal c t k y v) = z) :
    Calls Try.prog 24 #[.agg #[.int .u8 c, .int .u32 t, .int .u8 k, .int .u8 y, .int .u16 v]] w fun e w' => e = .returned (.bool z) ∧ Frm (fun _ => False) w w' := by
  have HZ := hid hz; clear hz
  go_enter Try.func24, Try.ntmps24
  go_wp2
  all_goals
    go_ret
    refine ⟨ret_bool ?_, by first | exact ((Frm.refl _ _).alloc _).alloc _ | exact (Frm.refl _ _).alloc _⟩
    rw [← HZ.out, Bool.eq_iff_iff]
    simp only [isNull, isReal, Bool.or_eq_true, decide_eq_true_eq, Bool.false_eq_true, true_iff, false_iff, beq_iff_eq, eq_self_iff_true, Bool.and_eq_true, bne_iff_ne]
    omega
theorem RNull_calls (w : World) (c t k y v : Int) (z : Bool) (hz : isNull c t k y v = z) :
    Calls Try.prog 25 #[.agg #[.int .u8 c, .int .u32 t, .int .u8 k, .int .u8 y, .int .u16 v]] w fun e w' => e = .returned (.bool z) ∧ Frm (fun _ => False) w w' := by
  have heq := fun w => eqlRq w c t k y v 0 0 0 0 0 z ((eqNull _ _ _ _ _).trans hz)
  clear hz
  go_enter Try.func25, Try.ntmps25
  go_wp2
  go_ret
  exact ⟨rfl, qbox _ _⟩
/-- A row that is read: a slice whose block holds these requests. -/
structure IsRow5 (w : World) (a : Option Addr) (l : List Rq) : Prop where
  at_ : l.length ≠ 0 → ∃ b, a = some ⟨b, 0, none⟩ ∧ ∀ j r, l[j]? = some r → ∀ i, i < 5 → w.cell? ⟨b, j * 5 + i, none⟩ = (rqC r)[i]?
theorem IsRow5.quiet {w w' : World} {a : Option Addr} {l : List Rq} (h : IsRow5 w a l) (f : Frm (fun _ => False) w w') : IsRow5 w' a l :=
  ⟨fun hn => by
    obtain ⟨b, e, hc⟩ := h.at_ hn
    refine ⟨b, e, fun j r hj i hi => ?_⟩
    have := hc j r hj i hi
    rw [List.getElem?_eq_getElem (show i < (rqC r).length from hi)] at this ⊢
    exact cell_keep f this⟩
theorem OwnY.row5 {w : World} {A : Nat → Prop} {a : Option Addr} {n c : Nat} {l : List Rq} (h : OwnY w A (.slice a n c) l) : IsRow5 w a l :=
  ⟨fun hn => by
    obtain ⟨g, c', hv, _, _, hc⟩ := h.at_ (by omega)
    injection hv with e1 e2 e3
    exact ⟨g, e1, hc⟩⟩
set_option maxHeartbeats 8000000 in
theorem Reqs_calls {w : World} {a b : Option Addr} {c d n : Nat} {l : List Rq} (ha : IsRow5 w a l) (hb : IsRow5 w b l) (hn : l.length = n) (hl : n ≤ 4) :
    Calls Try.prog 17 #[.slice a n c, .slice b n d] w fun e w' => e = .returned (.bool true) ∧ Frm (fun _ => False) w w' := by
  have HA := hid ha; have HB := hid hb; have HN := hid hn; have HL := hid hl
  have hn4 : (n : Int) ≤ 4 := by omega
  have hn0 : (0 : Int) ≤ (n : Int) := by omega
  clear ha hb hn hl
  go_enter Try.func17, Try.ntmps17
  go_wp2
  go_loopw [5] (fun kv wr => ∃ (k : Nat), k ≤ n ∧ kv = .int .i64 k ∧ Frm (fun _ => False) w wr) (fun k _ => n - (intOf k).toNat)
  case atStart => exact ⟨0, Nat.zero_le _, rfl, Frm.refl _ _⟩
  case round =>
    obtain ⟨k, hk, rfl, hf⟩ := hrel
    generalize wr = wy at *
    have HF := hid hf
    clear hf
    by_cases hkl : k < n
    · have HK := hid hkl
      obtain ⟨x, hx⟩ : ∃ x, l[k]? = some x := ⟨_, List.getElem?_eq_getElem (by rw [HN.out]; exact hkl)⟩
      obtain ⟨ag, rfl, hac⟩ := (HA.out.quiet HF.out).at_ (by rw [HN.out]; omega)
      obtain ⟨bg, rfl, hbc⟩ := (HB.out.quiet HF.out).at_ (by rw [HN.out]; omega)
      obtain ⟨xc, xt, xk, xy, xv⟩ := x
      have a0_ := hac k _ hx 0 (by decide); have a1_ := hac k _ hx 1 (by decide); have a2_ := hac k _ hx 2 (by decide); have a3_ := hac k _ hx 3 (by decide); have a4_ := hac k _ hx 4 (by decide)
      have b0_ := hbc k _ hx 0 (by decide); have b1_ := hbc k _ hx 1 (by decide); have b2_ := hbc k _ hx 2 (by decide); have b3_ := hbc k _ hx 3 (by decide); have b4_ := hbc k _ hx 4 (by decide)
      simp only [rqC, List.getElem?_cons_succ, List.getElem?_cons_zero, Nat.add_zero] at a0_ a1_ a2_ a3_ a4_ b0_ b1_ b2_ b3_ b4_
      have hki : (k : Int) < (n : Int) := by omega
      have hk0 : (0 : Int) ≤ (k : Int) := by omega
      have heq := fun w => neqRq w xc xt xk xy xv xc xt xk xy xv true (Rq.eqb_self ⟨xc, xt, xk, xy, xv⟩)
      simp only [Bool.not_true] at heq
      have HFD := hid HF.out.drew
      clear hx hac hbc hk hkl
      go_wp2_with fail
      go_region_held3 (fun wx => wx.cell? ⟨ag, k * 5, none⟩ = some (.int .u8 xc) ∧ wx.cell? ⟨ag, k * 5 + 1, none⟩ = some (.int .u32 xt) ∧ wx.cell? ⟨ag, k * 5 + 2, none⟩ = some (.int .u8 xk) ∧ wx.cell? ⟨ag, k * 5 + 3, none⟩ = some (.int .u8 xy) ∧ wx.cell? ⟨ag, k * 5 + 4, none⟩ = some (.int .u16 xv) ∧ wx.cell? ⟨bg, k * 5, none⟩ = some (.int .u8 xc) ∧ wx.cell? ⟨bg, k * 5 + 1, none⟩ = some (.int .u32 xt) ∧ wx.cell? ⟨bg, k * 5 + 2, none⟩ = some (.int .u8 xk) ∧ wx.cell? ⟨bg, k * 5 + 3, none⟩ = some (.int .u8 xy) ∧ wx.cell? ⟨bg, k * 5 + 4, none⟩ = some (.int .u16 xv)) (first | go_keep | exact ⟨a0_, a1_, a2_, a3_, a4_, b0_, b1_, b2_, b3_, b4_⟩) (fail)
      go_wp2
      go_roundw
      case rel => exact ⟨k + 1, by have := HK.out; omega, by go_num, HFD.out⟩
      case measure => have := HK.out; simp [intOf]; omega
    · have hke : k = n := by omega
      subst hke
      clear hkl hk
      go_wp2
      go_ret
      exact ⟨rfl, HF.out⟩
/-- The document's queue. -/
structure IsRQ (w : World) (rb : Nat) (v : Value) (R : List Rq) : Prop where
  blk : Blk w rb [v] TRQ
  own : OwnY w (fun k => k ≤ rb) v R
theorem IsRQ.quiet {w w' : World} {rb : Nat} {v : Value} {R : List Rq} (h : IsRQ w rb v R) (f : Frm (fun _ => False) w w') : IsRQ w' rb v R := ⟨h.blk.frm f (fun h => h), h.own.quiet f⟩
/-- One that stands against a put. -/
def badR (R : List Rq) (r : Rq) : Bool := R.any fun q => (q.c == r.c) && decide (r.t ≤ q.t)
def keepR (R : List Rq) (c : Int) : List Rq := R.filter fun q => !(q.c == c)
theorem take_one {α : Type} {l : List α} {k : Nat} {x : α} (hx : l[k]? = some x) : l.take (k + 1) = l.take k ++ [x] := by rw [List.take_add_one, hx]; rfl
theorem badR_step {R : List Rq} {k : Nat} {x r : Rq} (hx : R[k]? = some x) : badR (R.take (k + 1)) r = (badR (R.take k) r || ((x.c == r.c) && decide (r.t ≤ x.t))) := by
  unfold badR; rw [take_one hx, List.any_append]; simp
theorem keepR_step {R : List Rq} {k : Nat} {x : Rq} (c : Int) (hx : R[k]? = some x) : keepR (R.take (k + 1)) c = keepR (R.take k) c ++ (if (x.c == c) = true then [] else [x]) := by
  unfold keepR; rw [take_one hx, List.filter_append]
  by_cases h : (x.c == c) = true
  · rw [if_pos h]; simp [h]
  · rw [if_neg h]; simp [h]
theorem badR_end {R : List Rq} {k : Nat} {x r : Rq} (hx : R[k]? = some x) (hc : x.c = r.c) (ht : r.t ≤ x.t) : badR R r = true := by
  unfold badR
  exact List.any_eq_true.2 ⟨x, List.mem_of_getElem? hx, by rw [Bool.and_eq_true]; exact ⟨beq_iff_eq.2 hc, decide_eq_true ht⟩⟩
set_option maxHeartbeats 8000000 in
theorem RPut_unreal {w : World} {rb : Nat} {v : Value} {R : List Rq} (h : IsRQ w rb v R) (r : Rq) (hz : isReal r.c r.t r.k r.y r.v = false) :
    Calls Try.prog 13 #[.pointer (some ⟨rb, 0, none⟩), .agg #[.int .u8 r.c, .int .u32 r.t, .int .u8 r.k, .int .u8 r.y, .int .u16 r.v]] w fun e w' => e = .returned (.bool false) ∧ IsRQ w' rb v R ∧ Frm (fun _ => False) w w' := by
  obtain ⟨rc, rt, rk, ry, rv⟩ := r
  have HB1 := hid (Blk.new w [.int .u8 rc, .int .u32 rt, .int .u8 rk, .int .u8 ry, .int .u16 rv] TRq)
  have HR1 := hid (h.quiet (qbox w (.cells #[.int .u8 rc, .int .u32 rt, .int .u8 rk, .int .u8 ry, .int .u16 rv] TRq)))
  have HF1 := hid (qbox w (.cells #[.int .u8 rc, .int .u32 rt, .int .u8 rk, .int .u8 ry, .int .u16 rv] TRq))
  have k0 := HB1.out.cell 0; have k1 := HB1.out.cell 1; have k2 := HB1.out.cell 2; have k3 := HB1.out.cell 3; have k4 := HB1.out.cell 4
  simp only [List.getElem?_cons_succ, List.getElem?_cons_zero] at k0 k1 k2 k3 k4
  dsimp only at hz
  cases hnl : isNull rc rt rk ry rv
  · have HIR := hid (show (isNull rc rt rk ry rv || isReal rc rt rk ry rv) = false by rw [hnl, hz]; rfl)
    clear h hz hnl
    go_enter Try.func13, Try.ntmps13
    go_wp2_with (first
      | (go_at_call 24; (with_reducible refine (RIsReq_calls _ rc rt rk ry rv false HIR.out).mono ?_); rintro e w2 ⟨rfl, f'⟩; clear k0 k1 k2 k3 k4; have HB2 := hid (HB1.out.frm f' (fun h => h)); have HR2 := hid (HR1.out.quiet f'); have HF2 := hid (HF1.out.trans f'); clear f' HB1 HR1 HF1; have HB1 := HB2; have HR1 := HR2; have HF1 := HF2; clear HB2 HR2 HF2; have k0 := HB1.out.cell 0; have k1 := HB1.out.cell 1; have k2 := HB1.out.cell 2; have k3 := HB1.out.cell 3; have k4 := HB1.out.cell 4; (simp only [List.getElem?_cons_succ, List.getElem?_cons_zero] at k0 k1 k2 k3 k4)))
    go_ret
    exact ⟨rfl, HR1.out, HF1.out⟩
  · have HIR := hid (show (isNull rc rt rk ry rv || isReal rc rt rk ry rv) = true by rw [hnl, hz]; rfl)
    have HNU := hid hnl
    clear h hz hnl
    go_enter Try.func13, Try.ntmps13
    go_wp2_with (first
      | (go_at_call 24; (with_reducible refine (RIsReq_calls _ rc rt rk ry rv true HIR.out).mono ?_); rintro e w2 ⟨rfl, f'⟩; clear k0 k1 k2 k3 k4; have HB2 := hid (HB1.out.frm f' (fun h => h)); have HR2 := hid (HR1.out.quiet f'); have HF2 := hid (HF1.out.trans f'); clear f' HB1 HR1 HF1; have HB1 := HB2; have HR1 := HR2; have HF1 := HF2; clear HB2 HR2 HF2; have k0 := HB1.out.cell 0; have k1 := HB1.out.cell 1; have k2 := HB1.out.cell 2; have k3 := HB1.out.cell 3; have k4 := HB1.out.cell 4; (simp only [List.getElem?_cons_succ, List.getElem?_cons_zero] at k0 k1 k2 k3 k4))
      | (go_at_call 25; (with_reducible refine (RNull_calls _ rc rt rk ry rv true HNU.out).mono ?_); rintro e w3 ⟨rfl, f'⟩; clear k0 k1 k2 k3 k4; have HB2 := hid (HB1.out.frm f' (fun h => h)); have HR2 := hid (HR1.out.quiet f'); have HF2 := hid (HF1.out.trans f'); clear f' HB1 HR1 HF1; have HB1 := HB2; have HR1 := HR2; have HF1 := HF2; clear HB2 HR2 HF2; have k0 := HB1.out.cell 0; have k1 := HB1.out.cell 1; have k2 := HB1.out.cell 2; have k3 := HB1.out.cell 3; have k4 := HB1.out.cell 4; (simp only [List.getElem?_cons_succ, List.getElem?_cons_zero] at k0 k1 k2 k3 k4)))
    go_ret
    exact ⟨rfl, HR1.out, HF1.out⟩
set_option maxHeartbeats 16000000 in
theorem RPut_yes {w : World} {rb : Nat} {v : Value} {R : List Rq} (h : IsRQ w rb v R) (hlr : R.length ≤ 4) (r : Rq) (hz : isReal r.c r.t r.k r.y r.v = true) (hbn : badR R r = false) :
    Calls Try.prog 13 #[.pointer (some ⟨rb, 0, none⟩), .agg #[.int .u8 r.c, .int .u32 r.t, .int .u8 r.k, .int .u8 r.y, .int .u16 r.v]] w fun e w' => e = .returned (.bool true) ∧ (∃ v', IsRQ w' rb v' (keepR R r.c ++ [r])) ∧ Frm (· = rb) w w' := by
  obtain ⟨rc, rt, rk, ry, rv⟩ := r
  have HB1 := hid (Blk.new w [.int .u8 rc, .int .u32 rt, .int .u8 rk, .int .u8 ry, .int .u16 rv] TRq)
  have HR1 := hid (h.quiet (qbox w (.cells #[.int .u8 rc, .int .u32 rt, .int .u8 rk, .int .u8 ry, .int .u16 rv] TRq)))
  have HF1 := hid (qbox w (.cells #[.int .u8 rc, .int .u32 rt, .int .u8 rk, .int .u8 ry, .int .u16 rv] TRq))
  have k0 := HB1.out.cell 0; have k1 := HB1.out.cell 1; have k2 := HB1.out.cell 2; have k3 := HB1.out.cell 3; have k4 := HB1.out.cell 4
  simp only [List.getElem?_cons_succ, List.getElem?_cons_zero] at k0 k1 k2 k3 k4
  dsimp only at hz
  have HLR := hid hlr; have HBN := hid hbn
  have HIR := hid (show (isNull rc rt rk ry rv || isReal rc rt rk ry rv) = true by rw [hz, Bool.or_true])
  have HNU := hid (show isNull rc rt rk ry rv = false by
    refine decide_eq_false fun hh => ?_
    have := of_decide_eq_true hz
    omega)
  clear h hz hlr hbn
  go_enter Try.func13, Try.ntmps13
  go_wp2_with (first
    | (go_at_call 24; (with_reducible refine (RIsReq_calls _ rc rt rk ry rv true HIR.out).mono ?_); rintro e w2 ⟨rfl, f'⟩; clear k0 k1 k2 k3 k4; have HB2 := hid (HB1.out.frm f' (fun h => h)); have HR2 := hid (HR1.out.quiet f'); have HF2 := hid (HF1.out.trans f'); clear f' HB1 HR1 HF1; have HB1 := HB2; have HR1 := HR2; have HF1 := HF2; clear HB2 HR2 HF2; have k0 := HB1.out.cell 0; have k1 := HB1.out.cell 1; have k2 := HB1.out.cell 2; have k3 := HB1.out.cell 3; have k4 := HB1.out.cell 4; (simp only [List.getElem?_cons_succ, List.getElem?_cons_zero] at k0 k1 k2 k3 k4))
    | (go_at_call 25; (with_reducible refine (RNull_calls _ rc rt rk ry rv false HNU.out).mono ?_); rintro e w3 ⟨rfl, f'⟩; clear k0 k1 k2 k3 k4; have HB2 := hid (HB1.out.frm f' (fun h => h)); have HR2 := hid (HR1.out.quiet f'); have HF2 := hid (HF1.out.trans f'); clear f' HB1 HR1 HF1; have HB1 := HB2; have HR1 := HR2; have HF1 := HF2; clear HB2 HR2 HF2; have k0 := HB1.out.cell 0; have k1 := HB1.out.cell 1; have k2 := HB1.out.cell 2; have k3 := HB1.out.cell 3; have k4 := HB1.out.cell 4; (simp only [List.getElem?_cons_succ, List.getElem?_cons_zero] at k0 k1 k2 k3 k4)))
  have HR5 := hid HR1.out; have HB5 := hid HB1.out; have HF5 := hid HF1.out
  clear HR1 HB1 HF1 k0 k1 k2 k3 k4
  obtain ⟨va, vc, rfl⟩ := HR5.out.own.slice
  have HVN := hid (show (R.length : Int) ≤ 4 by have := HLR.out; omega)
  have hrn4 := HVN.out
  have hrn0 : (0 : Int) ≤ (R.length : Int) := by omega
  generalize w3 = w5 at *
  have HL0 := hid (OwnY.nil w5 (fun q => q < w5.heap.size))
  go_loopw [5, 6] (fun lv kv wr => ∃ (k : Nat) (la : Option Addr) (ln lc : Nat), k ≤ R.length ∧ kv = .int .i64 k ∧ lv = .slice la ln lc ∧ OwnY wr (fun q => q < w5.heap.size) (.slice la ln lc) (keepR (R.take k) rc) ∧ badR (R.take k) ⟨rc, rt, rk, ry, rv⟩ = false ∧ Frm (fun _ => False) w5 wr) (fun _ k _ => R.length - (intOf k).toNat)
  case atStart => exact ⟨0, none, 0, 0, Nat.zero_le _, rfl, rfl, HL0.out, rfl, Frm.refl _ _⟩
  case round =>
    clear HL0
    obtain ⟨k, la, ln, lc, hk, rfl, rfl, hl, hbad, hf⟩ := hrel
    generalize wr = wy at *
    have HL := hid hl; have HFY := hid hf; have HBD := hid hbad
    have HLY := hid (show (keepR (R.take k) rc).length ≤ 4 by have h1 : (keepR (R.take k) rc).length ≤ (R.take k).length := List.length_filter_le _ _; rw [List.length_take] at h1; have := HLR.out; omega)
    clear hl hf hbad
    have q0 := (HR5.out.blk.frm HFY.out (fun h => h)).cell 0
    simp only [List.getElem?_cons_zero] at q0
    have k0 := (HB5.out.frm HFY.out (fun h => h)).cell 0; have k1 := (HB5.out.frm HFY.out (fun h => h)).cell 1; have k2 := (HB5.out.frm HFY.out (fun h => h)).cell 2; have k3 := (HB5.out.frm HFY.out (fun h => h)).cell 3; have k4 := (HB5.out.frm HFY.out (fun h => h)).cell 4
    simp only [List.getElem?_cons_succ, List.getElem?_cons_zero] at k0 k1 k2 k3 k4
    by_cases hkl : k < R.length
    · have HKL := hid hkl
      obtain ⟨x, hx⟩ : ∃ x, R[k]? = some x := ⟨_, List.getElem?_eq_getElem hkl⟩
      have HX := hid hx
      obtain ⟨vg, hva, hvc⟩ := ((HR5.out.own.quiet HFY.out).row5).at_ (by omega)
      subst hva
      obtain ⟨xc, xt, xk, xy, xv⟩ := x
      have x0 := hvc k _ hx 0 (by decide); have x1 := hvc k _ hx 1 (by decide); have x2 := hvc k _ hx 2 (by decide); have x3 := hvc k _ hx 3 (by decide); have x4 := hvc k _ hx 4 (by decide)
      simp only [rqC, List.getElem?_cons_succ, List.getElem?_cons_zero, Nat.add_zero] at x0 x1 x2 x3 x4
      have hki : (k : Int) < (R.length : Int) := by omega
      have hk0 : (0 : Int) ≤ (k : Int) := by omega
      have hk4 : (k : Int) < 4 := by omega
      clear hx hvc hk hkl
      by_cases hc : xc = rc
      · have hcb : (xc == rc) = true := beq_iff_eq.2 hc
        have hcn : (xc != rc) = false := by rw [bne, hcb]; rfl
        by_cases ht : rt ≤ xt
        · exact absurd (badR_end HX.out hc ht) (by rw [HBN.out]; decide)
        · have HD := hid (keepR_step rc HX.out)
          have HBS := hid (badR_step (r := ⟨rc, rt, rk, ry, rv⟩) HX.out)
          rw [show ((⟨xc, xt, xk, xy, xv⟩ : Rq).c == rc) = true from hcb, if_pos rfl, List.append_nil] at HD
          clear hc
          go_wp2_with fail
          refine wp_region_held_drew (S := fun wx => wx.cell? ⟨rb, 0, none⟩ = some (.slice (some ⟨vg, 0, none⟩) R.length vc) ∧ wx.cell? ⟨vg, k * 5, none⟩ = some (.int .u8 xc) ∧ wx.cell? ⟨vg, k * 5 + 1, none⟩ = some (.int .u32 xt) ∧ wx.cell? ⟨w.heap.size, 0, none⟩ = some (.int .u8 rc) ∧ wx.cell? ⟨w.heap.size, 1, none⟩ = some (.int .u32 rt)) (by kernel_rfl) ?_ (fun hHeld => ?_)
          · exact ⟨q0, x0, x1, k0, k1⟩
          refine wpAnyH_take (i := 0) (oi := ⟨some 23, _, _, _, _, _⟩) (v := ?v1) rfl (by kernel_rfl) (by kernel_rfl) (by kernel_rfl) (fun _ _ _ h => h) (Or.inl ⟨by rfl, ?y1⟩) (by assumption) ?r1
          case y1 => (intro wx hSx; (try dsimp only at hSx); go_simp; (try with_reducible rfl))
          try simp only [Act.put, List.setIfInBounds_toArray, List.set_cons_zero, List.set_cons_succ]
          refine wpAnyH_take (i := 1) (oi := ⟨some 24, _, _, _, _, _⟩) (v := ?v2) rfl (by kernel_rfl) (by kernel_rfl) (by kernel_rfl) (fun _ _ _ h => h) (Or.inl ⟨by rfl, ?y2⟩) (by assumption) ?r2
          case y2 => (intro wx hSx; (try dsimp only at hSx); go_simp; (try with_reducible rfl))
          try simp only [Act.put, List.setIfInBounds_toArray, List.set_cons_zero, List.set_cons_succ]
          refine wpAnyH_take (i := 2) (oi := ⟨some 25, _, _, _, _, _⟩) (v := ?v3) rfl (by kernel_rfl) (by kernel_rfl) (by kernel_rfl) (fun _ _ _ h => h) (Or.inl ⟨by rfl, ?y3⟩) (by assumption) ?r3
          case y3 => (intro wx hSx; (try dsimp only at hSx); go_simp; (try with_reducible rfl))
          try simp only [Act.put, List.setIfInBounds_toArray, List.set_cons_zero, List.set_cons_succ]
          refine wpAnyH_take (i := 3) (oi := ⟨some 26, _, _, _, _, _⟩) (v := ?v4) rfl (by kernel_rfl) (by kernel_rfl) (by kernel_rfl) (fun _ _ _ h => h) (Or.inl ⟨by rfl, ?y4⟩) (by assumption) ?r4
          case y4 => (intro wx hSx; (try dsimp only at hSx); go_simp; (try with_reducible rfl))
          try simp only [Act.put, List.setIfInBounds_toArray, List.set_cons_zero, List.set_cons_succ]
          refine wpAnyH_take (i := 4) (oi := ⟨some 27, _, _, _, _, _⟩) (v := ?v5) rfl (by kernel_rfl) (by kernel_rfl) (by kernel_rfl) (fun _ _ _ h => h) (Or.inl ⟨by rfl, ?y5⟩) (by assumption) ?r5
          case y5 => (intro wx hSx; (try dsimp only at hSx); go_simp; (try with_reducible rfl))
          try simp only [Act.put, List.setIfInBounds_toArray, List.set_cons_zero, List.set_cons_succ]
          refine wpAnyH_take (i := 5) (oi := ⟨some 28, _, _, _, _, _⟩) (v := ?v6) rfl (by kernel_rfl) (by kernel_rfl) (by kernel_rfl) (fun _ _ _ h => h) (Or.inl ⟨by rfl, ?y6⟩) (by assumption) ?r6
          case y6 => (intro wx hSx; (try dsimp only at hSx); go_simp; (try with_reducible rfl))
          try simp only [Act.put, List.setIfInBounds_toArray, List.set_cons_zero, List.set_cons_succ]
          refine wpAnyH_take (i := 6) (oi := ⟨some 29, _, _, _, _, _⟩) (v := ?v7) rfl (by kernel_rfl) (by kernel_rfl) (by kernel_rfl) (fun _ _ _ h => h) (Or.inl ⟨by rfl, ?y7⟩) (by assumption) ?r7
          case y7 => (intro wx hSx; (try dsimp only at hSx); go_simp; (try with_reducible rfl))
          try simp only [Act.put, List.setIfInBounds_toArray, List.set_cons_zero, List.set_cons_succ]
          refine wpAnyH_take (i := 7) (oi := ⟨some 30, _, _, _, _, _⟩) (v := ?v8) rfl (by kernel_rfl) (by kernel_rfl) (by kernel_rfl) (fun _ _ _ h => h) (Or.inl ⟨by rfl, ?y8⟩) (by assumption) ?r8
          case y8 => (intro wx hSx; (try dsimp only at hSx); go_simp; (try with_reducible rfl))
          try simp only [Act.put, List.setIfInBounds_toArray, List.set_cons_zero, List.set_cons_succ]
          refine wpAnyH_take (i := 8) (oi := ⟨some 31, _, _, _, _, _⟩) (v := ?v9) rfl (by kernel_rfl) (by kernel_rfl) (by kernel_rfl) (fun _ _ _ h => h) (Or.inl ⟨by rfl, ?y9⟩) (by assumption) ?r9
          case y9 => (intro wx hSx; (try dsimp only at hSx); go_simp; (try with_reducible rfl))
          try simp only [Act.put, List.setIfInBounds_toArray, List.set_cons_zero, List.set_cons_succ]
          refine wpAnyH_take (i := 9) (oi := ⟨some 32, _, _, _, _, _⟩) (v := ?v10) rfl (by kernel_rfl) (by kernel_rfl) (by kernel_rfl) (fun _ _ _ h => h) (Or.inl ⟨by rfl, ?y10⟩) (by assumption) ?r10
          case y10 => (intro wx hSx; (try dsimp only at hSx); go_simp; (try with_reducible rfl))
          try simp only [Act.put, List.setIfInBounds_toArray, List.set_cons_zero, List.set_cons_succ]
          refine wpAnyH_take (i := 10) (oi := ⟨some 33, _, _, _, _, _⟩) (v := ?v11) rfl (by kernel_rfl) (by kernel_rfl) (by kernel_rfl) (fun _ _ _ h => h) (Or.inl ⟨by rfl, ?y11⟩) (by assumption) ?r11
          case y11 => (intro wx hSx; (try dsimp only at hSx); go_simp; (try with_reducible rfl))
          try simp only [Act.put, List.setIfInBounds_toArray, List.set_cons_zero, List.set_cons_succ]
          refine wpAnyH_take (i := 11) (oi := ⟨some 34, _, _, _, _, _⟩) (v := ?v12) rfl (by kernel_rfl) (by kernel_rfl) (by kernel_rfl) (fun _ _ _ h => h) (Or.inl ⟨by rfl, ?y12⟩) (by assumption) ?r12
          case y12 => (intro wx hSx; (try dsimp only at hSx); go_simp; (try with_reducible rfl))
          try simp only [Act.put, List.setIfInBounds_toArray, List.set_cons_zero, List.set_cons_succ]
          refine wpAnyH_take (i := 12) (oi := ⟨some 35, _, _, _, _, _⟩) (v := ?v13) rfl (by kernel_rfl) (by kernel_rfl) (by kernel_rfl) (fun _ _ _ h => h) (Or.inl ⟨by rfl, ?y13⟩) (by assumption) ?r13
          case y13 => (intro wx hSx; (try dsimp only at hSx); go_simp; (try with_reducible rfl))
          try simp only [Act.put, List.setIfInBounds_toArray, List.set_cons_zero, List.set_cons_succ]
          refine wpAnyH_take (i := 13) (oi := ⟨some 36, _, _, _, _, _⟩) (v := ?v14) rfl (by kernel_rfl) (by kernel_rfl) (by kernel_rfl) (fun _ _ _ h => h) (Or.inl ⟨by rfl, ?y14⟩) (by assumption) ?r14
          case y14 => (intro wx hSx; (try dsimp only at hSx); go_simp; (try with_reducible rfl))
          try simp only [Act.put, List.setIfInBounds_toArray, List.set_cons_zero, List.set_cons_succ]
          refine wpAnyH_take (i := 14) (oi := ⟨some 37, _, _, _, _, _⟩) (v := ?v15) rfl (by kernel_rfl) (by kernel_rfl) (by kernel_rfl) (fun _ _ _ h => h) (Or.inl ⟨by rfl, ?y15⟩) (by assumption) ?r15
          case y15 => (intro wx hSx; (try dsimp only at hSx); go_simp; (try with_reducible rfl))
          try simp only [Act.put, List.setIfInBounds_toArray, List.set_cons_zero, List.set_cons_succ]
          refine wpAnyH_take (i := 15) (oi := ⟨some 38, _, _, _, _, _⟩) (v := ?v16) rfl (by kernel_rfl) (by kernel_rfl) (by kernel_rfl) (fun _ _ _ h => h) (Or.inl ⟨by rfl, ?y16⟩) (by assumption) ?r16
          case y16 => (intro wx hSx; (try dsimp only at hSx); go_simp; (try with_reducible rfl))
          try simp only [Act.put, List.setIfInBounds_toArray, List.set_cons_zero, List.set_cons_succ]
          refine wpAnyH_take (i := 16) (oi := ⟨some 39, _, _, _, _, _⟩) (v := ?v17) rfl (by kernel_rfl) (by kernel_rfl) (by kernel_rfl) (fun _ _ _ h => h) (Or.inl ⟨by rfl, ?y17⟩) (by assumption) ?r17
          case y17 => (intro wx hSx; (try dsimp only at hSx); go_simp; (try with_reducible rfl))
          try simp only [Act.put, List.setIfInBounds_toArray, List.set_cons_zero, List.set_cons_succ]
          refine wpAnyH_take (i := 17) (oi := ⟨some 40, _, _, _, _, _⟩) (v := ?v18) rfl (by kernel_rfl) (by kernel_rfl) (by kernel_rfl) (fun _ _ _ h => h) (Or.inl ⟨by rfl, ?y18⟩) (by assumption) ?r18
          case y18 => (intro wx hSx; (try dsimp only at hSx); go_simp; (try with_reducible rfl))
          try simp only [Act.put, List.setIfInBounds_toArray, List.set_cons_zero, List.set_cons_succ]
          refine wpAnyH_take (i := 18) (oi := ⟨some 41, _, _, _, _, _⟩) (v := ?v19) rfl (by kernel_rfl) (by kernel_rfl) (by kernel_rfl) (fun _ _ _ h => h) (Or.inl ⟨by rfl, ?y19⟩) (by assumption) ?r19
          case y19 => (intro wx hSx; (try dsimp only at hSx); go_simp; (try with_reducible rfl))
          try simp only [Act.put, List.setIfInBounds_toArray, List.set_cons_zero, List.set_cons_succ]
          refine wpAnyH_take (i := 19) (oi := ⟨some 42, _, _, _, _, _⟩) (v := ?v20) rfl (by kernel_rfl) (by kernel_rfl) (by kernel_rfl) (fun _ _ _ h => h) (Or.inl ⟨by rfl, ?y20⟩) (by assumption) ?r20
          case y20 => (intro wx hSx; (try dsimp only at hSx); go_simp; (try with_reducible rfl))
          try simp only [Act.put, List.setIfInBounds_toArray, List.set_cons_zero, List.set_cons_succ]
          refine wpAnyH_take (i := 20) (oi := ⟨some 43, _, _, _, _, _⟩) (v := ?v21) rfl (by kernel_rfl) (by kernel_rfl) (by kernel_rfl) (fun _ _ _ h => h) (Or.inl ⟨by rfl, ?y21⟩) (by assumption) ?r21
          case y21 => (intro wx hSx; (try dsimp only at hSx); go_simp; (try with_reducible rfl))
          try simp only [Act.put, List.setIfInBounds_toArray, List.set_cons_zero, List.set_cons_succ]
          refine wpAnyH_take (i := 21) (oi := ⟨some 44, _, _, _, _, _⟩) (v := ?v22) rfl (by kernel_rfl) (by kernel_rfl) (by kernel_rfl) (fun _ _ _ h => h) (Or.inl ⟨by rfl, ?y22⟩) (by assumption) ?r22
          case y22 => (intro wx hSx; (try dsimp only at hSx); go_simp; (try with_reducible rfl))
          try simp only [Act.put, List.setIfInBounds_toArray, List.set_cons_zero, List.set_cons_succ]
          refine wpAnyH_take (i := 22) (oi := ⟨some 45, _, _, _, _, _⟩) (v := ?v23) rfl (by kernel_rfl) (by kernel_rfl) (by kernel_rfl) (fun _ _ _ h => h) (Or.inl ⟨by rfl, ?y23⟩) (by assumption) ?r23
          case y23 => (intro wx hSx; (try dsimp only at hSx); go_simp; (try with_reducible rfl))
          try simp only [Act.put, List.setIfInBounds_toArray, List.set_cons_zero, List.set_cons_succ]
          refine wpAnyH_take (i := 23) (oi := ⟨some 46, _, _, _, _, _⟩) (v := ?v24) rfl (by kernel_rfl) (by kernel_rfl) (by kernel_rfl) (fun _ _ _ h => h) (Or.inl ⟨by rfl, ?y24⟩) (by assumption) ?r24
          case y24 => (intro wx hSx; (try dsimp only at hSx); go_simp; (try with_reducible rfl))
          try simp only [Act.put, List.setIfInBounds_toArray, List.set_cons_zero, List.set_cons_succ]
          refine wpAnyH_done (by kernel_rfl) ?_ _
          go_wp2_with fail
          go_wp2_with fail
          refine wp_region_held_drew (S := fun wx => wx.cell? ⟨rb, 0, none⟩ = some (.slice (some ⟨vg, 0, none⟩) R.length vc) ∧ wx.cell? ⟨vg, k * 5, none⟩ = some (.int .u8 xc) ∧ wx.cell? ⟨vg, k * 5 + 1, none⟩ = some (.int .u32 xt) ∧ wx.cell? ⟨w.heap.size, 0, none⟩ = some (.int .u8 rc) ∧ wx.cell? ⟨w.heap.size, 1, none⟩ = some (.int .u32 rt)) (by kernel_rfl) ?_ (fun hHeld => ?_)
          · exact ⟨q0, x0, x1, k0, k1⟩
          refine wpAnyH_take (i := 0) (oi := ⟨some 47, _, _, _, _, _⟩) (v := ?v38) rfl (by kernel_rfl) (by kernel_rfl) (by kernel_rfl) (fun _ _ _ h => h) (Or.inl ⟨by rfl, ?y38⟩) (by assumption) ?r38
          case y38 => (intro wx hSx; (try dsimp only at hSx); go_simp; (try with_reducible rfl))
          try simp only [Act.put, List.setIfInBounds_toArray, List.set_cons_zero, List.set_cons_succ]
          refine wpAnyH_take (i := 1) (oi := ⟨some 48, _, _, _, _, _⟩) (v := ?v39) rfl (by kernel_rfl) (by kernel_rfl) (by kernel_rfl) (fun _ _ _ h => h) (Or.inl ⟨by rfl, ?y39⟩) (by assumption) ?r39
          case y39 => (intro wx hSx; (try dsimp only at hSx); go_simp; (try with_reducible rfl))
          try simp only [Act.put, List.setIfInBounds_toArray, List.set_cons_zero, List.set_cons_succ]
          refine wpAnyH_take (i := 2) (oi := ⟨some 49, _, _, _, _, _⟩) (v := ?v40) rfl (by kernel_rfl) (by kernel_rfl) (by kernel_rfl) (fun _ _ _ h => h) (Or.inl ⟨by rfl, ?y40⟩) (by assumption) ?r40
          case y40 => (intro wx hSx; (try dsimp only at hSx); go_simp; (try with_reducible rfl))
          try simp only [Act.put, List.setIfInBounds_toArray, List.set_cons_zero, List.set_cons_succ]
          refine wpAnyH_take (i := 3) (oi := ⟨some 50, _, _, _, _, _⟩) (v := ?v41) rfl (by kernel_rfl) (by kernel_rfl) (by kernel_rfl) (fun _ _ _ h => h) (Or.inl ⟨by rfl, ?y41⟩) (by assumption) ?r41
          case y41 => (intro wx hSx; (try dsimp only at hSx); go_simp; (try with_reducible rfl))
          try simp only [Act.put, List.setIfInBounds_toArray, List.set_cons_zero, List.set_cons_succ]
          refine wpAnyH_take (i := 4) (oi := ⟨some 51, _, _, _, _, _⟩) (v := ?v42) rfl (by kernel_rfl) (by kernel_rfl) (by kernel_rfl) (fun _ _ _ h => h) (Or.inl ⟨by rfl, ?y42⟩) (by assumption) ?r42
          case y42 => (intro wx hSx; (try dsimp only at hSx); go_simp; (try with_reducible rfl))
          try simp only [Act.put, List.setIfInBounds_toArray, List.set_cons_zero, List.set_cons_succ]
          refine wpAnyH_take (i := 5) (oi := ⟨some 52, _, _, _, _, _⟩) (v := ?v43) rfl (by kernel_rfl) (by kernel_rfl) (by kernel_rfl) (fun _ _ _ h => h) (Or.inl ⟨by rfl, ?y43⟩) (by assumption) ?r43
          case y43 => (intro wx hSx; (try dsimp only at hSx); go_simp; (try with_reducible rfl))
          try simp only [Act.put, List.setIfInBounds_toArray, List.set_cons_zero, List.set_cons_succ]
          refine wpAnyH_take (i := 6) (oi := ⟨some 53, _, _, _, _, _⟩) (v := ?v44) rfl (by kernel_rfl) (by kernel_rfl) (by kernel_rfl) (fun _ _ _ h => h) (Or.inl ⟨by rfl, ?y44⟩) (by assumption) ?r44
          case y44 => (intro wx hSx; (try dsimp only at hSx); go_simp; (try with_reducible rfl))
          try simp only [Act.put, List.setIfInBounds_toArray, List.set_cons_zero, List.set_cons_succ]
          refine wpAnyH_take (i := 7) (oi := ⟨some 54, _, _, _, _, _⟩) (v := ?v45) rfl (by kernel_rfl) (by kernel_rfl) (by kernel_rfl) (fun _ _ _ h => h) (Or.inl ⟨by rfl, ?y45⟩) (by assumption) ?r45
          case y45 => (intro wx hSx; (try dsimp only at hSx); go_simp; (try with_reducible rfl))
          try simp only [Act.put, List.setIfInBounds_toArray, List.set_cons_zero, List.set_cons_succ]
          refine wpAnyH_take (i := 8) (oi := ⟨some 55, _, _, _, _, _⟩) (v := ?v46) rfl (by kernel_rfl) (by kernel_rfl) (by kernel_rfl) (fun _ _ _ h => h) (Or.inl ⟨by rfl, ?y46⟩) (by assumption) ?r46
          case y46 => (intro wx hSx; (try dsimp only at hSx); go_simp; (try with_reducible rfl))
          try simp only [Act.put, List.setIfInBounds_toArray, List.set_cons_zero, List.set_cons_succ]
          refine wpAnyH_take (i := 9) (oi := ⟨some 56, _, _, _, _, _⟩) (v := ?v47) rfl (by kernel_rfl) (by kernel_rfl) (by kernel_rfl) (fun _ _ _ h => h) (Or.inl ⟨by rfl, ?y47⟩) (by assumption) ?r47
          case y47 => (intro wx hSx; (try dsimp only at hSx); go_simp; (try with_reducible rfl))
          try simp only [Act.put, List.setIfInBounds_toArray, List.set_cons_zero, List.set_cons_succ]
          refine wpAnyH_take (i := 10) (oi := ⟨some 57, _, _, _, _, _⟩) (v := ?v48) rfl (by kernel_rfl) (by kernel_rfl) (by kernel_rfl) (fun _ _ _ h => h) (Or.inl ⟨by rfl, ?y48⟩) (by assumption) ?r48
          case y48 => (intro wx hSx; (try dsimp only at hSx); go_simp; (try with_reducible rfl))
          try simp only [Act.put, List.setIfInBounds_toArray, List.set_cons_zero, List.set_cons_succ]
          refine wpAnyH_done (by kernel_rfl) ?_ _
          go_wp2
          go_roundw
          case rel => exact ⟨k + 1, la, ln, lc, by have := HKL.out; omega, by go_num, rfl, by rw [HD.out]; exact HL.out.quiet ((frm_drew _).trans (frm_drew _)), by rw [HBS.out, HBD.out]; simp [ht], HFY.out.trans ((frm_drew _).trans (frm_drew _))⟩
          case measure => have := HKL.out; simp [intOf]; omega
      · have hcb : (xc == rc) = false := beq_eq_false_iff_ne.2 hc
        have hcn : (xc != rc) = true := by rw [bne, hcb]; rfl
        have HD := hid (keepR_step rc HX.out)
        have HBS := hid (badR_step (r := ⟨rc, rt, rk, ry, rv⟩) HX.out)
        rw [show ((⟨xc, xt, xk, xy, xv⟩ : Rq).c == rc) = false from hcb, if_neg (by decide)] at HD
        rw [show ((⟨xc, xt, xk, xy, xv⟩ : Rq).c == (⟨rc, rt, rk, ry, rv⟩ : Rq).c) = false from hcb, Bool.false_and, Bool.or_false, HBD.out] at HBS
        clear hc
        go_wp2_with fail
        refine wp_region_held_drew (S := fun wx => wx.cell? ⟨rb, 0, none⟩ = some (.slice (some ⟨vg, 0, none⟩) R.length vc) ∧ wx.cell? ⟨vg, k * 5, none⟩ = some (.int .u8 xc) ∧ wx.cell? ⟨vg, k * 5 + 1, none⟩ = some (.int .u32 xt) ∧ wx.cell? ⟨w.heap.size, 0, none⟩ = some (.int .u8 rc) ∧ wx.cell? ⟨w.heap.size, 1, none⟩ = some (.int .u32 rt)) (by kernel_rfl) ?_ (fun hHeld => ?_)
        · exact ⟨q0, x0, x1, k0, k1⟩
        refine wpAnyH_take (i := 0) (oi := ⟨some 23, _, _, _, _, _⟩) (v := ?v25) rfl (by kernel_rfl) (by kernel_rfl) (by kernel_rfl) (fun _ _ _ h => h) (Or.inl ⟨by rfl, ?y25⟩) (by assumption) ?r25
        case y25 => (intro wx hSx; (try dsimp only at hSx); go_simp; (try with_reducible rfl))
        try simp only [Act.put, List.setIfInBounds_toArray, List.set_cons_zero, List.set_cons_succ]
        refine wpAnyH_take (i := 1) (oi := ⟨some 24, _, _, _, _, _⟩) (v := ?v26) rfl (by kernel_rfl) (by kernel_rfl) (by kernel_rfl) (fun _ _ _ h => h) (Or.inl ⟨by rfl, ?y26⟩) (by assumption) ?r26
        case y26 => (intro wx hSx; (try dsimp only at hSx); go_simp; (try with_reducible rfl))
        try simp only [Act.put, List.setIfInBounds_toArray, List.set_cons_zero, List.set_cons_succ]
        refine wpAnyH_take (i := 2) (oi := ⟨some 25, _, _, _, _, _⟩) (v := ?v27) rfl (by kernel_rfl) (by kernel_rfl) (by kernel_rfl) (fun _ _ _ h => h) (Or.inl ⟨by rfl, ?y27⟩) (by assumption) ?r27
        case y27 => (intro wx hSx; (try dsimp only at hSx); go_simp; (try with_reducible rfl))
        try simp only [Act.put, List.setIfInBounds_toArray, List.set_cons_zero, List.set_cons_succ]
        refine wpAnyH_take (i := 3) (oi := ⟨some 26, _, _, _, _, _⟩) (v := ?v28) rfl (by kernel_rfl) (by kernel_rfl) (by kernel_rfl) (fun _ _ _ h => h) (Or.inl ⟨by rfl, ?y28⟩) (by assumption) ?r28
        case y28 => (intro wx hSx; (try dsimp only at hSx); go_simp; (try with_reducible rfl))
        try simp only [Act.put, List.setIfInBounds_toArray, List.set_cons_zero, List.set_cons_succ]
        refine wpAnyH_take (i := 4) (oi := ⟨some 27, _, _, _, _, _⟩) (v := ?v29) rfl (by kernel_rfl) (by kernel_rfl) (by kernel_rfl) (fun _ _ _ h => h) (Or.inl ⟨by rfl, ?y29⟩) (by assumption) ?r29
        case y29 => (intro wx hSx; (try dsimp only at hSx); go_simp; (try with_reducible rfl))
        try simp only [Act.put, List.setIfInBounds_toArray, List.set_cons_zero, List.set_cons_succ]
        refine wpAnyH_take (i := 5) (oi := ⟨some 28, _, _, _, _, _⟩) (v := ?v30) rfl (by kernel_rfl) (by kernel_rfl) (by kernel_rfl) (fun _ _ _ h => h) (Or.inl ⟨by rfl, ?y30⟩) (by assumption) ?r30
        case y30 => (intro wx hSx; (try dsimp only at hSx); go_simp; (try with_reducible rfl))
        try simp only [Act.put, List.setIfInBounds_toArray, List.set_cons_zero, List.set_cons_succ]
        refine wpAnyH_take (i := 6) (oi := ⟨some 29, _, _, _, _, _⟩) (v := ?v31) rfl (by kernel_rfl) (by kernel_rfl) (by kernel_rfl) (fun _ _ _ h => h) (Or.inl ⟨by rfl, ?y31⟩) (by assumption) ?r31
        case y31 => (intro wx hSx; (try dsimp only at hSx); go_simp; (try with_reducible rfl))
        try simp only [Act.put, List.setIfInBounds_toArray, List.set_cons_zero, List.set_cons_succ]
        refine wpAnyH_take (i := 7) (oi := ⟨some 30, _, _, _, _, _⟩) (v := ?v32) rfl (by kernel_rfl) (by kernel_rfl) (by kernel_rfl) (fun _ _ _ h => h) (Or.inl ⟨by rfl, ?y32⟩) (by assumption) ?r32
        case y32 => (intro wx hSx; (try dsimp only at hSx); go_simp; (try with_reducible rfl))
        try simp only [Act.put, List.setIfInBounds_toArray, List.set_cons_zero, List.set_cons_succ]
        refine wpAnyH_take (i := 8) (oi := ⟨some 31, _, _, _, _, _⟩) (v := ?v33) rfl (by kernel_rfl) (by kernel_rfl) (by kernel_rfl) (fun _ _ _ h => h) (Or.inl ⟨by rfl, ?y33⟩) (by assumption) ?r33
        case y33 => (intro wx hSx; (try dsimp only at hSx); go_simp; (try with_reducible rfl))
        try simp only [Act.put, List.setIfInBounds_toArray, List.set_cons_zero, List.set_cons_succ]
        refine wpAnyH_take (i := 9) (oi := ⟨some 32, _, _, _, _, _⟩) (v := ?v34) rfl (by kernel_rfl) (by kernel_rfl) (by kernel_rfl) (fun _ _ _ h => h) (Or.inl ⟨by rfl, ?y34⟩) (by assumption) ?r34
        case y34 => (intro wx hSx; (try dsimp only at hSx); go_simp; (try with_reducible rfl))
        try simp only [Act.put, List.setIfInBounds_toArray, List.set_cons_zero, List.set_cons_succ]
        refine wpAnyH_take (i := 10) (oi := ⟨some 33, _, _, _, _, _⟩) (v := ?v35) rfl (by kernel_rfl) (by kernel_rfl) (by kernel_rfl) (fun _ _ _ h => h) (Or.inl ⟨by rfl, ?y35⟩) (by assumption) ?r35
        case y35 => (intro wx hSx; (try dsimp only at hSx); go_simp; (try with_reducible rfl))
        try simp only [Act.put, List.setIfInBounds_toArray, List.set_cons_zero, List.set_cons_succ]
        refine wpAnyH_take (i := 11) (oi := ⟨some 34, _, _, _, _, _⟩) (v := ?v36) rfl (by kernel_rfl) (by kernel_rfl) (by kernel_rfl) (fun _ _ _ h => h) (Or.inl ⟨by rfl, ?y36⟩) (by assumption) ?r36
        case y36 => (intro wx hSx; (try dsimp only at hSx); go_simp; (try with_reducible rfl))
        try simp only [Act.put, List.setIfInBounds_toArray, List.set_cons_zero, List.set_cons_succ]
        refine wpAnyH_take (i := 12) (oi := ⟨some 35, _, _, _, _, _⟩) (v := undef) rfl (by kernel_rfl) (by kernel_rfl) (by kernel_rfl) (fun _ _ _ h => h) (Or.inr ⟨by rfl, rfl⟩) (by assumption) ?_
        try simp only [Act.put, List.setIfInBounds_toArray, List.set_cons_zero, List.set_cons_succ]
        refine wpAnyH_take (i := 13) (oi := ⟨some 36, _, _, _, _, _⟩) (v := undef) rfl (by kernel_rfl) (by kernel_rfl) (by kernel_rfl) (fun _ _ _ h => h) (Or.inr ⟨by rfl, rfl⟩) (by assumption) ?_
        try simp only [Act.put, List.setIfInBounds_toArray, List.set_cons_zero, List.set_cons_succ]
        refine wpAnyH_take (i := 14) (oi := ⟨some 37, _, _, _, _, _⟩) (v := undef) rfl (by kernel_rfl) (by kernel_rfl) (by kernel_rfl) (fun _ _ _ h => h) (Or.inr ⟨by rfl, rfl⟩) (by assumption) ?_
        try simp only [Act.put, List.setIfInBounds_toArray, List.set_cons_zero, List.set_cons_succ]
        refine wpAnyH_take (i := 15) (oi := ⟨some 38, _, _, _, _, _⟩) (v := undef) rfl (by kernel_rfl) (by kernel_rfl) (by kernel_rfl) (fun _ _ _ h => h) (Or.inr ⟨by rfl, rfl⟩) (by assumption) ?_
        try simp only [Act.put, List.setIfInBounds_toArray, List.set_cons_zero, List.set_cons_succ]
        refine wpAnyH_take (i := 16) (oi := ⟨some 39, _, _, _, _, _⟩) (v := undef) rfl (by kernel_rfl) (by kernel_rfl) (by kernel_rfl) (fun _ _ _ h => h) (Or.inr ⟨by rfl, rfl⟩) (by assumption) ?_
        try simp only [Act.put, List.setIfInBounds_toArray, List.set_cons_zero, List.set_cons_succ]
        refine wpAnyH_take (i := 17) (oi := ⟨some 40, _, _, _, _, _⟩) (v := undef) rfl (by kernel_rfl) (by kernel_rfl) (by kernel_rfl) (fun _ _ _ h => h) (Or.inr ⟨by rfl, rfl⟩) (by assumption) ?_
        try simp only [Act.put, List.setIfInBounds_toArray, List.set_cons_zero, List.set_cons_succ]
        refine wpAnyH_take (i := 18) (oi := ⟨some 41, _, _, _, _, _⟩) (v := undef) rfl (by kernel_rfl) (by kernel_rfl) (by kernel_rfl) (fun _ _ _ h => h) (Or.inr ⟨by rfl, rfl⟩) (by assumption) ?_
        try simp only [Act.put, List.setIfInBounds_toArray, List.set_cons_zero, List.set_cons_succ]
        refine wpAnyH_take (i := 19) (oi := ⟨some 42, _, _, _, _, _⟩) (v := undef) rfl (by kernel_rfl) (by kernel_rfl) (by kernel_rfl) (fun _ _ _ h => h) (Or.inr ⟨by rfl, rfl⟩) (by assumption) ?_
        try simp only [Act.put, List.setIfInBounds_toArray, List.set_cons_zero, List.set_cons_succ]
        refine wpAnyH_take (i := 20) (oi := ⟨some 43, _, _, _, _, _⟩) (v := undef) rfl (by kernel_rfl) (by kernel_rfl) (by kernel_rfl) (fun _ _ _ h => h) (Or.inr ⟨by rfl, rfl⟩) (by assumption) ?_
        try simp only [Act.put, List.setIfInBounds_toArray, List.set_cons_zero, List.set_cons_succ]
        refine wpAnyH_take (i := 21) (oi := ⟨some 44, _, _, _, _, _⟩) (v := undef) rfl (by kernel_rfl) (by kernel_rfl) (by kernel_rfl) (fun _ _ _ h => h) (Or.inr ⟨by rfl, rfl⟩) (by assumption) ?_
        try simp only [Act.put, List.setIfInBounds_toArray, List.set_cons_zero, List.set_cons_succ]
        refine wpAnyH_take (i := 22) (oi := ⟨some 45, _, _, _, _, _⟩) (v := undef) rfl (by kernel_rfl) (by kernel_rfl) (by kernel_rfl) (fun _ _ _ h => h) (Or.inr ⟨by rfl, rfl⟩) (by assumption) ?_
        try simp only [Act.put, List.setIfInBounds_toArray, List.set_cons_zero, List.set_cons_succ]
        refine wpAnyH_take (i := 23) (oi := ⟨some 46, _, _, _, _, _⟩) (v := ?v37) rfl (by kernel_rfl) (by kernel_rfl) (by kernel_rfl) (fun _ _ _ h => h) (Or.inl ⟨by rfl, ?y37⟩) (by assumption) ?r37
        case y37 => (intro wx hSx; (try dsimp only at hSx); go_simp; (try with_reducible rfl))
        try simp only [Act.put, List.setIfInBounds_toArray, List.set_cons_zero, List.set_cons_succ]
        refine wpAnyH_done (by kernel_rfl) ?_ _
        go_wp2_with fail
        go_wp2_with fail
        refine wp_region_held_drew (S := fun wx => wx.cell? ⟨rb, 0, none⟩ = some (.slice (some ⟨vg, 0, none⟩) R.length vc) ∧ wx.cell? ⟨vg, k * 5, none⟩ = some (.int .u8 xc) ∧ wx.cell? ⟨vg, k * 5 + 1, none⟩ = some (.int .u32 xt) ∧ wx.cell? ⟨w.heap.size, 0, none⟩ = some (.int .u8 rc) ∧ wx.cell? ⟨w.heap.size, 1, none⟩ = some (.int .u32 rt)) (by kernel_rfl) ?_ (fun hHeld => ?_)
        · exact ⟨q0, x0, x1, k0, k1⟩
        refine wpAnyH_take (i := 0) (oi := ⟨some 47, _, _, _, _, _⟩) (v := ?v49) rfl (by kernel_rfl) (by kernel_rfl) (by kernel_rfl) (fun _ _ _ h => h) (Or.inl ⟨by rfl, ?y49⟩) (by assumption) ?r49
        case y49 => (intro wx hSx; (try dsimp only at hSx); go_simp; (try with_reducible rfl))
        try simp only [Act.put, List.setIfInBounds_toArray, List.set_cons_zero, List.set_cons_succ]
        refine wpAnyH_take (i := 1) (oi := ⟨some 48, _, _, _, _, _⟩) (v := ?v50) rfl (by kernel_rfl) (by kernel_rfl) (by kernel_rfl) (fun _ _ _ h => h) (Or.inl ⟨by rfl, ?y50⟩) (by assumption) ?r50
        case y50 => (intro wx hSx; (try dsimp only at hSx); go_simp; (try with_reducible rfl))
        try simp only [Act.put, List.setIfInBounds_toArray, List.set_cons_zero, List.set_cons_succ]
        refine wpAnyH_take (i := 2) (oi := ⟨some 49, _, _, _, _, _⟩) (v := ?v51) rfl (by kernel_rfl) (by kernel_rfl) (by kernel_rfl) (fun _ _ _ h => h) (Or.inl ⟨by rfl, ?y51⟩) (by assumption) ?r51
        case y51 => (intro wx hSx; (try dsimp only at hSx); go_simp; (try with_reducible rfl))
        try simp only [Act.put, List.setIfInBounds_toArray, List.set_cons_zero, List.set_cons_succ]
        refine wpAnyH_take (i := 3) (oi := ⟨some 50, _, _, _, _, _⟩) (v := ?v52) rfl (by kernel_rfl) (by kernel_rfl) (by kernel_rfl) (fun _ _ _ h => h) (Or.inl ⟨by rfl, ?y52⟩) (by assumption) ?r52
        case y52 => (intro wx hSx; (try dsimp only at hSx); go_simp; (try with_reducible rfl))
        try simp only [Act.put, List.setIfInBounds_toArray, List.set_cons_zero, List.set_cons_succ]
        refine wpAnyH_take (i := 4) (oi := ⟨some 51, _, _, _, _, _⟩) (v := ?v53) rfl (by kernel_rfl) (by kernel_rfl) (by kernel_rfl) (fun _ _ _ h => h) (Or.inl ⟨by rfl, ?y53⟩) (by assumption) ?r53
        case y53 => (intro wx hSx; (try dsimp only at hSx); go_simp; (try with_reducible rfl))
        try simp only [Act.put, List.setIfInBounds_toArray, List.set_cons_zero, List.set_cons_succ]
        refine wpAnyH_take (i := 5) (oi := ⟨some 52, _, _, _, _, _⟩) (v := ?v54) rfl (by kernel_rfl) (by kernel_rfl) (by kernel_rfl) (fun _ _ _ h => h) (Or.inl ⟨by rfl, ?y54⟩) (by assumption) ?r54
        case y54 => (intro wx hSx; (try dsimp only at hSx); go_simp; (try with_reducible rfl))
        try simp only [Act.put, List.setIfInBounds_toArray, List.set_cons_zero, List.set_cons_succ]
        refine wpAnyH_take (i := 6) (oi := ⟨some 53, _, _, _, _, _⟩) (v := ?v55) rfl (by kernel_rfl) (by kernel_rfl) (by kernel_rfl) (fun _ _ _ h => h) (Or.inl ⟨by rfl, ?y55⟩) (by assumption) ?r55
        case y55 => (intro wx hSx; (try dsimp only at hSx); go_simp; (try with_reducible rfl))
        try simp only [Act.put, List.setIfInBounds_toArray, List.set_cons_zero, List.set_cons_succ]
        refine wpAnyH_take (i := 7) (oi := ⟨some 54, _, _, _, _, _⟩) (v := ?v56) rfl (by kernel_rfl) (by kernel_rfl) (by kernel_rfl) (fun _ _ _ h => h) (Or.inl ⟨by rfl, ?y56⟩) (by assumption) ?r56
        case y56 => (intro wx hSx; (try dsimp only at hSx); go_simp; (try with_reducible rfl))
        try simp only [Act.put, List.setIfInBounds_toArray, List.set_cons_zero, List.set_cons_succ]
        refine wpAnyH_take (i := 8) (oi := ⟨some 55, _, _, _, _, _⟩) (v := ?v57) rfl (by kernel_rfl) (by kernel_rfl) (by kernel_rfl) (fun _ _ _ h => h) (Or.inl ⟨by rfl, ?y57⟩) (by assumption) ?r57
        case y57 => (intro wx hSx; (try dsimp only at hSx); go_simp; (try with_reducible rfl))
        try simp only [Act.put, List.setIfInBounds_toArray, List.set_cons_zero, List.set_cons_succ]
        refine wpAnyH_take (i := 9) (oi := ⟨some 56, _, _, _, _, _⟩) (v := ?v58) rfl (by kernel_rfl) (by kernel_rfl) (by kernel_rfl) (fun _ _ _ h => h) (Or.inl ⟨by rfl, ?y58⟩) (by assumption) ?r58
        case y58 => (intro wx hSx; (try dsimp only at hSx); go_simp; (try with_reducible rfl))
        try simp only [Act.put, List.setIfInBounds_toArray, List.set_cons_zero, List.set_cons_succ]
        refine wpAnyH_take (i := 10) (oi := ⟨some 57, _, _, _, _, _⟩) (v := ?v59) rfl (by kernel_rfl) (by kernel_rfl) (by kernel_rfl) (fun _ _ _ h => h) (Or.inl ⟨by rfl, ?y59⟩) (by assumption) ?r59
        case y59 => (intro wx hSx; (try dsimp only at hSx); go_simp; (try with_reducible rfl))
        try simp only [Act.put, List.setIfInBounds_toArray, List.set_cons_zero, List.set_cons_succ]
        refine wpAnyH_done (by kernel_rfl) ?_ _
        go_wp2_with (at_builtin; refine wpList_moreY ⟨xc, xt, xk, xy, xv⟩ rfl _ _ rfl rfl ((HL.out.quiet (qbox wy (.cells #[.int .u8 xc, .int .u32 xt, .int .u8 xk, .int .u8 xy, .int .u16 xv] TRq))).quiet ((frm_drew (wy.alloc (.cells #[.int .u8 xc, .int .u32 xt, .int .u8 xk, .int .u8 xy, .int .u16 xv] TRq))).trans (frm_drew _))) (fun q hq => by have := HFY.out.size; simp; omega) ((Blk.new wy (rqC ⟨xc, xt, xk, xy, xv⟩) TRq).frm ((frm_drew (wy.alloc (.cells #[.int .u8 xc, .int .u32 xt, .int .u8 xk, .int .u8 xy, .int .u16 xv] TRq))).trans (frm_drew _)) (fun h => h)) (by have := HLY.out; omega) rfl rfl ?_; intro v' w6 ho' hf' hat'; obtain ⟨la6, lc6, hv6⟩ := ho'.slice; obtain ⟨ln6, hn6⟩ : ∃ ln6, (keepR (R.take k) rc ++ [(⟨xc, xt, xk, xy, xv⟩ : Rq)]).length = ln6 := ⟨_, rfl⟩; rw [hn6] at hv6; subst hv6; have HL6 := hid ho'; have HF6 := hid (((HFY.out.trans (qbox wy (.cells #[.int .u8 xc, .int .u32 xt, .int .u8 xk, .int .u8 xy, .int .u16 xv] TRq))).trans ((frm_drew (wy.alloc (.cells #[.int .u8 xc, .int .u32 xt, .int .u8 xk, .int .u8 xy, .int .u16 xv] TRq))).trans (frm_drew _))).trans' hf' (fun q hq hk => (show ¬ q < w5.heap.size from HL.out.off q hk) hq)); clear ho' hf' hat' hn6)
        go_roundw
        case rel => exact ⟨k + 1, la6, ln6, lc6, by have := HKL.out; omega, by go_num, rfl, by rw [HD.out]; exact HL6.out, HBS.out, HF6.out⟩
        case measure => have := HKL.out; simp [intOf]; omega
    · have hke : k = R.length := by omega
      subst hke
      clear hkl hk
      have HLT5 := hid (show rb < w5.heap.size from HR5.out.blk.lt)
      go_wp2_with (at_builtin; refine wpList_moreY ⟨rc, rt, rk, ry, rv⟩ rfl _ _ rfl rfl (HL.out.quiet (qbox wy (.cells #[.int .u8 rc, .int .u32 rt, .int .u8 rk, .int .u8 ry, .int .u16 rv] TRq))) (fun q hq => by have := HFY.out.size; simp; omega) (Blk.new wy (rqC ⟨rc, rt, rk, ry, rv⟩) TRq) (by have := HLY.out; omega) rfl rfl ?_; intro v' w6 ho' hf' hat'; obtain ⟨la6, lc6, hv6⟩ := ho'.slice; obtain ⟨ln6, hn6⟩ : ∃ ln6, (keepR (R.take R.length) rc ++ [(⟨rc, rt, rk, ry, rv⟩ : Rq)]).length = ln6 := ⟨_, rfl⟩; rw [hn6] at hv6; subst hv6; have HL6 := hid ho'; have HF6 := hid ((HFY.out.trans (qbox wy (.cells #[.int .u8 rc, .int .u32 rt, .int .u8 rk, .int .u8 ry, .int .u16 rv] TRq))).trans' hf' (fun q hq hk => (show ¬ q < w5.heap.size from HL.out.off q hk) hq)); have HRB6 := hid (HR5.out.blk.frm HF6.out (fun h => h)); have HFW := hid (Frm.mono (HF5.out.trans HF6.out) (S' := (· = rb)) (fun _ _ h => h.elim)); clear ho' hf' hat' hn6; clear q0; have q0 := HRB6.out.cell 0; have z0 := HRB6.out.free 0; (simp only [List.getElem?_cons_zero] at q0))
      go_ret
      refine ⟨rfl, ⟨_, HRB6.out.setCell 0 (.slice la6 ln6 lc6), ?_⟩, HFW.out.setCell _ _ (.inr rfl)⟩
      have h7 : Frm (· = rb) w6 (w6.setCell ⟨rb, 0, none⟩ (.slice la6 ln6 lc6)) := (Frm.refl _ _).setCell _ _ (.inr rfl)
      have h8 := HL6.out.frm h7 (fun q hq e => (show ¬ q < w5.heap.size from HL6.out.off q hq) (by subst e; exact HLT5.out))
      have h9 : keepR (R.take R.length) rc = keepR R rc := by rw [List.take_length]
      rw [h9] at h8
      exact ⟨h8.own, fun q hq hA => h8.off q hq (Nat.lt_of_le_of_lt hA HLT5.out)⟩
set_option maxHeartbeats 16000000 in
theorem RPut_bad {w : World} {rb : Nat} {v : Value} {R : List Rq} (h : IsRQ w rb v R) (hlr : R.length ≤ 4) (r : Rq) (hz : isReal r.c r.t r.k r.y r.v = true) (hbn : badR R r = true) :
    Calls Try.prog 13 #[.pointer (some ⟨rb, 0, none⟩), .agg #[.int .u8 r.c, .int .u32 r.t, .int .u8 r.k, .int .u8 r.y, .int .u16 r.v]] w fun e w' => e = .returned (.bool false) ∧ IsRQ w' rb v R ∧ Frm (fun _ => False) w w' := by
  obtain ⟨rc, rt, rk, ry, rv⟩ := r
  have HB1 := hid (Blk.new w [.int .u8 rc, .int .u32 rt, .int .u8 rk, .int .u8 ry, .int .u16 rv] TRq)
  have HR1 := hid (h.quiet (qbox w (.cells #[.int .u8 rc, .int .u32 rt, .int .u8 rk, .int .u8 ry, .int .u16 rv] TRq)))
  have HF1 := hid (qbox w (.cells #[.int .u8 rc, .int .u32 rt, .int .u8 rk, .int .u8 ry, .int .u16 rv] TRq))
  have k0 := HB1.out.cell 0; have k1 := HB1.out.cell 1; have k2 := HB1.out.cell 2; have k3 := HB1.out.cell 3; have k4 := HB1.out.cell 4
  simp only [List.getElem?_cons_succ, List.getElem?_cons_zero] at k0 k1 k2 k3 k4
  dsimp only at hz
  have HLR := hid hlr; have HBN := hid hbn
  have HIR := hid (show (isNull rc rt rk ry rv || isReal rc rt rk ry rv) = true by rw [hz, Bool.or_true])
  have HNU := hid (show isNull rc rt rk ry rv = false by
    refine decide_eq_false fun hh => ?_
    have := of_decide_eq_true hz
    omega)
  clear h hz hlr hbn
  go_enter Try.func13, Try.ntmps13
  go_wp2_with (first
    | (go_at_call 24; (with_reducible refine (RIsReq_calls _ rc rt rk ry rv true HIR.out).mono ?_); rintro e w2 ⟨rfl, f'⟩; clear k0 k1 k2 k3 k4; have HB2 := hid (HB1.out.frm f' (fun h => h)); have HR2 := hid (HR1.out.quiet f'); have HF2 := hid (HF1.out.trans f'); clear f' HB1 HR1 HF1; have HB1 := HB2; have HR1 := HR2; have HF1 := HF2; clear HB2 HR2 HF2; have k0 := HB1.out.cell 0; have k1 := HB1.out.cell 1; have k2 := HB1.out.cell 2; have k3 := HB1.out.cell 3; have k4 := HB1.out.cell 4; (simp only [List.getElem?_cons_succ, List.getElem?_cons_zero] at k0 k1 k2 k3 k4))
    | (go_at_call 25; (with_reducible refine (RNull_calls _ rc rt rk ry rv false HNU.out).mono ?_); rintro e w3 ⟨rfl, f'⟩; clear k0 k1 k2 k3 k4; have HB2 := hid (HB1.out.frm f' (fun h => h)); have HR2 := hid (HR1.out.quiet f'); have HF2 := hid (HF1.out.trans f'); clear f' HB1 HR1 HF1; have HB1 := HB2; have HR1 := HR2; have HF1 := HF2; clear HB2 HR2 HF2; have k0 := HB1.out.cell 0; have k1 := HB1.out.cell 1; have k2 := HB1.out.cell 2; have k3 := HB1.out.cell 3; have k4 := HB1.out.cell 4; (simp only [List.getElem?_cons_succ, List.getElem?_cons_zero] at k0 k1 k2 k3 k4)))
  have HR5 := hid HR1.out; have HB5 := hid HB1.out; have HF5 := hid HF1.out
  clear HR1 HB1 HF1 k0 k1 k2 k3 k4
  obtain ⟨va, vc, rfl⟩ := HR5.out.own.slice
  have HVN := hid (show (R.length : Int) ≤ 4 by have := HLR.out; omega)
  have hrn4 := HVN.out
  have hrn0 : (0 : Int) ≤ (R.length : Int) := by omega
  generalize w3 = w5 at *
  have HL0 := hid (OwnY.nil w5 (fun q => q < w5.heap.size))
  go_loopw [5, 6] (fun lv kv wr => ∃ (k : Nat) (la : Option Addr) (ln lc : Nat), k ≤ R.length ∧ kv = .int .i64 k ∧ lv = .slice la ln lc ∧ OwnY wr (fun q => q < w5.heap.size) (.slice la ln lc) (keepR (R.take k) rc) ∧ badR (R.take k) ⟨rc, rt, rk, ry, rv⟩ = false ∧ Frm (fun _ => False) w5 wr) (fun _ k _ => R.length - (intOf k).toNat)
  case atStart => exact ⟨0, none, 0, 0, Nat.zero_le _, rfl, rfl, HL0.out, rfl, Frm.refl _ _⟩
  case round =>
    clear HL0
    obtain ⟨k, la, ln, lc, hk, rfl, rfl, hl, hbad, hf⟩ := hrel
    generalize wr = wy at *
    have HL := hid hl; have HFY := hid hf; have HBD := hid hbad
    have HLY := hid (show (keepR (R.take k) rc).length ≤ 4 by have h1 : (keepR (R.take k) rc).length ≤ (R.take k).length := List.length_filter_le _ _; rw [List.length_take] at h1; have := HLR.out; omega)
    clear hl hf hbad
    have q0 := (HR5.out.blk.frm HFY.out (fun h => h)).cell 0
    simp only [List.getElem?_cons_zero] at q0
    have k0 := (HB5.out.frm HFY.out (fun h => h)).cell 0; have k1 := (HB5.out.frm HFY.out (fun h => h)).cell 1; have k2 := (HB5.out.frm HFY.out (fun h => h)).cell 2; have k3 := (HB5.out.frm HFY.out (fun h => h)).cell 3; have k4 := (HB5.out.frm HFY.out (fun h => h)).cell 4
    simp only [List.getElem?_cons_succ, List.getElem?_cons_zero] at k0 k1 k2 k3 k4
    by_cases hkl : k < R.length
    · have HKL := hid hkl
      obtain ⟨x, hx⟩ : ∃ x, R[k]? = some x := ⟨_, List.getElem?_eq_getElem hkl⟩
      have HX := hid hx
      obtain ⟨vg, hva, hvc⟩ := ((HR5.out.own.quiet HFY.out).row5).at_ (by omega)
      subst hva
      obtain ⟨xc, xt, xk, xy, xv⟩ := x
      have x0 := hvc k _ hx 0 (by decide); have x1 := hvc k _ hx 1 (by decide); have x2 := hvc k _ hx 2 (by decide); have x3 := hvc k _ hx 3 (by decide); have x4 := hvc k _ hx 4 (by decide)
      simp only [rqC, List.getElem?_cons_succ, List.getElem?_cons_zero, Nat.add_zero] at x0 x1 x2 x3 x4
      have hki : (k : Int) < (R.length : Int) := by omega
      have hk0 : (0 : Int) ≤ (k : Int) := by omega
      have hk4 : (k : Int) < 4 := by omega
      clear hx hvc hk hkl
      by_cases hc : xc = rc
      · have hcb : (xc == rc) = true := beq_iff_eq.2 hc
        have hcn : (xc != rc) = false := by rw [bne, hcb]; rfl
        by_cases ht : rt ≤ xt
        · clear hc
          go_wp2_with fail
          refine wp_region_held_drew (S := fun wx => wx.cell? ⟨rb, 0, none⟩ = some (.slice (some ⟨vg, 0, none⟩) R.length vc) ∧ wx.cell? ⟨vg, k * 5, none⟩ = some (.int .u8 xc) ∧ wx.cell? ⟨vg, k * 5 + 1, none⟩ = some (.int .u32 xt) ∧ wx.cell? ⟨w.heap.size, 0, none⟩ = some (.int .u8 rc) ∧ wx.cell? ⟨w.heap.size, 1, none⟩ = some (.int .u32 rt)) (by kernel_rfl) ?_ (fun hHeld => ?_)
          · exact ⟨q0, x0, x1, k0, k1⟩
          refine wpAnyH_take (i := 0) (oi := ⟨some 23, _, _, _, _, _⟩) (v := ?v1) rfl (by kernel_rfl) (by kernel_rfl) (by kernel_rfl) (fun _ _ _ h => h) (Or.inl ⟨by rfl, ?y1⟩) (by assumption) ?r1
          case y1 => (intro wx hSx; (try dsimp only at hSx); go_simp; (try with_reducible rfl))
          try simp only [Act.put, List.setIfInBounds_toArray, List.set_cons_zero, List.set_cons_succ]
          refine wpAnyH_take (i := 1) (oi := ⟨some 24, _, _, _, _, _⟩) (v := ?v2) rfl (by kernel_rfl) (by kernel_rfl) (by kernel_rfl) (fun _ _ _ h => h) (Or.inl ⟨by rfl, ?y2⟩) (by assumption) ?r2
          case y2 => (intro wx hSx; (try dsimp only at hSx); go_simp; (try with_reducible rfl))
          try simp only [Act.put, List.setIfInBounds_toArray, List.set_cons_zero, List.set_cons_succ]
          refine wpAnyH_take (i := 2) (oi := ⟨some 25, _, _, _, _, _⟩) (v := ?v3) rfl (by kernel_rfl) (by kernel_rfl) (by kernel_rfl) (fun _ _ _ h => h) (Or.inl ⟨by rfl, ?y3⟩) (by assumption) ?r3
          case y3 => (intro wx hSx; (try dsimp only at hSx); go_simp; (try with_reducible rfl))
          try simp only [Act.put, List.setIfInBounds_toArray, List.set_cons_zero, List.set_cons_succ]
          refine wpAnyH_take (i := 3) (oi := ⟨some 26, _, _, _, _, _⟩) (v := ?v4) rfl (by kernel_rfl) (by kernel_rfl) (by kernel_rfl) (fun _ _ _ h => h) (Or.inl ⟨by rfl, ?y4⟩) (by assumption) ?r4
          case y4 => (intro wx hSx; (try dsimp only at hSx); go_simp; (try with_reducible rfl))
          try simp only [Act.put, List.setIfInBounds_toArray, List.set_cons_zero, List.set_cons_succ]
          refine wpAnyH_take (i := 4) (oi := ⟨some 27, _, _, _, _, _⟩) (v := ?v5) rfl (by kernel_rfl) (by kernel_rfl) (by kernel_rfl) (fun _ _ _ h => h) (Or.inl ⟨by rfl, ?y5⟩) (by assumption) ?r5
          case y5 => (intro wx hSx; (try dsimp only at hSx); go_simp; (try with_reducible rfl))
          try simp only [Act.put, List.setIfInBounds_toArray, List.set_cons_zero, List.set_cons_succ]
          refine wpAnyH_take (i := 5) (oi := ⟨some 28, _, _, _, _, _⟩) (v := ?v6) rfl (by kernel_rfl) (by kernel_rfl) (by kernel_rfl) (fun _ _ _ h => h) (Or.inl ⟨by rfl, ?y6⟩) (by assumption) ?r6
          case y6 => (intro wx hSx; (try dsimp only at hSx); go_simp; (try with_reducible rfl))
          try simp only [Act.put, List.setIfInBounds_toArray, List.set_cons_zero, List.set_cons_succ]
          refine wpAnyH_take (i := 6) (oi := ⟨some 29, _, _, _, _, _⟩) (v := ?v7) rfl (by kernel_rfl) (by kernel_rfl) (by kernel_rfl) (fun _ _ _ h => h) (Or.inl ⟨by rfl, ?y7⟩) (by assumption) ?r7
          case y7 => (intro wx hSx; (try dsimp only at hSx); go_simp; (try with_reducible rfl))
          try simp only [Act.put, List.setIfInBounds_toArray, List.set_cons_zero, List.set_cons_succ]
          refine wpAnyH_take (i := 7) (oi := ⟨some 30, _, _, _, _, _⟩) (v := ?v8) rfl (by kernel_rfl) (by kernel_rfl) (by kernel_rfl) (fun _ _ _ h => h) (Or.inl ⟨by rfl, ?y8⟩) (by assumption) ?r8
          case y8 => (intro wx hSx; (try dsimp only at hSx); go_simp; (try with_reducible rfl))
          try simp only [Act.put, List.setIfInBounds_toArray, List.set_cons_zero, List.set_cons_succ]
          refine wpAnyH_take (i := 8) (oi := ⟨some 31, _, _, _, _, _⟩) (v := ?v9) rfl (by kernel_rfl) (by kernel_rfl) (by kernel_rfl) (fun _ _ _ h => h) (Or.inl ⟨by rfl, ?y9⟩) (by assumption) ?r9
          case y9 => (intro wx hSx; (try dsimp only at hSx); go_simp; (try with_reducible rfl))
          try simp only [Act.put, List.setIfInBounds_toArray, List.set_cons_zero, List.set_cons_succ]
          refine wpAnyH_take (i := 9) (oi := ⟨some 32, _, _, _, _, _⟩) (v := ?v10) rfl (by kernel_rfl) (by kernel_rfl) (by kernel_rfl) (fun _ _ _ h => h) (Or.inl ⟨by rfl, ?y10⟩) (by assumption) ?r10
          case y10 => (intro wx hSx; (try dsimp only at hSx); go_simp; (try with_reducible rfl))
          try simp only [Act.put, List.setIfInBounds_toArray, List.set_cons_zero, List.set_cons_succ]
          refine wpAnyH_take (i := 10) (oi := ⟨some 33, _, _, _, _, _⟩) (v := ?v11) rfl (by kernel_rfl) (by kernel_rfl) (by kernel_rfl) (fun _ _ _ h => h) (Or.inl ⟨by rfl, ?y11⟩) (by assumption) ?r11
          case y11 => (intro wx hSx; (try dsimp only at hSx); go_simp; (try with_reducible rfl))
          try simp only [Act.put, List.setIfInBounds_toArray, List.set_cons_zero, List.set_cons_succ]
          refine wpAnyH_take (i := 11) (oi := ⟨some 34, _, _, _, _, _⟩) (v := ?v12) rfl (by kernel_rfl) (by kernel_rfl) (by kernel_rfl) (fun _ _ _ h => h) (Or.inl ⟨by rfl, ?y12⟩) (by assumption) ?r12
          case y12 => (intro wx hSx; (try dsimp only at hSx); go_simp; (try with_reducible rfl))
          try simp only [Act.put, List.setIfInBounds_toArray, List.set_cons_zero, List.set_cons_succ]
          refine wpAnyH_take (i := 12) (oi := ⟨some 35, _, _, _, _, _⟩) (v := ?v13) rfl (by kernel_rfl) (by kernel_rfl) (by kernel_rfl) (fun _ _ _ h => h) (Or.inl ⟨by rfl, ?y13⟩) (by assumption) ?r13
          case y13 => (intro wx hSx; (try dsimp only at hSx); go_simp; (try with_reducible rfl))
          try simp only [Act.put, List.setIfInBounds_toArray, List.set_cons_zero, List.set_cons_succ]
          refine wpAnyH_take (i := 13) (oi := ⟨some 36, _, _, _, _, _⟩) (v := ?v14) rfl (by kernel_rfl) (by kernel_rfl) (by kernel_rfl) (fun _ _ _ h => h) (Or.inl ⟨by rfl, ?y14⟩) (by assumption) ?r14
          case y14 => (intro wx hSx; (try dsimp only at hSx); go_simp; (try with_reducible rfl))
          try simp only [Act.put, List.setIfInBounds_toArray, List.set_cons_zero, List.set_cons_succ]
          refine wpAnyH_take (i := 14) (oi := ⟨some 37, _, _, _, _, _⟩) (v := ?v15) rfl (by kernel_rfl) (by kernel_rfl) (by kernel_rfl) (fun _ _ _ h => h) (Or.inl ⟨by rfl, ?y15⟩) (by assumption) ?r15
          case y15 => (intro wx hSx; (try dsimp only at hSx); go_simp; (try with_reducible rfl))
          try simp only [Act.put, List.setIfInBounds_toArray, List.set_cons_zero, List.set_cons_succ]
          refine wpAnyH_take (i := 15) (oi := ⟨some 38, _, _, _, _, _⟩) (v := ?v16) rfl (by kernel_rfl) (by kernel_rfl) (by kernel_rfl) (fun _ _ _ h => h) (Or.inl ⟨by rfl, ?y16⟩) (by assumption) ?r16
          case y16 => (intro wx hSx; (try dsimp only at hSx); go_simp; (try with_reducible rfl))
          try simp only [Act.put, List.setIfInBounds_toArray, List.set_cons_zero, List.set_cons_succ]
          refine wpAnyH_take (i := 16) (oi := ⟨some 39, _, _, _, _, _⟩) (v := ?v17) rfl (by kernel_rfl) (by kernel_rfl) (by kernel_rfl) (fun _ _ _ h => h) (Or.inl ⟨by rfl, ?y17⟩) (by assumption) ?r17
          case y17 => (intro wx hSx; (try dsimp only at hSx); go_simp; (try with_reducible rfl))
          try simp only [Act.put, List.setIfInBounds_toArray, List.set_cons_zero, List.set_cons_succ]
          refine wpAnyH_take (i := 17) (oi := ⟨some 40, _, _, _, _, _⟩) (v := ?v18) rfl (by kernel_rfl) (by kernel_rfl) (by kernel_rfl) (fun _ _ _ h => h) (Or.inl ⟨by rfl, ?y18⟩) (by assumption) ?r18
          case y18 => (intro wx hSx; (try dsimp only at hSx); go_simp; (try with_reducible rfl))
          try simp only [Act.put, List.setIfInBounds_toArray, List.set_cons_zero, List.set_cons_succ]
          refine wpAnyH_take (i := 18) (oi := ⟨some 41, _, _, _, _, _⟩) (v := ?v19) rfl (by kernel_rfl) (by kernel_rfl) (by kernel_rfl) (fun _ _ _ h => h) (Or.inl ⟨by rfl, ?y19⟩) (by assumption) ?r19
          case y19 => (intro wx hSx; (try dsimp only at hSx); go_simp; (try with_reducible rfl))
          try simp only [Act.put, List.setIfInBounds_toArray, List.set_cons_zero, List.set_cons_succ]
          refine wpAnyH_take (i := 19) (oi := ⟨some 42, _, _, _, _, _⟩) (v := ?v20) rfl (by kernel_rfl) (by kernel_rfl) (by kernel_rfl) (fun _ _ _ h => h) (Or.inl ⟨by rfl, ?y20⟩) (by assumption) ?r20
          case y20 => (intro wx hSx; (try dsimp only at hSx); go_simp; (try with_reducible rfl))
          try simp only [Act.put, List.setIfInBounds_toArray, List.set_cons_zero, List.set_cons_succ]
          refine wpAnyH_take (i := 20) (oi := ⟨some 43, _, _, _, _, _⟩) (v := ?v21) rfl (by kernel_rfl) (by kernel_rfl) (by kernel_rfl) (fun _ _ _ h => h) (Or.inl ⟨by rfl, ?y21⟩) (by assumption) ?r21
          case y21 => (intro wx hSx; (try dsimp only at hSx); go_simp; (try with_reducible rfl))
          try simp only [Act.put, List.setIfInBounds_toArray, List.set_cons_zero, List.set_cons_succ]
          refine wpAnyH_take (i := 21) (oi := ⟨some 44, _, _, _, _, _⟩) (v := ?v22) rfl (by kernel_rfl) (by kernel_rfl) (by kernel_rfl) (fun _ _ _ h => h) (Or.inl ⟨by rfl, ?y22⟩) (by assumption) ?r22
          case y22 => (intro wx hSx; (try dsimp only at hSx); go_simp; (try with_reducible rfl))
          try simp only [Act.put, List.setIfInBounds_toArray, List.set_cons_zero, List.set_cons_succ]
          refine wpAnyH_take (i := 22) (oi := ⟨some 45, _, _, _, _, _⟩) (v := ?v23) rfl (by kernel_rfl) (by kernel_rfl) (by kernel_rfl) (fun _ _ _ h => h) (Or.inl ⟨by rfl, ?y23⟩) (by assumption) ?r23
          case y23 => (intro wx hSx; (try dsimp only at hSx); go_simp; (try with_reducible rfl))
          try simp only [Act.put, List.setIfInBounds_toArray, List.set_cons_zero, List.set_cons_succ]
          refine wpAnyH_take (i := 23) (oi := ⟨some 46, _, _, _, _, _⟩) (v := ?v24) rfl (by kernel_rfl) (by kernel_rfl) (by kernel_rfl) (fun _ _ _ h => h) (Or.inl ⟨by rfl, ?y24⟩) (by assumption) ?r24
          case y24 => (intro wx hSx; (try dsimp only at hSx); go_simp; (try with_reducible rfl))
          try simp only [Act.put, List.setIfInBounds_toArray, List.set_cons_zero, List.set_cons_succ]
          refine wpAnyH_done (by kernel_rfl) ?_ _
          go_wp2
          (try simp only [Exit.inBlock, Exit.then])
          refine bodyPost_ret (results_tmp rfl _ _ _) rfl ⟨rfl, HR5.out.quiet (HFY.out.trans (frm_drew _)), HF5.out.trans (HFY.out.trans (frm_drew _))⟩
        · have HD := hid (keepR_step rc HX.out)
          have HBS := hid (badR_step (r := ⟨rc, rt, rk, ry, rv⟩) HX.out)
          rw [show ((⟨xc, xt, xk, xy, xv⟩ : Rq).c == rc) = true from hcb, if_pos rfl, List.append_nil] at HD
          clear hc
          go_wp2_with fail
          refine wp_region_held_drew (S := fun wx => wx.cell? ⟨rb, 0, none⟩ = some (.slice (some ⟨vg, 0, none⟩) R.length vc) ∧ wx.cell? ⟨vg, k * 5, none⟩ = some (.int .u8 xc) ∧ wx.cell? ⟨vg, k * 5 + 1, none⟩ = some (.int .u32 xt) ∧ wx.cell? ⟨w.heap.size, 0, none⟩ = some (.int .u8 rc) ∧ wx.cell? ⟨w.heap.size, 1, none⟩ = some (.int .u32 rt)) (by kernel_rfl) ?_ (fun hHeld => ?_)
          · exact ⟨q0, x0, x1, k0, k1⟩
          refine wpAnyH_take (i := 0) (oi := ⟨some 23, _, _, _, _, _⟩) (v := ?v25) rfl (by kernel_rfl) (by kernel_rfl) (by kernel_rfl) (fun _ _ _ h => h) (Or.inl ⟨by rfl, ?y25⟩) (by assumption) ?r25
          case y25 => (intro wx hSx; (try dsimp only at hSx); go_simp; (try with_reducible rfl))
          try simp only [Act.put, List.setIfInBounds_toArray, List.set_cons_zero, List.set_cons_succ]
          refine wpAnyH_take (i := 1) (oi := ⟨some 24, _, _, _, _, _⟩) (v := ?v26) rfl (by kernel_rfl) (by kernel_rfl) (by kernel_rfl) (fun _ _ _ h => h) (Or.inl ⟨by rfl, ?y26⟩) (by assumption) ?r26
          case y26 => (intro wx hSx; (try dsimp only at hSx); go_simp; (try with_reducible rfl))
          try simp only [Act.put, List.setIfInBounds_toArray, List.set_cons_zero, List.set_cons_succ]
          refine wpAnyH_take (i := 2) (oi := ⟨some 25, _, _, _, _, _⟩) (v := ?v27) rfl (by kernel_rfl) (by kernel_rfl) (by kernel_rfl) (fun _ _ _ h => h) (Or.inl ⟨by rfl, ?y27⟩) (by assumption) ?r27
          case y27 => (intro wx hSx; (try dsimp only at hSx); go_simp; (try with_reducible rfl))
          try simp only [Act.put, List.setIfInBounds_toArray, List.set_cons_zero, List.set_cons_succ]
          refine wpAnyH_take (i := 3) (oi := ⟨some 26, _, _, _, _, _⟩) (v := ?v28) rfl (by kernel_rfl) (by kernel_rfl) (by kernel_rfl) (fun _ _ _ h => h) (Or.inl ⟨by rfl, ?y28⟩) (by assumption) ?r28
          case y28 => (intro wx hSx; (try dsimp only at hSx); go_simp; (try with_reducible rfl))
          try simp only [Act.put, List.setIfInBounds_toArray, List.set_cons_zero, List.set_cons_succ]
          refine wpAnyH_take (i := 4) (oi := ⟨some 27, _, _, _, _, _⟩) (v := ?v29) rfl (by kernel_rfl) (by kernel_rfl) (by kernel_rfl) (fun _ _ _ h => h) (Or.inl ⟨by rfl, ?y29⟩) (by assumption) ?r29
          case y29 => (intro wx hSx; (try dsimp only at hSx); go_simp; (try with_reducible rfl))
          try simp only [Act.put, List.setIfInBounds_toArray, List.set_cons_zero, List.set_cons_succ]
          refine wpAnyH_take (i := 5) (oi := ⟨some 28, _, _, _, _, _⟩) (v := ?v30) rfl (by kernel_rfl) (by kernel_rfl) (by kernel_rfl) (fun _ _ _ h => h) (Or.inl ⟨by rfl, ?y30⟩) (by assumption) ?r30
          case y30 => (intro wx hSx; (try dsimp only at hSx); go_simp; (try with_reducible rfl))
          try simp only [Act.put, List.setIfInBounds_toArray, List.set_cons_zero, List.set_cons_succ]
          refine wpAnyH_take (i := 6) (oi := ⟨some 29, _, _, _, _, _⟩) (v := ?v31) rfl (by kernel_rfl) (by kernel_rfl) (by kernel_rfl) (fun _ _ _ h => h) (Or.inl ⟨by rfl, ?y31⟩) (by assumption) ?r31
          case y31 => (intro wx hSx; (try dsimp only at hSx); go_simp; (try with_reducible rfl))
          try simp only [Act.put, List.setIfInBounds_toArray, List.set_cons_zero, List.set_cons_succ]
          refine wpAnyH_take (i := 7) (oi := ⟨some 30, _, _, _, _, _⟩) (v := ?v32) rfl (by kernel_rfl) (by kernel_rfl) (by kernel_rfl) (fun _ _ _ h => h) (Or.inl ⟨by rfl, ?y32⟩) (by assumption) ?r32
          case y32 => (intro wx hSx; (try dsimp only at hSx); go_simp; (try with_reducible rfl))
          try simp only [Act.put, List.setIfInBounds_toArray, List.set_cons_zero, List.set_cons_succ]
          refine wpAnyH_take (i := 8) (oi := ⟨some 31, _, _, _, _, _⟩) (v := ?v33) rfl (by kernel_rfl) (by kernel_rfl) (by kernel_rfl) (fun _ _ _ h => h) (Or.inl ⟨by rfl, ?y33⟩) (by assumption) ?r33
          case y33 => (intro wx hSx; (try dsimp only at hSx); go_simp; (try with_reducible rfl))
          try simp only [Act.put, List.setIfInBounds_toArray, List.set_cons_zero, List.set_cons_succ]
          refine wpAnyH_take (i := 9) (oi := ⟨some 32, _, _, _, _, _⟩) (v := ?v34) rfl (by kernel_rfl) (by kernel_rfl) (by kernel_rfl) (fun _ _ _ h => h) (Or.inl ⟨by rfl, ?y34⟩) (by assumption) ?r34
          case y34 => (intro wx hSx; (try dsimp only at hSx); go_simp; (try with_reducible rfl))
          try simp only [Act.put, List.setIfInBounds_toArray, List.set_cons_zero, List.set_cons_succ]
          refine wpAnyH_take (i := 10) (oi := ⟨some 33, _, _, _, _, _⟩) (v := ?v35) rfl (by kernel_rfl) (by kernel_rfl) (by kernel_rfl) (fun _ _ _ h => h) (Or.inl ⟨by rfl, ?y35⟩) (by assumption) ?r35
          case y35 => (intro wx hSx; (try dsimp only at hSx); go_simp; (try with_reducible rfl))
          try simp only [Act.put, List.setIfInBounds_toArray, List.set_cons_zero, List.set_cons_succ]
          refine wpAnyH_take (i := 11) (oi := ⟨some 34, _, _, _, _, _⟩) (v := ?v36) rfl (by kernel_rfl) (by kernel_rfl) (by kernel_rfl) (fun _ _ _ h => h) (Or.inl ⟨by rfl, ?y36⟩) (by assumption) ?r36
          case y36 => (intro wx hSx; (try dsimp only at hSx); go_simp; (try with_reducible rfl))
          try simp only [Act.put, List.setIfInBounds_toArray, List.set_cons_zero, List.set_cons_succ]
          refine wpAnyH_take (i := 12) (oi := ⟨some 35, _, _, _, _, _⟩) (v := ?v37) rfl (by kernel_rfl) (by kernel_rfl) (by kernel_rfl) (fun _ _ _ h => h) (Or.inl ⟨by rfl, ?y37⟩) (by assumption) ?r37
          case y37 => (intro wx hSx; (try dsimp only at hSx); go_simp; (try with_reducible rfl))
          try simp only [Act.put, List.setIfInBounds_toArray, List.set_cons_zero, List.set_cons_succ]
          refine wpAnyH_take (i := 13) (oi := ⟨some 36, _, _, _, _, _⟩) (v := ?v38) rfl (by kernel_rfl) (by kernel_rfl) (by kernel_rfl) (fun _ _ _ h => h) (Or.inl ⟨by rfl, ?y38⟩) (by assumption) ?r38
          case y38 => (intro wx hSx; (try dsimp only at hSx); go_simp; (try with_reducible rfl))
          try simp only [Act.put, List.setIfInBounds_toArray, List.set_cons_zero, List.set_cons_succ]
          refine wpAnyH_take (i := 14) (oi := ⟨some 37, _, _, _, _, _⟩) (v := ?v39) rfl (by kernel_rfl) (by kernel_rfl) (by kernel_rfl) (fun _ _ _ h => h) (Or.inl ⟨by rfl, ?y39⟩) (by assumption) ?r39
          case y39 => (intro wx hSx; (try dsimp only at hSx); go_simp; (try with_reducible rfl))
          try simp only [Act.put, List.setIfInBounds_toArray, List.set_cons_zero, List.set_cons_succ]
          refine wpAnyH_take (i := 15) (oi := ⟨some 38, _, _, _, _, _⟩) (v := ?v40) rfl (by kernel_rfl) (by kernel_rfl) (by kernel_rfl) (fun _ _ _ h => h) (Or.inl ⟨by rfl, ?y40⟩) (by assumption) ?r40
          case y40 => (intro wx hSx; (try dsimp only at hSx); go_simp; (try with_reducible rfl))
          try simp only [Act.put, List.setIfInBounds_toArray, List.set_cons_zero, List.set_cons_succ]
          refine wpAnyH_take (i := 16) (oi := ⟨some 39, _, _, _, _, _⟩) (v := ?v41) rfl (by kernel_rfl) (by kernel_rfl) (by kernel_rfl) (fun _ _ _ h => h) (Or.inl ⟨by rfl, ?y41⟩) (by assumption) ?r41
          case y41 => (intro wx hSx; (try dsimp only at hSx); go_simp; (try with_reducible rfl))
          try simp only [Act.put, List.setIfInBounds_toArray, List.set_cons_zero, List.set_cons_succ]
          refine wpAnyH_take (i := 17) (oi := ⟨some 40, _, _, _, _, _⟩) (v := ?v42) rfl (by kernel_rfl) (by kernel_rfl) (by kernel_rfl) (fun _ _ _ h => h) (Or.inl ⟨by rfl, ?y42⟩) (by assumption) ?r42
          case y42 => (intro wx hSx; (try dsimp only at hSx); go_simp; (try with_reducible rfl))
          try simp only [Act.put, List.setIfInBounds_toArray, List.set_cons_zero, List.set_cons_succ]
          refine wpAnyH_take (i := 18) (oi := ⟨some 41, _, _, _, _, _⟩) (v := ?v43) rfl (by kernel_rfl) (by kernel_rfl) (by kernel_rfl) (fun _ _ _ h => h) (Or.inl ⟨by rfl, ?y43⟩) (by assumption) ?r43
          case y43 => (intro wx hSx; (try dsimp only at hSx); go_simp; (try with_reducible rfl))
          try simp only [Act.put, List.setIfInBounds_toArray, List.set_cons_zero, List.set_cons_succ]
          refine wpAnyH_take (i := 19) (oi := ⟨some 42, _, _, _, _, _⟩) (v := ?v44) rfl (by kernel_rfl) (by kernel_rfl) (by kernel_rfl) (fun _ _ _ h => h) (Or.inl ⟨by rfl, ?y44⟩) (by assumption) ?r44
          case y44 => (intro wx hSx; (try dsimp only at hSx); go_simp; (try with_reducible rfl))
          try simp only [Act.put, List.setIfInBounds_toArray, List.set_cons_zero, List.set_cons_succ]
          refine wpAnyH_take (i := 20) (oi := ⟨some 43, _, _, _, _, _⟩) (v := ?v45) rfl (by kernel_rfl) (by kernel_rfl) (by kernel_rfl) (fun _ _ _ h => h) (Or.inl ⟨by rfl, ?y45⟩) (by assumption) ?r45
          case y45 => (intro wx hSx; (try dsimp only at hSx); go_simp; (try with_reducible rfl))
          try simp only [Act.put, List.setIfInBounds_toArray, List.set_cons_zero, List.set_cons_succ]
          refine wpAnyH_take (i := 21) (oi := ⟨some 44, _, _, _, _, _⟩) (v := ?v46) rfl (by kernel_rfl) (by kernel_rfl) (by kernel_rfl) (fun _ _ _ h => h) (Or.inl ⟨by rfl, ?y46⟩) (by assumption) ?r46
          case y46 => (intro wx hSx; (try dsimp only at hSx); go_simp; (try with_reducible rfl))
          try simp only [Act.put, List.setIfInBounds_toArray, List.set_cons_zero, List.set_cons_succ]
          refine wpAnyH_take (i := 22) (oi := ⟨some 45, _, _, _, _, _⟩) (v := ?v47) rfl (by kernel_rfl) (by kernel_rfl) (by kernel_rfl) (fun _ _ _ h => h) (Or.inl ⟨by rfl, ?y47⟩) (by assumption) ?r47
          case y47 => (intro wx hSx; (try dsimp only at hSx); go_simp; (try with_reducible rfl))
          try simp only [Act.put, List.setIfInBounds_toArray, List.set_cons_zero, List.set_cons_succ]
          refine wpAnyH_take (i := 23) (oi := ⟨some 46, _, _, _, _, _⟩) (v := ?v48) rfl (by kernel_rfl) (by kernel_rfl) (by kernel_rfl) (fun _ _ _ h => h) (Or.inl ⟨by rfl, ?y48⟩) (by assumption) ?r48
          case y48 => (intro wx hSx; (try dsimp only at hSx); go_simp; (try with_reducible rfl))
          try simp only [Act.put, List.setIfInBounds_toArray, List.set_cons_zero, List.set_cons_succ]
          refine wpAnyH_done (by kernel_rfl) ?_ _
          go_wp2_with fail
          go_wp2_with fail
          refine wp_region_held_drew (S := fun wx => wx.cell? ⟨rb, 0, none⟩ = some (.slice (some ⟨vg, 0, none⟩) R.length vc) ∧ wx.cell? ⟨vg, k * 5, none⟩ = some (.int .u8 xc) ∧ wx.cell? ⟨vg, k * 5 + 1, none⟩ = some (.int .u32 xt) ∧ wx.cell? ⟨w.heap.size, 0, none⟩ = some (.int .u8 rc) ∧ wx.cell? ⟨w.heap.size, 1, none⟩ = some (.int .u32 rt)) (by kernel_rfl) ?_ (fun hHeld => ?_)
          · exact ⟨q0, x0, x1, k0, k1⟩
          refine wpAnyH_take (i := 0) (oi := ⟨some 47, _, _, _, _, _⟩) (v := ?v62) rfl (by kernel_rfl) (by kernel_rfl) (by kernel_rfl) (fun _ _ _ h => h) (Or.inl ⟨by rfl, ?y62⟩) (by assumption) ?r62
          case y62 => (intro wx hSx; (try dsimp only at hSx); go_simp; (try with_reducible rfl))
          try simp only [Act.put, List.setIfInBounds_toArray, List.set_cons_zero, List.set_cons_succ]
          refine wpAnyH_take (i := 1) (oi := ⟨some 48, _, _, _, _, _⟩) (v := ?v63) rfl (by kernel_rfl) (by kernel_rfl) (by kernel_rfl) (fun _ _ _ h => h) (Or.inl ⟨by rfl, ?y63⟩) (by assumption) ?r63
          case y63 => (intro wx hSx; (try dsimp only at hSx); go_simp; (try with_reducible rfl))
          try simp only [Act.put, List.setIfInBounds_toArray, List.set_cons_zero, List.set_cons_succ]
          refine wpAnyH_take (i := 2) (oi := ⟨some 49, _, _, _, _, _⟩) (v := ?v64) rfl (by kernel_rfl) (by kernel_rfl) (by kernel_rfl) (fun _ _ _ h => h) (Or.inl ⟨by rfl, ?y64⟩) (by assumption) ?r64
          case y64 => (intro wx hSx; (try dsimp only at hSx); go_simp; (try with_reducible rfl))
          try simp only [Act.put, List.setIfInBounds_toArray, List.set_cons_zero, List.set_cons_succ]
          refine wpAnyH_take (i := 3) (oi := ⟨some 50, _, _, _, _, _⟩) (v := ?v65) rfl (by kernel_rfl) (by kernel_rfl) (by kernel_rfl) (fun _ _ _ h => h) (Or.inl ⟨by rfl, ?y65⟩) (by assumption) ?r65
          case y65 => (intro wx hSx; (try dsimp only at hSx); go_simp; (try with_reducible rfl))
          try simp only [Act.put, List.setIfInBounds_toArray, List.set_cons_zero, List.set_cons_succ]
          refine wpAnyH_take (i := 4) (oi := ⟨some 51, _, _, _, _, _⟩) (v := ?v66) rfl (by kernel_rfl) (by kernel_rfl) (by kernel_rfl) (fun _ _ _ h => h) (Or.inl ⟨by rfl, ?y66⟩) (by assumption) ?r66
          case y66 => (intro wx hSx; (try dsimp only at hSx); go_simp; (try with_reducible rfl))
          try simp only [Act.put, List.setIfInBounds_toArray, List.set_cons_zero, List.set_cons_succ]
          refine wpAnyH_take (i := 5) (oi := ⟨some 52, _, _, _, _, _⟩) (v := ?v67) rfl (by kernel_rfl) (by kernel_rfl) (by kernel_rfl) (fun _ _ _ h => h) (Or.inl ⟨by rfl, ?y67⟩) (by assumption) ?r67
          case y67 => (intro wx hSx; (try dsimp only at hSx); go_simp; (try with_reducible rfl))
          try simp only [Act.put, List.setIfInBounds_toArray, List.set_cons_zero, List.set_cons_succ]
          refine wpAnyH_take (i := 6) (oi := ⟨some 53, _, _, _, _, _⟩) (v := ?v68) rfl (by kernel_rfl) (by kernel_rfl) (by kernel_rfl) (fun _ _ _ h => h) (Or.inl ⟨by rfl, ?y68⟩) (by assumption) ?r68
          case y68 => (intro wx hSx; (try dsimp only at hSx); go_simp; (try with_reducible rfl))
          try simp only [Act.put, List.setIfInBounds_toArray, List.set_cons_zero, List.set_cons_succ]
          refine wpAnyH_take (i := 7) (oi := ⟨some 54, _, _, _, _, _⟩) (v := ?v69) rfl (by kernel_rfl) (by kernel_rfl) (by kernel_rfl) (fun _ _ _ h => h) (Or.inl ⟨by rfl, ?y69⟩) (by assumption) ?r69
          case y69 => (intro wx hSx; (try dsimp only at hSx); go_simp; (try with_reducible rfl))
          try simp only [Act.put, List.setIfInBounds_toArray, List.set_cons_zero, List.set_cons_succ]
          refine wpAnyH_take (i := 8) (oi := ⟨some 55, _, _, _, _, _⟩) (v := ?v70) rfl (by kernel_rfl) (by kernel_rfl) (by kernel_rfl) (fun _ _ _ h => h) (Or.inl ⟨by rfl, ?y70⟩) (by assumption) ?r70
          case y70 => (intro wx hSx; (try dsimp only at hSx); go_simp; (try with_reducible rfl))
          try simp only [Act.put, List.setIfInBounds_toArray, List.set_cons_zero, List.set_cons_succ]
          refine wpAnyH_take (i := 9) (oi := ⟨some 56, _, _, _, _, _⟩) (v := ?v71) rfl (by kernel_rfl) (by kernel_rfl) (by kernel_rfl) (fun _ _ _ h => h) (Or.inl ⟨by rfl, ?y71⟩) (by assumption) ?r71
          case y71 => (intro wx hSx; (try dsimp only at hSx); go_simp; (try with_reducible rfl))
          try simp only [Act.put, List.setIfInBounds_toArray, List.set_cons_zero, List.set_cons_succ]
          refine wpAnyH_take (i := 10) (oi := ⟨some 57, _, _, _, _, _⟩) (v := ?v72) rfl (by kernel_rfl) (by kernel_rfl) (by kernel_rfl) (fun _ _ _ h => h) (Or.inl ⟨by rfl, ?y72⟩) (by assumption) ?r72
          case y72 => (intro wx hSx; (try dsimp only at hSx); go_simp; (try with_reducible rfl))
          try simp only [Act.put, List.setIfInBounds_toArray, List.set_cons_zero, List.set_cons_succ]
          refine wpAnyH_done (by kernel_rfl) ?_ _
          go_wp2
          go_roundw
          case rel => exact ⟨k + 1, la, ln, lc, by have := HKL.out; omega, by go_num, rfl, by rw [HD.out]; exact HL.out.quiet ((frm_drew _).trans (frm_drew _)), by rw [HBS.out, HBD.out]; simp [ht], HFY.out.trans ((frm_drew _).trans (frm_drew _))⟩
          case measure => have := HKL.out; simp [intOf]; omega
      · have hcb : (xc == rc) = false := beq_eq_false_iff_ne.2 hc
        have hcn : (xc != rc) = true := by rw [bne, hcb]; rfl
        have HD := hid (keepR_step rc HX.out)
        have HBS := hid (badR_step (r := ⟨rc, rt, rk, ry, rv⟩) HX.out)
        rw [show ((⟨xc, xt, xk, xy, xv⟩ : Rq).c == rc) = false from hcb, if_neg (by decide)] at HD
        rw [show ((⟨xc, xt, xk, xy, xv⟩ : Rq).c == (⟨rc, rt, rk, ry, rv⟩ : Rq).c) = false from hcb, Bool.false_and, Bool.or_false, HBD.out] at HBS
        clear hc
        go_wp2_with fail
        refine wp_region_held_drew (S := fun wx => wx.cell? ⟨rb, 0, none⟩ = some (.slice (some ⟨vg, 0, none⟩) R.length vc) ∧ wx.cell? ⟨vg, k * 5, none⟩ = some (.int .u8 xc) ∧ wx.cell? ⟨vg, k * 5 + 1, none⟩ = some (.int .u32 xt) ∧ wx.cell? ⟨w.heap.size, 0, none⟩ = some (.int .u8 rc) ∧ wx.cell? ⟨w.heap.size, 1, none⟩ = some (.int .u32 rt)) (by kernel_rfl) ?_ (fun hHeld => ?_)
        · exact ⟨q0, x0, x1, k0, k1⟩
        refine wpAnyH_take (i := 0) (oi := ⟨some 23, _, _, _, _, _⟩) (v := ?v49) rfl (by kernel_rfl) (by kernel_rfl) (by kernel_rfl) (fun _ _ _ h => h) (Or.inl ⟨by rfl, ?y49⟩) (by assumption) ?r49
        case y49 => (intro wx hSx; (try dsimp only at hSx); go_simp; (try with_reducible rfl))
        try simp only [Act.put, List.setIfInBounds_toArray, List.set_cons_zero, List.set_cons_succ]
        refine wpAnyH_take (i := 1) (oi := ⟨some 24, _, _, _, _, _⟩) (v := ?v50) rfl (by kernel_rfl) (by kernel_rfl) (by kernel_rfl) (fun _ _ _ h => h) (Or.inl ⟨by rfl, ?y50⟩) (by assumption) ?r50
        case y50 => (intro wx hSx; (try dsimp only at hSx); go_simp; (try with_reducible rfl))
        try simp only [Act.put, List.setIfInBounds_toArray, List.set_cons_zero, List.set_cons_succ]
        refine wpAnyH_take (i := 2) (oi := ⟨some 25, _, _, _, _, _⟩) (v := ?v51) rfl (by kernel_rfl) (by kernel_rfl) (by kernel_rfl) (fun _ _ _ h => h) (Or.inl ⟨by rfl, ?y51⟩) (by assumption) ?r51
        case y51 => (intro wx hSx; (try dsimp only at hSx); go_simp; (try with_reducible rfl))
        try simp only [Act.put, List.setIfInBounds_toArray, List.set_cons_zero, List.set_cons_succ]
        refine wpAnyH_take (i := 3) (oi := ⟨some 26, _, _, _, _, _⟩) (v := ?v52) rfl (by kernel_rfl) (by kernel_rfl) (by kernel_rfl) (fun _ _ _ h => h) (Or.inl ⟨by rfl, ?y52⟩) (by assumption) ?r52
        case y52 => (intro wx hSx; (try dsimp only at hSx); go_simp; (try with_reducible rfl))
        try simp only [Act.put, List.setIfInBounds_toArray, List.set_cons_zero, List.set_cons_succ]
        refine wpAnyH_take (i := 4) (oi := ⟨some 27, _, _, _, _, _⟩) (v := ?v53) rfl (by kernel_rfl) (by kernel_rfl) (by kernel_rfl) (fun _ _ _ h => h) (Or.inl ⟨by rfl, ?y53⟩) (by assumption) ?r53
        case y53 => (intro wx hSx; (try dsimp only at hSx); go_simp; (try with_reducible rfl))
        try simp only [Act.put, List.setIfInBounds_toArray, List.set_cons_zero, List.set_cons_succ]
        refine wpAnyH_take (i := 5) (oi := ⟨some 28, _, _, _, _, _⟩) (v := ?v54) rfl (by kernel_rfl) (by kernel_rfl) (by kernel_rfl) (fun _ _ _ h => h) (Or.inl ⟨by rfl, ?y54⟩) (by assumption) ?r54
        case y54 => (intro wx hSx; (try dsimp only at hSx); go_simp; (try with_reducible rfl))
        try simp only [Act.put, List.setIfInBounds_toArray, List.set_cons_zero, List.set_cons_succ]
        refine wpAnyH_take (i := 6) (oi := ⟨some 29, _, _, _, _, _⟩) (v := ?v55) rfl (by kernel_rfl) (by kernel_rfl) (by kernel_rfl) (fun _ _ _ h => h) (Or.inl ⟨by rfl, ?y55⟩) (by assumption) ?r55
        case y55 => (intro wx hSx; (try dsimp only at hSx); go_simp; (try with_reducible rfl))
        try simp only [Act.put, List.setIfInBounds_toArray, List.set_cons_zero, List.set_cons_succ]
        refine wpAnyH_take (i := 7) (oi := ⟨some 30, _, _, _, _, _⟩) (v := ?v56) rfl (by kernel_rfl) (by kernel_rfl) (by kernel_rfl) (fun _ _ _ h => h) (Or.inl ⟨by rfl, ?y56⟩) (by assumption) ?r56
        case y56 => (intro wx hSx; (try dsimp only at hSx); go_simp; (try with_reducible rfl))
        try simp only [Act.put, List.setIfInBounds_toArray, List.set_cons_zero, List.set_cons_succ]
        refine wpAnyH_take (i := 8) (oi := ⟨some 31, _, _, _, _, _⟩) (v := ?v57) rfl (by kernel_rfl) (by kernel_rfl) (by kernel_rfl) (fun _ _ _ h => h) (Or.inl ⟨by rfl, ?y57⟩) (by assumption) ?r57
        case y57 => (intro wx hSx; (try dsimp only at hSx); go_simp; (try with_reducible rfl))
        try simp only [Act.put, List.setIfInBounds_toArray, List.set_cons_zero, List.set_cons_succ]
        refine wpAnyH_take (i := 9) (oi := ⟨some 32, _, _, _, _, _⟩) (v := ?v58) rfl (by kernel_rfl) (by kernel_rfl) (by kernel_rfl) (fun _ _ _ h => h) (Or.inl ⟨by rfl, ?y58⟩) (by assumption) ?r58
        case y58 => (intro wx hSx; (try dsimp only at hSx); go_simp; (try with_reducible rfl))
        try simp only [Act.put, List.setIfInBounds_toArray, List.set_cons_zero, List.set_cons_succ]
        refine wpAnyH_take (i := 10) (oi := ⟨some 33, _, _, _, _, _⟩) (v := ?v59) rfl (by kernel_rfl) (by kernel_rfl) (by kernel_rfl) (fun _ _ _ h => h) (Or.inl ⟨by rfl, ?y59⟩) (by assumption) ?r59
        case y59 => (intro wx hSx; (try dsimp only at hSx); go_simp; (try with_reducible rfl))
        try simp only [Act.put, List.setIfInBounds_toArray, List.set_cons_zero, List.set_cons_succ]
        refine wpAnyH_take (i := 11) (oi := ⟨some 34, _, _, _, _, _⟩) (v := ?v60) rfl (by kernel_rfl) (by kernel_rfl) (by kernel_rfl) (fun _ _ _ h => h) (Or.inl ⟨by rfl, ?y60⟩) (by assumption) ?r60
        case y60 => (intro wx hSx; (try dsimp only at hSx); go_simp; (try with_reducible rfl))
        try simp only [Act.put, List.setIfInBounds_toArray, List.set_cons_zero, List.set_cons_succ]
        refine wpAnyH_take (i := 12) (oi := ⟨some 35, _, _, _, _, _⟩) (v := undef) rfl (by kernel_rfl) (by kernel_rfl) (by kernel_rfl) (fun _ _ _ h => h) (Or.inr ⟨by rfl, rfl⟩) (by assumption) ?_
        try simp only [Act.put, List.setIfInBounds_toArray, List.set_cons_zero, List.set_cons_succ]
        refine wpAnyH_take (i := 13) (oi := ⟨some 36, _, _, _, _, _⟩) (v := undef) rfl (by kernel_rfl) (by kernel_rfl) (by kernel_rfl) (fun _ _ _ h => h) (Or.inr ⟨by rfl, rfl⟩) (by assumption) ?_
        try simp only [Act.put, List.setIfInBounds_toArray, List.set_cons_zero, List.set_cons_succ]
        refine wpAnyH_take (i := 14) (oi := ⟨some 37, _, _, _, _, _⟩) (v := undef) rfl (by kernel_rfl) (by kernel_rfl) (by kernel_rfl) (fun _ _ _ h => h) (Or.inr ⟨by rfl, rfl⟩) (by assumption) ?_
        try simp only [Act.put, List.setIfInBounds_toArray, List.set_cons_zero, List.set_cons_succ]
        refine wpAnyH_take (i := 15) (oi := ⟨some 38, _, _, _, _, _⟩) (v := undef) rfl (by kernel_rfl) (by kernel_rfl) (by kernel_rfl) (fun _ _ _ h => h) (Or.inr ⟨by rfl, rfl⟩) (by assumption) ?_
        try simp only [Act.put, List.setIfInBounds_toArray, List.set_cons_zero, List.set_cons_succ]
        refine wpAnyH_take (i := 16) (oi := ⟨some 39, _, _, _, _, _⟩) (v := undef) rfl (by kernel_rfl) (by kernel_rfl) (by kernel_rfl) (fun _ _ _ h => h) (Or.inr ⟨by rfl, rfl⟩) (by assumption) ?_
        try simp only [Act.put, List.setIfInBounds_toArray, List.set_cons_zero, List.set_cons_succ]
        refine wpAnyH_take (i := 17) (oi := ⟨some 40, _, _, _, _, _⟩) (v := undef) rfl (by kernel_rfl) (by kernel_rfl) (by kernel_rfl) (fun _ _ _ h => h) (Or.inr ⟨by rfl, rfl⟩) (by assumption) ?_
        try simp only [Act.put, List.setIfInBounds_toArray, List.set_cons_zero, List.set_cons_succ]
        refine wpAnyH_take (i := 18) (oi := ⟨some 41, _, _, _, _, _⟩) (v := undef) rfl (by kernel_rfl) (by kernel_rfl) (by kernel_rfl) (fun _ _ _ h => h) (Or.inr ⟨by rfl, rfl⟩) (by assumption) ?_
        try simp only [Act.put, List.setIfInBounds_toArray, List.set_cons_zero, List.set_cons_succ]
        refine wpAnyH_take (i := 19) (oi := ⟨some 42, _, _, _, _, _⟩) (v := undef) rfl (by kernel_rfl) (by kernel_rfl) (by kernel_rfl) (fun _ _ _ h => h) (Or.inr ⟨by rfl, rfl⟩) (by assumption) ?_
        try simp only [Act.put, List.setIfInBounds_toArray, List.set_cons_zero, List.set_cons_succ]
        refine wpAnyH_take (i := 20) (oi := ⟨some 43, _, _, _, _, _⟩) (v := undef) rfl (by kernel_rfl) (by kernel_rfl) (by kernel_rfl) (fun _ _ _ h => h) (Or.inr ⟨by rfl, rfl⟩) (by assumption) ?_
        try simp only [Act.put, List.setIfInBounds_toArray, List.set_cons_zero, List.set_cons_succ]
        refine wpAnyH_take (i := 21) (oi := ⟨some 44, _, _, _, _, _⟩) (v := undef) rfl (by kernel_rfl) (by kernel_rfl) (by kernel_rfl) (fun _ _ _ h => h) (Or.inr ⟨by rfl, rfl⟩) (by assumption) ?_
        try simp only [Act.put, List.setIfInBounds_toArray, List.set_cons_zero, List.set_cons_succ]
        refine wpAnyH_take (i := 22) (oi := ⟨some 45, _, _, _, _, _⟩) (v := undef) rfl (by kernel_rfl) (by kernel_rfl) (by kernel_rfl) (fun _ _ _ h => h) (Or.inr ⟨by rfl, rfl⟩) (by assumption) ?_
        try simp only [Act.put, List.setIfInBounds_toArray, List.set_cons_zero, List.set_cons_succ]
        refine wpAnyH_take (i := 23) (oi := ⟨some 46, _, _, _, _, _⟩) (v := ?v61) rfl (by kernel_rfl) (by kernel_rfl) (by kernel_rfl) (fun _ _ _ h => h) (Or.inl ⟨by rfl, ?y61⟩) (by assumption) ?r61
        case y61 => (intro wx hSx; (try dsimp only at hSx); go_simp; (try with_reducible rfl))
        try simp only [Act.put, List.setIfInBounds_toArray, List.set_cons_zero, List.set_cons_succ]
        refine wpAnyH_done (by kernel_rfl) ?_ _
        go_wp2_with fail
        go_wp2_with fail
        refine wp_region_held_drew (S := fun wx => wx.cell? ⟨rb, 0, none⟩ = some (.slice (some ⟨vg, 0, none⟩) R.length vc) ∧ wx.cell? ⟨vg, k * 5, none⟩ = some (.int .u8 xc) ∧ wx.cell? ⟨vg, k * 5 + 1, none⟩ = some (.int .u32 xt) ∧ wx.cell? ⟨w.heap.size, 0, none⟩ = some (.int .u8 rc) ∧ wx.cell? ⟨w.heap.size, 1, none⟩ = some (.int .u32 rt)) (by kernel_rfl) ?_ (fun hHeld => ?_)
        · exact ⟨q0, x0, x1, k0, k1⟩
        refine wpAnyH_take (i := 0) (oi := ⟨some 47, _, _, _, _, _⟩) (v := ?v73) rfl (by kernel_rfl) (by kernel_rfl) (by kernel_rfl) (fun _ _ _ h => h) (Or.inl ⟨by rfl, ?y73⟩) (by assumption) ?r73
        case y73 => (intro wx hSx; (try dsimp only at hSx); go_simp; (try with_reducible rfl))
        try simp only [Act.put, List.setIfInBounds_toArray, List.set_cons_zero, List.set_cons_succ]
        refine wpAnyH_take (i := 1) (oi := ⟨some 48, _, _, _, _, _⟩) (v := ?v74) rfl (by kernel_rfl) (by kernel_rfl) (by kernel_rfl) (fun _ _ _ h => h) (Or.inl ⟨by rfl, ?y74⟩) (by assumption) ?r74
        case y74 => (intro wx hSx; (try dsimp only at hSx); go_simp; (try with_reducible rfl))
        try simp only [Act.put, List.setIfInBounds_toArray, List.set_cons_zero, List.set_cons_succ]
        refine wpAnyH_take (i := 2) (oi := ⟨some 49, _, _, _, _, _⟩) (v := ?v75) rfl (by kernel_rfl) (by kernel_rfl) (by kernel_rfl) (fun _ _ _ h => h) (Or.inl ⟨by rfl, ?y75⟩) (by assumption) ?r75
        case y75 => (intro wx hSx; (try dsimp only at hSx); go_simp; (try with_reducible rfl))
        try simp only [Act.put, List.setIfInBounds_toArray, List.set_cons_zero, List.set_cons_succ]
        refine wpAnyH_take (i := 3) (oi := ⟨some 50, _, _, _, _, _⟩) (v := ?v76) rfl (by kernel_rfl) (by kernel_rfl) (by kernel_rfl) (fun _ _ _ h => h) (Or.inl ⟨by rfl, ?y76⟩) (by assumption) ?r76
        case y76 => (intro wx hSx; (try dsimp only at hSx); go_simp; (try with_reducible rfl))
        try simp only [Act.put, List.setIfInBounds_toArray, List.set_cons_zero, List.set_cons_succ]
        refine wpAnyH_take (i := 4) (oi := ⟨some 51, _, _, _, _, _⟩) (v := ?v77) rfl (by kernel_rfl) (by kernel_rfl) (by kernel_rfl) (fun _ _ _ h => h) (Or.inl ⟨by rfl, ?y77⟩) (by assumption) ?r77
        case y77 => (intro wx hSx; (try dsimp only at hSx); go_simp; (try with_reducible rfl))
        try simp only [Act.put, List.setIfInBounds_toArray, List.set_cons_zero, List.set_cons_succ]
        refine wpAnyH_take (i := 5) (oi := ⟨some 52, _, _, _, _, _⟩) (v := ?v78) rfl (by kernel_rfl) (by kernel_rfl) (by kernel_rfl) (fun _ _ _ h => h) (Or.inl ⟨by rfl, ?y78⟩) (by assumption) ?r78
        case y78 => (intro wx hSx; (try dsimp only at hSx); go_simp; (try with_reducible rfl))
        try simp only [Act.put, List.setIfInBounds_toArray, List.set_cons_zero, List.set_cons_succ]
        refine wpAnyH_take (i := 6) (oi := ⟨some 53, _, _, _, _, _⟩) (v := ?v79) rfl (by kernel_rfl) (by kernel_rfl) (by kernel_rfl) (fun _ _ _ h => h) (Or.inl ⟨by rfl, ?y79⟩) (by assumption) ?r79
        case y79 => (intro wx hSx; (try dsimp only at hSx); go_simp; (try with_reducible rfl))
        try simp only [Act.put, List.setIfInBounds_toArray, List.set_cons_zero, List.set_cons_succ]
        refine wpAnyH_take (i := 7) (oi := ⟨some 54, _, _, _, _, _⟩) (v := ?v80) rfl (by kernel_rfl) (by kernel_rfl) (by kernel_rfl) (fun _ _ _ h => h) (Or.inl ⟨by rfl, ?y80⟩) (by assumption) ?r80
        case y80 => (intro wx hSx; (try dsimp only at hSx); go_simp; (try with_reducible rfl))
        try simp only [Act.put, List.setIfInBounds_toArray, List.set_cons_zero, List.set_cons_succ]
        refine wpAnyH_take (i := 8) (oi := ⟨some 55, _, _, _, _, _⟩) (v := ?v81) rfl (by kernel_rfl) (by kernel_rfl) (by kernel_rfl) (fun _ _ _ h => h) (Or.inl ⟨by rfl, ?y81⟩) (by assumption) ?r81
        case y81 => (intro wx hSx; (try dsimp only at hSx); go_simp; (try with_reducible rfl))
        try simp only [Act.put, List.setIfInBounds_toArray, List.set_cons_zero, List.set_cons_succ]
        refine wpAnyH_take (i := 9) (oi := ⟨some 56, _, _, _, _, _⟩) (v := ?v82) rfl (by kernel_rfl) (by kernel_rfl) (by kernel_rfl) (fun _ _ _ h => h) (Or.inl ⟨by rfl, ?y82⟩) (by assumption) ?r82
        case y82 => (intro wx hSx; (try dsimp only at hSx); go_simp; (try with_reducible rfl))
        try simp only [Act.put, List.setIfInBounds_toArray, List.set_cons_zero, List.set_cons_succ]
        refine wpAnyH_take (i := 10) (oi := ⟨some 57, _, _, _, _, _⟩) (v := ?v83) rfl (by kernel_rfl) (by kernel_rfl) (by kernel_rfl) (fun _ _ _ h => h) (Or.inl ⟨by rfl, ?y83⟩) (by assumption) ?r83
        case y83 => (intro wx hSx; (try dsimp only at hSx); go_simp; (try with_reducible rfl))
        try simp only [Act.put, List.setIfInBounds_toArray, List.set_cons_zero, List.set_cons_succ]
        refine wpAnyH_done (by kernel_rfl) ?_ _
        go_wp2_with (at_builtin; refine wpList_moreY ⟨xc, xt, xk, xy, xv⟩ rfl _ _ rfl rfl ((HL.out.quiet (qbox wy (.cells #[.int .u8 xc, .int .u32 xt, .int .u8 xk, .int .u8 xy, .int .u16 xv] TRq))).quiet ((frm_drew (wy.alloc (.cells #[.int .u8 xc, .int .u32 xt, .int .u8 xk, .int .u8 xy, .int .u16 xv] TRq))).trans (frm_drew _))) (fun q hq => by have := HFY.out.size; simp; omega) ((Blk.new wy (rqC ⟨xc, xt, xk, xy, xv⟩) TRq).frm ((frm_drew (wy.alloc (.cells #[.int .u8 xc, .int .u32 xt, .int .u8 xk, .int .u8 xy, .int .u16 xv] TRq))).trans (frm_drew _)) (fun h => h)) (by have := HLY.out; omega) rfl rfl ?_; intro v' w6 ho' hf' hat'; obtain ⟨la6, lc6, hv6⟩ := ho'.slice; obtain ⟨ln6, hn6⟩ : ∃ ln6, (keepR (R.take k) rc ++ [(⟨xc, xt, xk, xy, xv⟩ : Rq)]).length = ln6 := ⟨_, rfl⟩; rw [hn6] at hv6; subst hv6; have HL6 := hid ho'; have HF6 := hid (((HFY.out.trans (qbox wy (.cells #[.int .u8 xc, .int .u32 xt, .int .u8 xk, .int .u8 xy, .int .u16 xv] TRq))).trans ((frm_drew (wy.alloc (.cells #[.int .u8 xc, .int .u32 xt, .int .u8 xk, .int .u8 xy, .int .u16 xv] TRq))).trans (frm_drew _))).trans' hf' (fun q hq hk => (show ¬ q < w5.heap.size from HL.out.off q hk) hq)); clear ho' hf' hat' hn6)
        go_roundw
        case rel => exact ⟨k + 1, la6, ln6, lc6, by have := HKL.out; omega, by go_num, rfl, by rw [HD.out]; exact HL6.out, HBS.out, HF6.out⟩
        case measure => have := HKL.out; simp [intOf]; omega
    · have hke : k = R.length := by omega
      subst hke
      exact absurd HBN.out (by rw [← List.take_length (l := R), HBD.out]; decide)
/-- What is left behind a Done. -/
def dnR (R : List Rq) (c ts : Int) : List Rq := R.filter fun q => !(q.c == c) || decide (ts < q.t)
theorem dnR_step {R : List Rq} {k : Nat} {x : Rq} (c ts : Int) (hx : R[k]? = some x) : dnR (R.take (k + 1)) c ts = dnR (R.take k) c ts ++ (if (!(x.c == c) || decide (ts < x.t)) = true then [x] else []) := by
  unfold dnR; rw [take_one hx, List.filter_append]
  by_cases h : (!(x.c == c) || decide (ts < x.t)) = true
  · rw [if_pos h]; simp [List.filter_cons, h]
  · rw [if_neg h]; simp [List.filter_cons, h]
set_option maxHeartbeats 16000000 in
theorem RDone_calls {w : World} {rb : Nat} {v : Value} {R : List Rq} (h : IsRQ w rb v R) (hlr : R.length ≤ 4) (rc rt : Int) :
    Calls Try.prog 15 #[.pointer (some ⟨rb, 0, none⟩), .int .u8 rc, .int .u32 rt] w fun e w' => e = .returned (.tuple #[]) ∧ (∃ v', IsRQ w' rb v' (dnR R rc rt)) ∧ Frm (· = rb) w w' := by
  have HLR := hid hlr
  have HR1 := hid h; have HF1 := hid (Frm.refl (fun _ => False) w); have HB1 := hid trivial
  clear h hlr
  go_enter Try.func15, Try.ntmps15
  go_wp2
  have HR5 := hid HR1.out; have HB5 := hid HB1.out; have HF5 := hid HF1.out
  clear HR1 HB1 HF1
  obtain ⟨va, vc, rfl⟩ := HR5.out.own.slice
  have HVN := hid (show (R.length : Int) ≤ 4 by have := HLR.out; omega)
  have hrn4 := HVN.out
  have hrn0 : (0 : Int) ≤ (R.length : Int) := by omega
  have HL0 := hid (OwnY.nil w (fun q => q < w.heap.size))
  go_loopw [6, 7] (fun lv kv wr => ∃ (k : Nat) (la : Option Addr) (ln lc : Nat), k ≤ R.length ∧ kv = .int .i64 k ∧ lv = .slice la ln lc ∧ OwnY wr (fun q => q < w.heap.size) (.slice la ln lc) (dnR (R.take k) rc rt) ∧ Frm (fun _ => False) w wr) (fun _ k _ => R.length - (intOf k).toNat)
  case atStart => exact ⟨0, none, 0, 0, Nat.zero_le _, rfl, rfl, HL0.out, Frm.refl _ _⟩
  case round =>
    clear HL0
    obtain ⟨k, la, ln, lc, hk, rfl, rfl, hl, hf⟩ := hrel
    generalize wr = wy at *
    have HL := hid hl; have HFY := hid hf; skip
    have HLY := hid (show (dnR (R.take k) rc rt).length ≤ 4 by have h1 : (dnR (R.take k) rc rt).length ≤ (R.take k).length := List.length_filter_le _ _; rw [List.length_take] at h1; have := HLR.out; omega)
    clear hl hf
    have q0 := (HR5.out.blk.frm HFY.out (fun h => h)).cell 0
    simp only [List.getElem?_cons_zero] at q0
    skip
    by_cases hkl : k < R.length
    · have HKL := hid hkl
      obtain ⟨x, hx⟩ : ∃ x, R[k]? = some x := ⟨_, List.getElem?_eq_getElem hkl⟩
      have HX := hid hx
      obtain ⟨vg, hva, hvc⟩ := ((HR5.out.own.quiet HFY.out).row5).at_ (by omega)
      subst hva
      obtain ⟨xc, xt, xk, xy, xv⟩ := x
      have x0 := hvc k _ hx 0 (by decide); have x1 := hvc k _ hx 1 (by decide); have x2 := hvc k _ hx 2 (by decide); have x3 := hvc k _ hx 3 (by decide); have x4 := hvc k _ hx 4 (by decide)
      simp only [rqC, List.getElem?_cons_succ, List.getElem?_cons_zero, Nat.add_zero] at x0 x1 x2 x3 x4
      have hki : (k : Int) < (R.length : Int) := by omega
      have hk0 : (0 : Int) ≤ (k : Int) := by omega
      have hk4 : (k : Int) < 4 := by omega
      clear hx hvc hk hkl
      have HD := hid (dnR_step rc rt HX.out)
      by_cases hc : xc = rc
      · have hcb : (xc == rc) = true := beq_iff_eq.2 hc
        have hcn : (xc != rc) = false := by rw [bne, hcb]; rfl
        by_cases ht : rt < xt
        · rw [show (!((⟨xc, xt, xk, xy, xv⟩ : Rq).c == rc) || decide (rt < (⟨xc, xt, xk, xy, xv⟩ : Rq).t)) = true by show (!(xc == rc) || decide (rt < xt)) = true; rw [decide_eq_true ht, Bool.or_true], if_pos rfl] at HD
          clear hc
          go_wp2_with (at_builtin; refine wpList_moreY ⟨xc, xt, xk, xy, xv⟩ rfl _ _ rfl rfl (HL.out.quiet (qbox wy (.cells #[.int .u8 xc, .int .u32 xt, .int .u8 xk, .int .u8 xy, .int .u16 xv] TRq))) (fun q hq => by have := HFY.out.size; simp; omega) (Blk.new wy (rqC ⟨xc, xt, xk, xy, xv⟩) TRq) (by have := HLY.out; omega) rfl rfl ?_; intro v' w6 ho' hf' hat'; obtain ⟨la6, lc6, hv6⟩ := ho'.slice; obtain ⟨ln6, hn6⟩ : ∃ ln6, (dnR (R.take k) rc rt ++ [(⟨xc, xt, xk, xy, xv⟩ : Rq)]).length = ln6 := ⟨_, rfl⟩; rw [hn6] at hv6; subst hv6; have HL6 := hid ho'; have HF6 := hid ((HFY.out.trans (qbox wy (.cells #[.int .u8 xc, .int .u32 xt, .int .u8 xk, .int .u8 xy, .int .u16 xv] TRq))).trans' hf' (fun q hq hk => (show ¬ q < w.heap.size from HL.out.off q hk) hq)); clear ho' hf' hat' hn6)
          go_roundw
          case rel => exact ⟨k + 1, la6, ln6, lc6, by have := HKL.out; omega, by go_num, rfl, by rw [HD.out]; exact HL6.out, HF6.out⟩
          case measure => have := HKL.out; simp [intOf]; omega
        · rw [show (!((⟨xc, xt, xk, xy, xv⟩ : Rq).c == rc) || decide (rt < (⟨xc, xt, xk, xy, xv⟩ : Rq).t)) = false by show (!(xc == rc) || decide (rt < xt)) = false; rw [decide_eq_false ht, hcb]; rfl, if_neg (by decide), List.append_nil] at HD
          clear hc
          go_wp2
          go_roundw
          case rel => exact ⟨k + 1, la, ln, lc, by have := HKL.out; omega, by go_num, rfl, by rw [HD.out]; exact HL.out, HFY.out⟩
          case measure => have := HKL.out; simp [intOf]; omega
      · have hcb : (xc == rc) = false := beq_eq_false_iff_ne.2 hc
        have hcn : (xc != rc) = true := by rw [bne, hcb]; rfl
        rw [show (!((⟨xc, xt, xk, xy, xv⟩ : Rq).c == rc) || decide (rt < (⟨xc, xt, xk, xy, xv⟩ : Rq).t)) = true by show (!(xc == rc) || decide (rt < xt)) = true; rw [hcb]; rfl, if_pos rfl] at HD
        clear hc
        go_wp2_with (at_builtin; refine wpList_moreY ⟨xc, xt, xk, xy, xv⟩ rfl _ _ rfl rfl (HL.out.quiet (qbox wy (.cells #[.int .u8 xc, .int .u32 xt, .int .u8 xk, .int .u8 xy, .int .u16 xv] TRq))) (fun q hq => by have := HFY.out.size; simp; omega) (Blk.new wy (rqC ⟨xc, xt, xk, xy, xv⟩) TRq) (by have := HLY.out; omega) rfl rfl ?_; intro v' w6 ho' hf' hat'; obtain ⟨la6, lc6, hv6⟩ := ho'.slice; obtain ⟨ln6, hn6⟩ : ∃ ln6, (dnR (R.take k) rc rt ++ [(⟨xc, xt, xk, xy, xv⟩ : Rq)]).length = ln6 := ⟨_, rfl⟩; rw [hn6] at hv6; subst hv6; have HL6 := hid ho'; have HF6 := hid ((HFY.out.trans (qbox wy (.cells #[.int .u8 xc, .int .u32 xt, .int .u8 xk, .int .u8 xy, .int .u16 xv] TRq))).trans' hf' (fun q hq hk => (show ¬ q < w.heap.size from HL.out.off q hk) hq)); clear ho' hf' hat' hn6)
        go_roundw
        case rel => exact ⟨k + 1, la6, ln6, lc6, by have := HKL.out; omega, by go_num, rfl, by rw [HD.out]; exact HL6.out, HF6.out⟩
        case measure => have := HKL.out; simp [intOf]; omega
    · have hke : k = R.length := by omega
      subst hke
      clear hkl hk
      have HLT5 := hid (show rb < w.heap.size from HR5.out.blk.lt)
      have z0 := (HR5.out.blk.frm HFY.out (fun h => h)).free 0
      have HRB6 := hid (HR5.out.blk.frm HFY.out (fun h => h))
      have HFW := hid (Frm.mono (HF5.out.trans HFY.out) (S' := (· = rb)) (fun _ _ h => h.elim))
      go_wp2
      go_end0
      refine ⟨rfl, ⟨_, HRB6.out.setCell 0 (.slice la ln lc), ?_⟩, HFW.out.setCell _ _ (.inr rfl)⟩
      have h7 : Frm (· = rb) wy (wy.setCell ⟨rb, 0, none⟩ (.slice la ln lc)) := (Frm.refl _ _).setCell _ _ (.inr rfl)
      have h8 := HL.out.frm h7 (fun q hq e => (show ¬ q < w.heap.size from HL.out.off q hq) (by subst e; exact HLT5.out))
      have h9 : dnR (R.take R.length) rc rt = dnR R rc rt := by rw [List.take_length]
      rw [h9] at h8
      exact ⟨h8.own, fun q hq hA => h8.off q hq (Nat.lt_of_le_of_lt hA HLT5.out)⟩
end Go.Proofs.Ytabmbppolmikcaa
