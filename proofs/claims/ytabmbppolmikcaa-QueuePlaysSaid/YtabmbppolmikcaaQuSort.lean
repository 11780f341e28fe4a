/- Rows of requests, sorted by when they were put. -/
import Derived.Test.YtabmbppolmikcaaQuPut
import Derived.Laws.OwnMore
namespace Go.Proofs.Ytabmbppolmikcaa
open Go.RowKit Go.ChangeShapes
set_option linter.unusedVariables false
set_option linter.unusedSimpArgs false
set_option maxRecDepth 100000
def cmpI (x y : Int) : Int := if x < y then -1 else if y < x then 1 else 0
theorem Cmp_calls (w : World) (x y z : Int) (hz : cmpI x y = z) : Calls Try.prog 23 #[.int .u64 x, .int .u64 y] w fun e w' => e = .returned (.int .i64 z) ∧ w = w' := by
  have nan : ∀ (w : World) (x : Int), Calls Try.prog 29 #[.int .u64 x] w fun e w' => e = .returned (.bool false) ∧ w = w' := by
    intro w x
    go_enter Try.func29, Try.ntmps29
    go_wp2
    go_ret
    exact ⟨rfl, by first | rfl | trivial⟩
  have HN := hid nan; clear nan
  unfold cmpI at hz
  by_cases h1 : x < y
  · rw [if_pos h1] at hz
    subst hz
    go_enter Try.func23, Try.ntmps23
    go_wp2_with (go_at_call 29; (with_reducible refine (HN.out _ _).mono ?_); rintro e w' ⟨rfl, rfl⟩; skip)
    go_ret
    exact ⟨rfl, by first | rfl | trivial⟩
  · rw [if_neg h1] at hz
    by_cases h2 : y < x
    · rw [if_pos h2] at hz
      subst hz
      go_enter Try.func23, Try.ntmps23
      go_wp2_with (go_at_call 29; (with_reducible refine (HN.out _ _).mono ?_); rintro e w' ⟨rfl, rfl⟩; skip)
      go_ret
      exact ⟨rfl, by first | rfl | trivial⟩
    · rw [if_neg h2] at hz
      subst hz
      go_enter Try.func23, Try.ntmps23
      go_wp2_with (go_at_call 29; (with_reducible refine (HN.out _ _).mono ?_); rintro e w' ⟨rfl, rfl⟩; skip)
      go_ret
      exact ⟨rfl, by first | rfl | trivial⟩
/-- When a request was put. -/
def stm (L : List Qe) (r : Rq) : Nat := ((L.find? (fun e => e.1.eqb r)).map (·.2)).getD 0
theorem stm_of {L : List Qe} {n : Nat} (h : QI L n) {e : Qe} (he : e ∈ L) : stm L e.1 = e.2 := by
  have := h.find he
  rw [fQ_at] at this
  obtain ⟨x, hx, h2⟩ := Option.map_eq_some_iff.1 this
  unfold stm
  rw [hx]
  injection h2 with _ h3
  have h4 : (x.2 : Int) = e.2 := h3
  show x.2 = e.2
  omega
theorem IsQ.look {w : World} {qb mb n : Nat} {L : List Qe} (h : IsQ w qb mb L n) (r : Rq) (hr : RqOk r) : (Instr.lookup TMr (.map (some mb)) (rqV r) false).run Try.prog w = .ok (.int .u64 (stm L r)) w := by
  obtain ⟨kl, hk⟩ := keyRq r hr
  cases hf : fQ L (rqV r) with
  | none =>
    have := h.map.look_none keyedRq u_mapr (z_u64 _) hk hf false
    rw [fQ_at] at hf
    unfold stm
    rw [Option.map_eq_none_iff.1 hf]
    exact this
  | some x =>
    have := h.map.look_some keyedRq u_mapr (z_u64 _) hk hf false
    rw [fQ_at] at hf
    obtain ⟨e, he, h2⟩ := Option.map_eq_some_iff.1 hf
    unfold stm
    rw [he]
    rw [← h2] at this
    exact this
def kap (L : List Qe) (r : Rq) : Int := -(stm L r : Int)
theorem kap_cmp (L : List Qe) (a b : Rq) : cmpI (kap L b) (kap L a) = cmpI (stm L a) (stm L b) := by
  unfold cmpI kap
  by_cases h1 : (stm L a : Int) < (stm L b : Int)
  · rw [if_pos h1, if_pos (by omega)]
  · rw [if_neg h1, if_neg (by omega)]
    by_cases h2 : (stm L b : Int) < (stm L a : Int)
    · rw [if_pos h2, if_pos (by omega)]
    · rw [if_neg h2, if_neg (by omega)]
set_option maxHeartbeats 4000000 in
theorem Clo_calls {w : World} {qb mb n xb T : Nat} {L : List Qe} (h : IsQ w qb mb L n) (hx : Blk w xb [.pointer (some ⟨qb, 0, none⟩)] T) (a b : Rq) (ha : RqOk a) (hb : RqOk b) (z : Int) (hz : cmpI (kap L b) (kap L a) = z) :
    Calls Try.prog 22 #[.agg #[.int .u8 a.c, .int .u32 a.t, .int .u8 a.k, .int .u8 a.y, .int .u16 a.v], .agg #[.int .u8 b.c, .int .u32 b.t, .int .u8 b.k, .int .u8 b.y, .int .u16 b.v], .pointer (some ⟨xb, 0, none⟩)] w fun e w' => e = .returned (.int .i64 z) ∧ Frm (fun _ => False) w w' := by
  rw [kap_cmp] at hz
  have HZ := hid hz
  have hf0 : Frm (fun _ => False) w ((w.alloc (.cells #[.int .u8 a.c, .int .u32 a.t, .int .u8 a.k, .int .u8 a.y, .int .u16 a.v] TRq)).alloc (.cells #[.int .u8 b.c, .int .u32 b.t, .int .u8 b.k, .int .u8 b.y, .int .u16 b.v] TRq)) := (qbox _ _).trans (qbox _ _)
  have HA := hid ((Blk.new w [.int .u8 a.c, .int .u32 a.t, .int .u8 a.k, .int .u8 a.y, .int .u16 a.v] TRq).frm (qbox _ (.cells #[.int .u8 b.c, .int .u32 b.t, .int .u8 b.k, .int .u8 b.y, .int .u16 b.v] TRq)) (fun h => h))
  have HB := hid (Blk.new (w.alloc (.cells #[.int .u8 a.c, .int .u32 a.t, .int .u8 a.k, .int .u8 a.y, .int .u16 a.v] TRq)) [.int .u8 b.c, .int .u32 b.t, .int .u8 b.k, .int .u8 b.y, .int .u16 b.v] TRq)
  have HSZ := hid (World.size_alloc w (.cells #[.int .u8 a.c, .int .u32 a.t, .int .u8 a.k, .int .u8 a.y, .int .u16 a.v] TRq))
  rw [HSZ.out] at HB
  obtain ⟨w2, hw2⟩ : ∃ w2, (w.alloc (.cells #[.int .u8 a.c, .int .u32 a.t, .int .u8 a.k, .int .u8 a.y, .int .u16 a.v] TRq)).alloc (.cells #[.int .u8 b.c, .int .u32 b.t, .int .u8 b.k, .int .u8 b.y, .int .u16 b.v] TRq) = w2 := ⟨_, rfl⟩
  obtain ⟨ab, hab⟩ : ∃ ab, w.heap.size = ab := ⟨_, rfl⟩
  obtain ⟨bb, hbb⟩ : ∃ bb, w.heap.size + 1 = bb := ⟨_, rfl⟩
  rw [hw2] at hf0 HA HB
  rw [hbb] at HB
  rw [hab] at HA
  have HF := hid hf0.drew
  have HQ := hid (h.quiet hf0.drew)
  have HXB := hid (hx.frm hf0 (fun h => h))
  obtain ⟨ac, at_, ak, ay, av⟩ := a
  obtain ⟨bc, bt, bk, by_, bv⟩ := b
  have l1 := HQ.out.look ⟨ac, at_, ak, ay, av⟩ ha
  have l2 := HQ.out.look ⟨bc, bt, bk, by_, bv⟩ hb
  obtain ⟨sa, hsa⟩ : ∃ sa : Nat, stm L ⟨ac, at_, ak, ay, av⟩ = sa := ⟨_, rfl⟩
  obtain ⟨sb, hsb⟩ : ∃ sb : Nat, stm L ⟨bc, bt, bk, by_, bv⟩ = sb := ⟨_, rfl⟩
  rw [hsa] at l1 HZ
  rw [hsb] at l2 HZ
  simp only [rqV] at l1 l2
  have W2 := hid hw2; have AB := hid hab; have BB := hid hbb
  dsimp only at hw2 HA HB W2
  clear h hx hz hf0 hw2 hab hbb HSZ hsa hsb ha hb
  go_enter Try.func22, Try.ntmps22
  go_wp2_with fail
  rw [W2.out, BB.out, AB.out]
  have q1 := HQ.out.cell
  have x0 := HXB.out.cell 0
  have a0 := HA.out.cell 0; have a1 := HA.out.cell 1; have a2 := HA.out.cell 2; have a3 := HA.out.cell 3; have a4 := HA.out.cell 4
  have b0 := HB.out.cell 0; have b1 := HB.out.cell 1; have b2 := HB.out.cell 2; have b3 := HB.out.cell 3; have b4 := HB.out.cell 4
  simp only [List.getElem?_cons_succ, List.getElem?_cons_zero] at x0 a0 a1 a2 a3 a4 b0 b1 b2 b3 b4
  go_region_held3 (fun wx => wx.cell? ⟨xb, 0, none⟩ = some (.pointer (some ⟨qb, 0, none⟩)) ∧ wx.cell? ⟨qb, 0, none⟩ = some (.map (some mb)) ∧ wx.cell? ⟨ab, 0, none⟩ = some (.int .u8 ac) ∧ wx.cell? ⟨ab, 1, none⟩ = some (.int .u32 at_) ∧ wx.cell? ⟨ab, 2, none⟩ = some (.int .u8 ak) ∧ wx.cell? ⟨ab, 3, none⟩ = some (.int .u8 ay) ∧ wx.cell? ⟨ab, 4, none⟩ = some (.int .u16 av) ∧ wx.cell? ⟨bb, 0, none⟩ = some (.int .u8 bc) ∧ wx.cell? ⟨bb, 1, none⟩ = some (.int .u32 bt) ∧ wx.cell? ⟨bb, 2, none⟩ = some (.int .u8 bk) ∧ wx.cell? ⟨bb, 3, none⟩ = some (.int .u8 by_) ∧ wx.cell? ⟨bb, 4, none⟩ = some (.int .u16 bv)) (first | go_keep | exact ⟨x0, q1, a0, a1, a2, a3, a4, b0, b1, b2, b3, b4⟩) ((go_at_call 23; (with_reducible refine (Cmp_calls _ _ _ z HZ.out).mono ?_); rintro e w' ⟨rfl, rfl⟩; skip))
  all_goals
    go_wp2
    go_ret
    exact ⟨rfl, HF.out⟩
theorem rqsC_set (l : List Rq) (m : Rq) : ∀ j, j < l.length → ((((((rqsC l).set (j * 5) (.int .u8 m.c)).set (j * 5 + 1) (.int .u32 m.t)).set (j * 5 + 2) (.int .u8 m.k)).set (j * 5 + 3) (.int .u8 m.y)).set (j * 5 + 4) (.int .u16 m.v)) = rqsC (l.set j m) := by
  induction l with
  | nil => intro j hj; simp at hj
  | cons a l ih =>
    intro j hj
    cases j with
    | zero => rfl
    | succ j =>
      have key : ∀ (i : Nat) (u : Value) (xs : List Value), (rqC a ++ xs).set ((j + 1) * 5 + i) u = rqC a ++ xs.set (j * 5 + i) u := fun i u xs => by
        rw [List.set_append_right _ _ (by show 5 ≤ _; omega), show (j + 1) * 5 + i - (rqC a).length = j * 5 + i by show _ - 5 = _; omega]
      have key0 : ∀ (u : Value) (xs : List Value), (rqC a ++ xs).set ((j + 1) * 5) u = rqC a ++ xs.set (j * 5) u := fun u xs => key 0 u xs
      show ((((((rqC a ++ rqsC l).set ((j + 1) * 5) _).set ((j + 1) * 5 + 1) _).set ((j + 1) * 5 + 2) _).set ((j + 1) * 5 + 3) _).set ((j + 1) * 5 + 4) _) = rqC a ++ rqsC (l.set j m)
      rw [key0, key, key, key, key, ih j (by rw [List.length_cons] at hj; omega)]
theorem OwnY.set {w : World} {A : Nat → Prop} {g n c : Nat} {l : List Rq} (h : OwnY w A (.slice (some ⟨g, 0, none⟩) n c) l) (hn : n = l.length) (j : Nat) (hj : j < l.length) (m : Rq) :
    OwnY (((((w.setCell ⟨g, j * 5, none⟩ (.int .u8 m.c)).setCell ⟨g, j * 5 + 1, none⟩ (.int .u32 m.t)).setCell ⟨g, j * 5 + 2, none⟩ (.int .u8 m.k)).setCell ⟨g, j * 5 + 3, none⟩ (.int .u8 m.y)).setCell ⟨g, j * 5 + 4, none⟩ (.int .u16 m.v)) A (.slice (some ⟨g, 0, none⟩) n c) (l.set j m) := by
  subst hn
  have h1 := ((((h.own.stored (j * 5) (.int .u8 m.c)).1.stored (j * 5 + 1) (.int .u32 m.t)).1.stored (j * 5 + 2) (.int .u8 m.k)).1.stored (j * 5 + 3) (.int .u8 m.y)).1.stored (j * 5 + 4) (.int .u16 m.v)
  rw [rqsC_set l m j hj] at h1
  refine ⟨?_, h.off⟩
  rw [List.length_set]
  exact h1.1
/-- The places. -/
def sq (κ : Rq → Int) (l : List Rq) (p : Nat) : Int := κ (l.getD p rq0)
/-- Two change places. -/
def swp (l : List Rq) (j q : Nat) : List Rq := (l.set j (l.getD q rq0)).set q (l.getD j rq0)
def tr (j q p : Nat) : Nat := if p = j then q else if p = q then j else p
theorem tr_lt {j q p n : Nat} (hj : j < n) (hq : q < n) (hp : p < n) : tr j q p < n := by unfold tr; split; omega; split <;> omega
theorem tr_ne {j q p r : Nat} (h : p ≠ r) : tr j q p ≠ tr j q r := by unfold tr; split <;> split <;> (try split) <;> (try split) <;> omega
theorem tr_tr (j q p : Nat) : tr j q (tr j q p) = p := by unfold tr; split <;> (try split) <;> (try split) <;> (try split) <;> omega
theorem swp_len (l : List Rq) (j q : Nat) : (swp l j q).length = l.length := by unfold swp; rw [List.length_set, List.length_set]
theorem swp_at (l : List Rq) (j q : Nat) (hj : j < l.length) (hq : q < l.length) (p : Nat) (hp : p < l.length) : (swp l j q)[p]? = l[tr j q p]? := by
  unfold swp tr
  rw [List.getElem?_set, List.getElem?_set]
  rw [List.length_set]
  by_cases h1 : q = p
  · subst h1
    rw [if_pos rfl, if_pos hq]
    by_cases h2 : q = j
    · subst h2; rw [if_pos rfl, List.getD_eq_getElem?_getD, List.getElem?_eq_getElem hq]; rfl
    · rw [if_neg h2, if_pos rfl, List.getD_eq_getElem?_getD, List.getElem?_eq_getElem hj]; rfl
  · rw [if_neg h1]
    by_cases h2 : j = p
    · subst h2
      rw [if_pos rfl, if_pos hj, if_pos rfl, List.getD_eq_getElem?_getD, List.getElem?_eq_getElem hq]; rfl
    · rw [if_neg h2, if_neg (fun e => h2 e.symm), if_neg (fun e => h1 e.symm)]
theorem swp_sq (κ : Rq → Int) (l : List Rq) (j q : Nat) (hj : j < l.length) (hq : q < l.length) (p : Nat) (hp : p < l.length) : sq κ (swp l j q) p = sq κ l (tr j q p) := by
  unfold sq
  rw [List.getD_eq_getElem?_getD, swp_at l j q hj hq p hp, List.getD_eq_getElem?_getD]
theorem swp_mem (l : List Rq) (j q : Nat) (hj : j < l.length) (hq : q < l.length) (m : Rq) : m ∈ swp l j q ↔ m ∈ l := by
  constructor
  · intro h
    obtain ⟨p, hp⟩ := List.mem_iff_getElem?.1 h
    have hpl : p < l.length := by have := (List.getElem?_eq_some_iff.1 hp).1; rwa [swp_len] at this
    rw [swp_at l j q hj hq p hpl] at hp
    exact List.mem_of_getElem? hp
  · intro h
    obtain ⟨p, hp⟩ := List.mem_iff_getElem?.1 h
    have hpl := (List.getElem?_eq_some_iff.1 hp).1
    have := swp_at l j q hj hq (tr j q p) (tr_lt hj hq hpl)
    rw [tr_tr, hp] at this
    exact List.mem_of_getElem? this
/-- The same marks, at unlike places each. -/
structure Alike (κ : Rq → Int) (l l' : List Rq) : Prop where
  len : l'.length = l.length
  mem : ∀ m, m ∈ l' ↔ m ∈ l
  dist : ∀ p q, p ≠ q → p < l.length → q < l.length → sq κ l' p ≠ sq κ l' q
theorem Alike.swp {κ : Rq → Int} {l l' : List Rq} (h : Alike κ l l') (j q : Nat) (hj : j < l.length) (hq : q < l.length) : Alike κ l (swp l' j q) :=
  ⟨by rw [swp_len, h.len], fun m => (swp_mem l' j q (by rw [h.len]; exact hj) (by rw [h.len]; exact hq) m).trans (h.mem m), fun p r hpr hp hr => by
    rw [swp_sq κ l' j q (by rw [h.len]; exact hj) (by rw [h.len]; exact hq) p (by rw [h.len]; exact hp), swp_sq κ l' j q (by rw [h.len]; exact hj) (by rw [h.len]; exact hq) r (by rw [h.len]; exact hr)]
    exact h.dist _ _ (tr_ne hpr) (tr_lt hj hq hp) (tr_lt hj hq hr)⟩
/-- In order up to i, but for what stands at j. -/
def Ord (κ : Rq → Int) (l : List Rq) (i j : Nat) : Prop := ∀ p q, p < q → q ≤ i → q ≠ j → sq κ l q < sq κ l p
theorem Ord.swp {κ : Rq → Int} {l : List Rq} {i j q : Nat} (h : Ord κ l i j) (hi : i < l.length) (hj : j ≤ i) (hq : q + 1 = j) (hc : sq κ l q < sq κ l j) : Ord κ (swp l j q) i q := by
  intro p r hpr hr hrq
  rw [swp_sq κ l j q (by omega) (by omega) p (by omega), swp_sq κ l j q (by omega) (by omega) r (by omega)]
  unfold tr
  by_cases h1 : r = j
  · rw [if_pos h1]
    by_cases h2 : p = q
    · rw [if_neg (by omega), if_pos h2]; exact hc
    · rw [if_neg (by omega), if_neg h2]; exact h p q (by omega) (by omega) (by omega)
  · rw [if_neg h1, if_neg hrq]
    by_cases h2 : p = j
    · rw [if_pos h2]; exact h q r (by omega) hr h1
    · rw [if_neg h2]
      by_cases h3 : p = q
      · rw [if_pos h3]; exact h j r (by omega) hr h1
      · rw [if_neg h3]; exact h p r hpr hr h1
theorem Ord.done {κ : Rq → Int} {l : List Rq} {i j : Nat} (h : Ord κ l i j) (hj : j ≤ i) (hc : j = 0 ∨ ∃ q, q + 1 = j ∧ sq κ l j < sq κ l q) : Ord κ l (i + 1) (i + 1) := by
  intro p r hpr hr hri
  by_cases h1 : r = j
  · rcases hc with hc | ⟨q, hq, hc⟩
    · omega
    · rw [h1]
      by_cases h2 : p = q
      · rw [h2]; exact hc
      · have := h p q (by omega) (by omega) (by omega)
        omega
  · exact h p r hpr (by omega) h1
end Go.Proofs.Ytabmbppolmikcaa
