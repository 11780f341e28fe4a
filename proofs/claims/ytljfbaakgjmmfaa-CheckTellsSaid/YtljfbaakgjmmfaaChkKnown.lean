/- known of layer 24 returns true. -/
import Derived.Test.YtljfbaakgjmmfaaChkList
import Derived.Test.YtljfbaakgjmmfaaChkPlay
import Derived.Test.YtljfbaakgjmmfaaSvcKnown
namespace Go.Proofs.Ytljfbaakgjmmfaa
open Go.RowKit Go.ChangeShapes
set_option linter.unusedVariables false
set_option linter.unusedSimpArgs false
set_option maxRecDepth 100000
abbrev TDs : Nat := 34
theorem blkn (W : World) (n : Nat) (hn : W.heap.size = n) (cs : List Value) (T : Nat) : Blk (W.alloc (.cells cs.toArray T)) n cs T := hn ▸ Blk.new W cs T
theorem flat_at {α : Type} (f : α → List Value) (m : Nat) (hm : ∀ x, (f x).length = m) (l : List α) (j : Nat) (r : α) (hj : l[j]? = some r) (i : Nat) (hi : i < m) : (l.flatMap f)[j * m + i]? = (f r)[i]? := by
  induction l generalizing j with
  | nil => simp at hj
  | cons a l ih =>
    rw [List.flatMap_cons]
    cases j with
    | zero =>
      simp only [List.getElem?_cons_zero, Option.some.injEq] at hj
      subst hj
      rw [List.getElem?_append_left (by rw [hm]; omega), show 0 * m + i = i by omega]
    | succ j =>
      rw [List.getElem?_cons_succ] at hj
      have e : (j + 1) * m + i = m + (j * m + i) := by rw [Nat.add_mul]; omega
      rw [List.getElem?_append_right (by rw [hm]; omega), hm, show (j + 1) * m + i - m = j * m + i by omega]
      exact ih j hj
theorem dns_of {w : World} {b T : Nat} {l : List Dn} (h : Blk w b (l.flatMap dnC) T) (hl : l.length ≤ 1000) : IsDns w (some ⟨b, 0, none⟩) l.length l :=
  ⟨Nat.le_refl _, by omega, fun _ => ⟨b, 0, rfl, h.lt, fun j d hj i hi => by rw [h.cell, Nat.zero_add]; exact flat_at dnC 7 (fun _ => rfl) l j d hj i hi⟩⟩
theorem rqs_of {w : World} {b T : Nat} {l : List Rq} (h : Blk w b (l.flatMap rqC) T) (hl : l.length ≤ 1000) (ok : ∀ r ∈ l, RqOk r) : IsRqs w (some ⟨b, 0, none⟩) l.length l :=
  ⟨Nat.le_refl _, by omega, fun _ => ⟨b, 0, rfl, h.lt, fun j d hj i hi => by rw [h.cell, Nat.zero_add]; exact flat_at rqC 5 (fun _ => rfl) l j d hj i hi⟩, ok⟩
theorem ans_of {w : World} {b T : Nat} {l : List (Rq × Int)} (h : Blk w b (l.flatMap fun p => anC p.1 p.2) T) (hl : l.length ≤ 1000) : IsAns w (some ⟨b, 0, none⟩) l.length l :=
  ⟨Nat.le_refl _, by omega, fun _ => ⟨b, 0, rfl, h.lt, fun j d hj i hi => by rw [h.cell, Nat.zero_add]; exact flat_at (fun p => anC p.1 p.2) 6 (fun _ => rfl) l j d hj i hi⟩⟩
theorem dss2_of {w : World} {b b1 b2 T : Nat} {l1 l2 : List Dn} (h : Blk w b [.slice (some ⟨b1, 0, none⟩) l1.length l1.length, .slice (some ⟨b2, 0, none⟩) l2.length l2.length] T) (h1 : IsDns w (some ⟨b1, 0, none⟩) l1.length l1) (h2 : IsDns w (some ⟨b2, 0, none⟩) l2.length l2) : IsDss w (some ⟨b, 0, none⟩) 2 [l1, l2] :=
  ⟨Nat.le_refl _, by decide, fun _ => ⟨b, 0, rfl, h.lt, fun j l hj => by
    rw [h.cell, Nat.zero_add]
    match j, hj with
    | 0, hj => simp at hj; subst hj; exact ⟨_, _, rfl, h1⟩
    | 1, hj => simp at hj; subst hj; exact ⟨_, _, rfl, h2⟩⟩⟩
theorem IsDns.alloc {w : World} {a : Option Addr} {c : Nat} {l : List Dn} (h : IsDns w a c l) (o : Obj) : IsDns (w.alloc o) a c l :=
  ⟨h.le, h.small, fun hn => by
    obtain ⟨b, o', e, hb, hc⟩ := h.at_ hn
    exact ⟨b, o', e, by rw [World.size_alloc]; omega, fun j d hj i hi => by rw [(frm_box w o).cell (p := ⟨b, o' + j * 7 + i, none⟩) hb (fun h => h)]; exact hc j d hj i hi⟩⟩
def qa : Rq := ⟨1, 1, 1, 2, 3⟩
def qb : Rq := ⟨2, 1, 1, 2, 4⟩
abbrev OA : Obj := .cells #[.int .u8 1, .int .u32 1, .int .u8 1, .int .u8 2, .int .u16 3] TRq
abbrev OB : Obj := .cells #[.int .u8 2, .int .u32 1, .int .u8 1, .int .u8 2, .int .u16 4] TRq
abbrev OD1 : Obj := .cells #[.int .u32 1, .int .u8 1, .int .u32 1, .int .u8 1, .int .u8 2, .int .u16 3, .int .u32 0] TDn
abbrev OD1b : Obj := .cells #[.int .u32 1, .int .u8 2, .int .u32 1, .int .u8 1, .int .u8 2, .int .u16 4, .int .u32 0] TDn
abbrev OD2 : Obj := .cells #[.int .u32 1, .int .u8 1, .int .u32 1, .int .u8 1, .int .u8 2, .int .u16 3, .int .u32 0, .int .u32 2, .int .u8 2, .int .u32 1, .int .u8 1, .int .u8 2, .int .u16 4, .int .u32 0] TDn
theorem IsRqs.al {w : World} {a : Option Addr} {c : Nat} {l : List Rq} (h : IsRqs w a c l) (o : Obj) : IsRqs (w.alloc o) a c l := h.b0 ((Below.refl _ w).alloc (Nat.le_refl _) o)
theorem kn1 (W : World) : IsDss (((((W.alloc OA).alloc OB).alloc OD1).alloc OD2).alloc (.cells #[.slice (some ⟨W.heap.size + 1 + 1, 0, none⟩) 1 1, .slice (some ⟨W.heap.size + 1 + 1 + 1, 0, none⟩) 2 2] TDs)) (some ⟨W.heap.size + 1 + 1 + 1 + 1, 0, none⟩) 2 [[⟨1, qa, 0⟩], [⟨1, qa, 0⟩, ⟨2, qb, 0⟩]] :=
  dss2_of (l1 := [⟨1, qa, 0⟩]) (l2 := [⟨1, qa, 0⟩, ⟨2, qb, 0⟩]) (blkn _ _ (by simp only [World.size_alloc]) [.slice (some ⟨W.heap.size + 1 + 1, 0, none⟩) 1 1, .slice (some ⟨W.heap.size + 1 + 1 + 1, 0, none⟩) 2 2] TDs)
    ((dns_of (l := [⟨1, qa, 0⟩]) (blkn ((W.alloc OA).alloc OB) _ (by simp only [World.size_alloc]) _ TDn) (by decide)).alloc OD2 |>.alloc _)
    ((dns_of (l := [⟨1, qa, 0⟩, ⟨2, qb, 0⟩]) (blkn (((W.alloc OA).alloc OB).alloc OD1) _ (by simp only [World.size_alloc]) _ TDn) (by decide)).alloc _)
theorem kn2 (W : World) : IsDss (((W.alloc OD1).alloc OD1b).alloc (.cells #[.slice (some ⟨W.heap.size, 0, none⟩) 1 1, .slice (some ⟨W.heap.size + 1, 0, none⟩) 1 1] TDs)) (some ⟨W.heap.size + 1 + 1, 0, none⟩) 2 [[⟨1, qa, 0⟩], [⟨1, qb, 0⟩]] :=
  dss2_of (l1 := [⟨1, qa, 0⟩]) (l2 := [⟨1, qb, 0⟩]) (blkn _ _ (by simp only [World.size_alloc]) [.slice (some ⟨W.heap.size, 0, none⟩) 1 1, .slice (some ⟨W.heap.size + 1, 0, none⟩) 1 1] TDs)
    ((dns_of (l := [⟨1, qa, 0⟩]) (blkn W _ rfl _ TDn) (by decide)).alloc OD1b |>.alloc _)
    ((dns_of (l := [⟨1, qb, 0⟩]) (blkn (W.alloc OD1) _ (by simp only [World.size_alloc]) _ TDn) (by decide)).alloc _)
theorem ok_a : RqOk qa := ⟨by decide, by decide, by decide, by decide, by decide⟩
theorem ok_b : RqOk qb := ⟨by decide, by decide, by decide, by decide, by decide⟩
theorem ok_ab : ∀ r ∈ [qa, qb], RqOk r := fun r hr => by
  simp at hr
  rcases hr with rfl | rfl
  · exact ok_a
  · exact ok_b
theorem dok1 : ∀ l ∈ [[(⟨1, qa, 0⟩ : Dn)], [⟨1, qa, 0⟩, ⟨2, qb, 0⟩]], ∀ d ∈ l, DnOk d := fun l hl d hd => by
  simp at hl
  rcases hl with rfl | rfl <;> simp at hd
  · subst hd; exact ⟨by decide, ok_a⟩
  · rcases hd with rfl | rfl
    · exact ⟨by decide, ok_a⟩
    · exact ⟨by decide, ok_b⟩
theorem dok2 : ∀ l ∈ [[(⟨1, qa, 0⟩ : Dn)], [⟨1, qb, 0⟩]], ∀ d ∈ l, DnOk d := fun l hl d hd => by
  simp at hl
  rcases hl with rfl | rfl <;> simp at hd <;> subst hd
  · exact ⟨by decide, ok_a⟩
  · exact ⟨by decide, ok_b⟩
theorem tot1 : totF (fun _ => none) 0 0 [[⟨1, qa, 0⟩], [⟨1, qa, 0⟩, ⟨2, qb, 0⟩]] = some [qa, qb] := by rfl
theorem tot2 : totF (fun _ => none) 0 0 [[⟨1, qa, 0⟩], [⟨1, qb, 0⟩]] = none := by rfl
theorem KL1 (W : World) : Calls Try.prog 9 #[.slice (some ⟨W.heap.size + 1 + 1 + 1 + 1, 0, none⟩) 2 2] (((((W.alloc OA).alloc OB).alloc OD1).alloc OD2).alloc (.cells #[.slice (some ⟨W.heap.size + 1 + 1, 0, none⟩) 1 1, .slice (some ⟨W.heap.size + 1 + 1 + 1, 0, none⟩) 2 2] TDs)) fun e w' => LRes (((((W.alloc OA).alloc OB).alloc OD1).alloc OD2).alloc (.cells #[.slice (some ⟨W.heap.size + 1 + 1, 0, none⟩) 1 1, .slice (some ⟨W.heap.size + 1 + 1 + 1, 0, none⟩) 2 2] TDs)).heap.size w' e (some [qa, qb]) ∧ Below (((((W.alloc OA).alloc OB).alloc OD1).alloc OD2).alloc (.cells #[.slice (some ⟨W.heap.size + 1 + 1, 0, none⟩) 1 1, .slice (some ⟨W.heap.size + 1 + 1 + 1, 0, none⟩) 2 2] TDs)).heap.size (((((W.alloc OA).alloc OB).alloc OD1).alloc OD2).alloc (.cells #[.slice (some ⟨W.heap.size + 1 + 1, 0, none⟩) 1 1, .slice (some ⟨W.heap.size + 1 + 1 + 1, 0, none⟩) 2 2] TDs)) w' :=
  List_calls (kn1 W) dok1 (by decide) (by decide) _ tot1
theorem KL2 (W : World) : Calls Try.prog 9 #[.slice (some ⟨W.heap.size + 1 + 1, 0, none⟩) 2 2] (((W.alloc OD1).alloc OD1b).alloc (.cells #[.slice (some ⟨W.heap.size, 0, none⟩) 1 1, .slice (some ⟨W.heap.size + 1, 0, none⟩) 1 1] TDs)) fun e w' => e = .returned (.tuple #[.slice none 0 0, .int .i64 240]) ∧ Below (((W.alloc OD1).alloc OD1b).alloc (.cells #[.slice (some ⟨W.heap.size, 0, none⟩) 1 1, .slice (some ⟨W.heap.size + 1, 0, none⟩) 1 1] TDs)).heap.size (((W.alloc OD1).alloc OD1b).alloc (.cells #[.slice (some ⟨W.heap.size, 0, none⟩) 1 1, .slice (some ⟨W.heap.size + 1, 0, none⟩) 1 1] TDs)) w' :=
  List_calls (kn2 W) dok2 (by decide) (by decide) _ tot2
abbrev OAB : Obj := .cells #[.int .u8 1, .int .u32 1, .int .u8 1, .int .u8 2, .int .u16 3, .int .u8 2, .int .u32 1, .int .u8 1, .int .u8 2, .int .u16 4] TRq
abbrev OX (x : Int) : Obj := .cells #[.int .u8 2, .int .u32 1, .int .u8 1, .int .u8 2, .int .u16 4, .int .u32 x] TAn
theorem KR (W : World) {la : Option Addr} {lc : Nat} (hq : IsRqs W la lc [qa, qb]) : Calls Try.prog 10 #[.slice la 2 lc, .slice (some ⟨W.heap.size, 0, none⟩) 2 2] (W.alloc OAB) fun e w' => e = .returned (.bool true) ∧ Frm (fun _ => False) (W.alloc OAB) w' :=
  Reqs_calls (hq.al OAB) (rqs_of (l := [qa, qb]) (blkn W _ rfl _ TRq) (by decide) ok_ab) true rfl
theorem KT (W : World) {la : Option Addr} {lc : Nat} (hq : IsRqs W la lc [qa, qb]) (x : Int) (z : Bool) (hz : rightsF [qa, qb] [(qb, x)] = z) : Calls Try.prog 11 #[.slice la 2 lc, .slice (some ⟨W.heap.size, 0, none⟩) 1 1] (W.alloc (OX x)) fun e w' => e = .returned (.bool z) ∧ Below (W.alloc (OX x)).heap.size (W.alloc (OX x)) w' :=
  Rights_calls (hq.al (OX x)) (ans_of (l := [(qb, x)]) (blkn W _ rfl _ TAn) (show 1 ≤ 1000 by decide)) z hz
theorem KO (W : World) {la : Option Addr} {lc : Nat} (hq : IsRqs W la lc [qa, qb]) : Calls Try.prog 14 #[.slice la 2 lc] W fun e w' => e = .returned (.bool true) ∧ Below W.heap.size W w' := by
  have h := Once_calls (l := [qa, qb]) hq (by decide)
  exact h
theorem rt3 : rightsF [qa, qb] [(qb, 3)] = true := by decide
theorem rt4 : rightsF [qa, qb] [(qb, 4)] = false := by decide
set_option maxHeartbeats 16000000 in
theorem known_calls (w : World) : Calls Try.prog 7 #[] w fun e w' => e = .returned (.bool true) ∧ Below w.heap.size w w' := by
  go_enter Try.func7, Try.ntmps7
  go_wp2_with (first
    | (go_at_call 8; (with_reducible refine (HPut_calls w1 2 1 2 4).mono ?_); rintro e w2 ⟨rfl, f'⟩; have HF2 := hid (below_frm0 HF.out f'); clear HF f'; have HF := HF2; clear HF2)
    | (go_at_call 8; (with_reducible refine (HPut_calls w 1 1 2 3).mono ?_); rintro e w1 ⟨rfl, f'⟩; have HF := hid (below_frm0 (Below.refl w.heap.size w) f'); clear f')
    | (go_at_call 9; (with_reducible refine (KL1 w2).mono ?_); rintro e w3 ⟨hr, f'⟩; obtain ⟨v', rfl, ho⟩ := hr; obtain ⟨la, lc, rfl, hq⟩ := ho.rqs ok_ab; have HF2 := hid (below_frm0 (((((HF.out.alloc HF.out.size _).alloc (by have := HF.out.size; simp; omega) _).alloc (by have := HF.out.size; simp; omega) _).alloc (by have := HF.out.size; simp; omega) _).alloc (by have := HF.out.size; simp; omega) _) (frm0_of f')); have HA := hid ((((((blkn w2 _ rfl (rqC qa) TRq).alloc OB).alloc OD1).alloc OD2).alloc _).frm (frm0_of f') (fun h => h)); have HB := hid (((((blkn (w2.alloc OA) _ (World.size_alloc _ _) (rqC qb) TRq).alloc OD1).alloc OD2).alloc _).frm (frm0_of f') (fun h => h)); have HQ := hid hq; clear HF f' ho hq; have HF := HF2; clear HF2; have a0 := HA.out.cell 0; have a1 := HA.out.cell 1; have a2 := HA.out.cell 2; have a3 := HA.out.cell 3; have a4 := HA.out.cell 4; have b0 := HB.out.cell 0; have b1 := HB.out.cell 1; have b2 := HB.out.cell 2; have b3 := HB.out.cell 3; have b4 := HB.out.cell 4; (simp only [rqC, qa, qb, List.getElem?_cons_succ, List.getElem?_cons_zero] at a0 a1 a2 a3 a4 b0 b1 b2 b3 b4); have hla := HA.out.lt; have hlb := HB.out.lt)
    | (go_at_call 9; (with_reducible refine (KL2 w3).mono ?_); rintro e w4 ⟨rfl, f'⟩; clear a0 a1 a2 a3 a4 b0 b1 b2 b3 b4 hla hlb; have HA2 := hid ((((HA.out.alloc OD1).alloc OD1b).alloc _).frm (frm0_of f') (fun h => h)); have HB2 := hid ((((HB.out.alloc OD1).alloc OD1b).alloc _).frm (frm0_of f') (fun h => h)); have HQ2 := hid (((HQ.out.al OD1).al OD1b).al _ |>.b0 f'); have HF2 := hid (below_frm0 (((HF.out.alloc HF.out.size _).alloc (by have := HF.out.size; simp; omega) _).alloc (by have := HF.out.size; simp; omega) _) (frm0_of f')); clear HA HB HQ HF f'; have HA := HA2; have HB := HB2; have HQ := HQ2; have HF := HF2; clear HA2 HB2 HQ2 HF2; have a0 := HA.out.cell 0; have a1 := HA.out.cell 1; have a2 := HA.out.cell 2; have a3 := HA.out.cell 3; have a4 := HA.out.cell 4; have b0 := HB.out.cell 0; have b1 := HB.out.cell 1; have b2 := HB.out.cell 2; have b3 := HB.out.cell 3; have b4 := HB.out.cell 4; (simp only [rqC, qa, qb, List.getElem?_cons_succ, List.getElem?_cons_zero] at a0 a1 a2 a3 a4 b0 b1 b2 b3 b4); have hla := HA.out.lt; have hlb := HB.out.lt)
    | (go_at_call 10; (with_reducible refine (KR w4 HQ.out).mono ?_); rintro e w5 ⟨rfl, f'⟩; clear a0 a1 a2 a3 a4 b0 b1 b2 b3 b4 hla hlb; have HA2 := hid ((HA.out.alloc (OAB)).frm (f') (fun h => h)); have HB2 := hid ((HB.out.alloc (OAB)).frm (f') (fun h => h)); have HQ2 := hid ((HQ.out.al (OAB)).b0 (Frm.below (f') (Nat.le_refl _) (fun _ _ h => h))); have HF2 := hid (below_frm0 (HF.out.alloc HF.out.size (OAB)) (f')); clear HA HB HQ HF f'; have HA := HA2; have HB := HB2; have HQ := HQ2; have HF := HF2; clear HA2 HB2 HQ2 HF2; have a0 := HA.out.cell 0; have a1 := HA.out.cell 1; have a2 := HA.out.cell 2; have a3 := HA.out.cell 3; have a4 := HA.out.cell 4; have b0 := HB.out.cell 0; have b1 := HB.out.cell 1; have b2 := HB.out.cell 2; have b3 := HB.out.cell 3; have b4 := HB.out.cell 4; (simp only [rqC, qa, qb, List.getElem?_cons_succ, List.getElem?_cons_zero] at a0 a1 a2 a3 a4 b0 b1 b2 b3 b4); have hla := HA.out.lt; have hlb := HB.out.lt)
    | (go_at_call 11; (with_reducible refine (KT w5 HQ.out 3 true rt3).mono ?_); rintro e w6 ⟨rfl, f'⟩; clear a0 a1 a2 a3 a4 b0 b1 b2 b3 b4 hla hlb; have HA2 := hid ((HA.out.alloc (OX 3)).frm (frm0_of f') (fun h => h)); have HB2 := hid ((HB.out.alloc (OX 3)).frm (frm0_of f') (fun h => h)); have HQ2 := hid ((HQ.out.al (OX 3)).b0 (Frm.below (frm0_of f') (Nat.le_refl _) (fun _ _ h => h))); have HF2 := hid (below_frm0 (HF.out.alloc HF.out.size (OX 3)) (frm0_of f')); clear HA HB HQ HF f'; have HA := HA2; have HB := HB2; have HQ := HQ2; have HF := HF2; clear HA2 HB2 HQ2 HF2; have a0 := HA.out.cell 0; have a1 := HA.out.cell 1; have a2 := HA.out.cell 2; have a3 := HA.out.cell 3; have a4 := HA.out.cell 4; have b0 := HB.out.cell 0; have b1 := HB.out.cell 1; have b2 := HB.out.cell 2; have b3 := HB.out.cell 3; have b4 := HB.out.cell 4; (simp only [rqC, qa, qb, List.getElem?_cons_succ, List.getElem?_cons_zero] at a0 a1 a2 a3 a4 b0 b1 b2 b3 b4); have hla := HA.out.lt; have hlb := HB.out.lt)
    | (go_at_call 11; (with_reducible refine (KT w6 HQ.out 4 false rt4).mono ?_); rintro e w7 ⟨rfl, f'⟩; clear a0 a1 a2 a3 a4 b0 b1 b2 b3 b4 hla hlb; have HA2 := hid ((HA.out.alloc (OX 4)).frm (frm0_of f') (fun h => h)); have HB2 := hid ((HB.out.alloc (OX 4)).frm (frm0_of f') (fun h => h)); have HQ2 := hid ((HQ.out.al (OX 4)).b0 (Frm.below (frm0_of f') (Nat.le_refl _) (fun _ _ h => h))); have HF2 := hid (below_frm0 (HF.out.alloc HF.out.size (OX 4)) (frm0_of f')); clear HA HB HQ HF f'; have HA := HA2; have HB := HB2; have HQ := HQ2; have HF := HF2; clear HA2 HB2 HQ2 HF2; have a0 := HA.out.cell 0; have a1 := HA.out.cell 1; have a2 := HA.out.cell 2; have a3 := HA.out.cell 3; have a4 := HA.out.cell 4; have b0 := HB.out.cell 0; have b1 := HB.out.cell 1; have b2 := HB.out.cell 2; have b3 := HB.out.cell 3; have b4 := HB.out.cell 4; (simp only [rqC, qa, qb, List.getElem?_cons_succ, List.getElem?_cons_zero] at a0 a1 a2 a3 a4 b0 b1 b2 b3 b4); have hla := HA.out.lt; have hlb := HB.out.lt)
    | (go_at_call 14; (with_reducible refine (KO w7 HQ.out).mono ?_); rintro e w8 ⟨rfl, f'⟩; have HF2 := hid (below_next HF.out f'); clear HF; have HF := HF2; clear HF2))
  go_ret
  exact ⟨rfl, HF.out⟩
end Go.Proofs.Ytljfbaakgjmmfaa
