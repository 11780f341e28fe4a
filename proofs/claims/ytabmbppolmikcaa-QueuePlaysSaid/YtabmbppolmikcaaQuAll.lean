/- The queue: All, First. -/
import Derived.Test.YtabmbppolmikcaaQuSort2
import Derived.Test.YtabmbppolmikcaaQuSeq
namespace Go.Proofs.Ytabmbppolmikcaa
open Go.RowKit Go.ChangeShapes
set_option linter.unusedVariables false
set_option linter.unusedSimpArgs false
set_option maxRecDepth 100000
theorem pw_eq {α : Type} (R : α → α → Prop) (hR : ∀ a b, R a b → ¬ R b a) : ∀ (l h : List α), l.Pairwise R → h.Pairwise R → (∀ m, m ∈ l ↔ m ∈ h) → l = h := by
  intro l
  induction l with
  | nil =>
    intro h _ _ hm
    cases h with
    | nil => rfl
    | cons b h => exact absurd ((hm b).2 (List.mem_cons_self ..)) (by simp)
  | cons a l ih =>
    intro h hl hh hm
    cases h with
    | nil => exact absurd ((hm a).1 (List.mem_cons_self ..)) (by simp)
    | cons b h =>
      obtain ⟨h1, h2⟩ := List.pairwise_cons.1 hl
      obtain ⟨h3, h4⟩ := List.pairwise_cons.1 hh
      have hab : a = b := by
        rcases List.mem_cons.1 ((hm a).1 (List.mem_cons_self ..)) with e | e
        · exact e
        · rcases List.mem_cons.1 ((hm b).2 (List.mem_cons_self ..)) with e2 | e2
          · exact e2.symm
          · exact absurd (h3 a e) (hR _ _ (h1 b e2))
      subst hab
      rw [ih h h2 h4 fun m => ?_]
      constructor
      · intro hml
        rcases List.mem_cons.1 ((hm m).1 (List.mem_cons_of_mem _ hml)) with e | e
        · subst e; exact absurd (h1 _ hml) (fun h => hR _ _ h h)
        · exact e
      · intro hml
        rcases List.mem_cons.1 ((hm m).2 (List.mem_cons_of_mem _ hml)) with e | e
        · subst e; exact absurd (h3 _ hml) (fun h => hR _ _ h h)
        · exact e
theorem keys_mem {L : List Qe} {n nn : Nat} (h : QI L n) {ss : List Rq} (hk : Keys (fQ L) nn ss) (r : Rq) : r ∈ ss ↔ r ∈ L.map (·.1) := by
  rw [hk.mem r, List.mem_map]
  constructor
  · intro hn
    obtain ⟨v, hv⟩ := Option.ne_none_iff_exists'.1 hn
    obtain ⟨e, he, h1, _⟩ := fQ_inv hv
    exact ⟨e, he, (rqV_inj h1).symm⟩
  · rintro ⟨e, he, rfl⟩
    rw [h.find he]; simp
theorem keys_dist {L : List Qe} {n nn : Nat} (h : QI L n) {ss : List Rq} (hk : Keys (fQ L) nn ss) : Alike (kap L) ss ss := by
  refine ⟨rfl, fun _ => Iff.rfl, fun p q hpq hp hq => ?_⟩
  have key : ∀ p q, p < q → q < ss.length → sq (kap L) ss p ≠ sq (kap L) ss q := fun p q hpq hq => by
    have hne := List.pairwise_iff_getElem.1 hk.pw p q (by omega) hq hpq
    obtain ⟨a, ha, h1⟩ := List.mem_map.1 ((keys_mem h hk _).1 (List.getElem_mem (show p < ss.length by omega)))
    obtain ⟨b, hb, h2⟩ := List.mem_map.1 ((keys_mem h hk _).1 (List.getElem_mem hq))
    have e1 : sq (kap L) ss p = -(a.2 : Int) := by
      unfold sq; rw [List.getD_eq_getElem?_getD, List.getElem?_eq_getElem (show p < ss.length by omega)]
      show kap L ss[p] = _
      rw [← h1]; unfold kap; rw [stm_of h ha]
    have e2 : sq (kap L) ss q = -(b.2 : Int) := by
      unfold sq; rw [List.getD_eq_getElem?_getD, List.getElem?_eq_getElem hq]
      show kap L ss[q] = _
      rw [← h2]; unfold kap; rw [stm_of h hb]
    rw [e1, e2]
    intro he
    have he : a.2 = b.2 := by omega
    have hab : a = b := by
      have hup := h.up
      clear h1 h2 e1 e2 hne hk
      clear h
      induction L with
      | nil => cases ha
      | cons x l ih =>
        obtain ⟨g1, g2⟩ := List.pairwise_cons.1 hup
        rcases List.mem_cons.1 ha with ea | ea <;> rcases List.mem_cons.1 hb with eb | eb
        · rw [ea, eb]
        · have := g1 b eb; rw [← ea] at this; omega
        · have := g1 a ea; rw [← eb] at this; omega
        · exact ih ea eb g2
    exact hne (by rw [← h1, ← h2, hab])
  rcases Nat.lt_or_gt_of_ne hpq with hlt | hlt
  · exact key p q hlt hq
  · exact fun e => key q p hlt hp e.symm
theorem sorted_is {L : List Qe} {n nn : Nat} (h : QI L n) {ss L' : List Rq} (hk : Keys (fQ L) nn ss) (ha : Alike (kap L) ss L') (hs : ∀ p q, p < q → q < ss.length → sq (kap L) L' q < sq (kap L) L' p) : L' = L.map (·.1) := by
  refine pw_eq (fun a b => kap L b < kap L a) (fun a b h1 h2 => by omega) _ _ ?_ ?_ (fun m => (ha.mem m).trans (keys_mem h hk m))
  · refine List.pairwise_iff_getElem.2 fun i j hi hj hij => ?_
    have := hs i j hij (by rw [← ha.len]; exact hj)
    unfold sq at this
    rw [List.getD_eq_getElem?_getD, List.getD_eq_getElem?_getD, List.getElem?_eq_getElem hi, List.getElem?_eq_getElem hj] at this
    exact this
  · refine List.pairwise_map.2 (List.Pairwise.imp_of_mem ?_ h.up)
    intro a b ha hb hab
    unfold kap
    rw [stm_of h ha, stm_of h hb]
    omega
set_option maxHeartbeats 4000000 in
theorem Sorted_calls {w : World} {qb mb n xb T Bm T2 : Nat} {L : List Qe} (h : IsQ w qb mb L n) (hx : Blk w xb [.pointer (some ⟨qb, 0, none⟩)] T) (hm : Blk w Bm [.map (some mb)] T2) :
    Calls Try.prog 20 #[.func (.func 28) #[] #[.pointer (some ⟨Bm, 0, none⟩)], .func (.func 22) #[] #[.pointer (some ⟨xb, 0, none⟩)]] w fun e w' => ∃ a c, e = .returned (.slice a L.length c) ∧ OwnY w' (fun k => k < w.heap.size) (.slice a L.length c) (L.map (·.1)) ∧ Frm (fun _ => False) w w' := by
  have HQ := hid h; have HX := hid hx; have HM := hid hm
  clear h hx hm
  go_enter Try.func20, Try.ntmps20
  go_wp2_with (first
    | (go_at_call 26; (with_reducible refine (Collect_calls HM.out HQ.out.map (Nat.le_trans HQ.out.inv.few (by decide))).mono ?_); rintro e w1 ⟨v, ss, rfl, hk, ho, f1⟩; obtain ⟨ra, rc, hv⟩ := ho.slice; obtain ⟨n3, hn3⟩ : ∃ n3, ss.length = n3 := ⟨_, rfl⟩; rw [hn3] at hv; subst hv; have HNE := hid (show ∀ g, (Value.slice ra n3 rc).ownBlock = some g → ¬ g = qb ∧ ¬ g = mb ∧ ¬ g = xb from fun g hg => ⟨fun e => (show ¬ g < w.heap.size from ho.off g hg) (by rw [e]; exact HQ.out.lt.1), fun e => (show ¬ g < w.heap.size from ho.off g hg) (by rw [e]; exact HQ.out.lt.2), fun e => (show ¬ g < w.heap.size from ho.off g hg) (by rw [e]; exact HX.out.lt)⟩); have HK := hid hk; have HO := hid ho; have HF1 := hid f1; have HN3 := hid hn3; have HKO := hid (show ∀ r ∈ ss, RqOk r from fun r hr => by obtain ⟨e, he, h2⟩ := List.mem_map.1 ((keys_mem HQ.out.inv HK.out r).1 hr); rw [← h2]; exact (HQ.out.inv.real e he).2); clear hk ho f1 hn3)
    | (go_at_call 27; (with_reducible refine (Sort_calls (HQ.out.quiet HF1.out) (HX.out.frm HF1.out (fun h => h)) HNE.out HKO.out HO.out (Nat.le_trans HK.out.len HQ.out.inv.few) (keys_dist HQ.out.inv HK.out)).mono ?_); rintro e w2 ⟨rfl, ⟨L', ho2, ha, hs⟩, f2⟩; have HS := hid (sorted_is HQ.out.inv HK.out ha hs); have HO2 := hid ho2; have HA2 := hid ha; have HF2 := hid f2; clear ho2 ha hs f2))
  go_ret
  have e1 : n3 = L.length := by rw [← HN3.out, ← HA2.out.len, HS.out, List.length_map]
  subst e1
  rw [HS.out] at HO2
  exact ⟨ra, rc, rfl, HO2.out, HF1.out.trans' HF2.out (fun i hi e => (show ¬ i < w.heap.size from HO.out.off i e) hi)⟩
set_option maxHeartbeats 4000000 in
theorem All_calls {w : World} {qb mb n : Nat} {L : List Qe} (h : IsQ w qb mb L n) :
    Calls Try.prog 10 #[.pointer (some ⟨qb, 0, none⟩)] w fun e w' => ∃ a c, e = .returned (.slice a L.length c) ∧ OwnY w' (fun k => k < w.heap.size) (.slice a L.length c) (L.map (·.1)) ∧ Frm (fun _ => False) w w' := by
  have HQ := hid (h.quiet (qbox w (.cells #[.pointer (some ⟨qb, 0, none⟩)] 24)))
  have HX := hid (Blk.new w [.pointer (some ⟨qb, 0, none⟩)] 24)
  have HF := hid (qbox w (.cells #[.pointer (some ⟨qb, 0, none⟩)] 24))
  have q0 := HQ.out.cell
  clear h
  go_enter Try.func10, Try.ntmps10
  go_wp2_with (first
    | (go_at_call 21; (with_reducible refine (Keys_calls _ _).mono ?_); rintro e w1 ⟨rfl, hb, f1⟩; (rw [World.size_alloc] at hb); have HB := hid hb; have HQ1 := hid (HQ.out.quiet f1); have HX1 := hid (HX.out.frm f1 (fun h => h)); have HF1 := hid (HF.out.trans f1); clear hb f1 HQ HX HF)
    | (go_at_call 20; (with_reducible refine (Sorted_calls HQ1.out HX1.out HB.out).mono ?_); rintro e w2 ⟨a, c, rfl, ho, f2⟩; have HO := hid ho; have HF2 := hid f2; clear ho f2))
  go_ret
  exact ⟨a, c, rfl, ⟨HO.out.own, fun k hk h => HO.out.off k hk (Nat.lt_of_lt_of_le h HF1.out.size)⟩, HF1.out.trans HF2.out⟩
set_option maxHeartbeats 4000000 in
theorem First_none {w : World} {qb mb n : Nat} (h : IsQ w qb mb [] n) :
    Calls Try.prog 16 #[.pointer (some ⟨qb, 0, none⟩)] w fun e w' => e = .returned (.tuple #[.agg #[.int .u8 0, .int .u32 0, .int .u8 0, .int .u8 0, .int .u16 0], .bool false]) ∧ Frm (fun _ => False) w w' := by
  have HQ := hid (h.quiet (qbox w (.cells #[.int .u8 0, .int .u32 0, .int .u8 0, .int .u8 0, .int .u16 0] TRq)))
  have HR := hid (Blk.new w [.int .u8 0, .int .u32 0, .int .u8 0, .int .u8 0, .int .u16 0] TRq)
  have HF := hid (qbox w (.cells #[.int .u8 0, .int .u32 0, .int .u8 0, .int .u8 0, .int .u16 0] TRq))
  clear h
  go_enter Try.func16, Try.ntmps16
  go_wp2_with (go_at_call 10; (with_reducible refine (All_calls HQ.out).mono ?_); rintro e w1 ⟨a, c, rfl, ho, f1⟩; have HR1 := hid (HR.out.frm f1 (fun h => h)); have HF1 := hid (HF.out.trans f1); have r0 := HR1.out.cell 0; have r1 := HR1.out.cell 1; have r2 := HR1.out.cell 2; have r3 := HR1.out.cell 3; have r4 := HR1.out.cell 4; have z0 := HR1.out.free 0; have z1 := HR1.out.free 1; have z2 := HR1.out.free 2; have z3 := HR1.out.free 3; have z4 := HR1.out.free 4; (simp only [List.getElem?_cons_succ, List.getElem?_cons_zero] at r0 r1 r2 r3 r4); clear ho f1)
  (try simp only [Exit.inBlock, Exit.then])
  refine bodyPost_ret (results_cell2 rfl _ _ w.heap.size TRq [.int .u8 0, .int .u32 0, .int .u8 0, .int .u8 0, .int .u16 0] _ (.bool false) rfl rfl ((((((HR1.out.setCell 0 (.int .u8 0)).setCell 1 (.int .u32 0)).setCell 2 (.int .u8 0)).setCell 3 (.int .u8 0)).setCell 4 (.int .u16 0))) Try.underlying33 (by kernel_rfl)) rfl ⟨rfl, (((((HF1.out.setCell _ _ (.inl (Nat.le_refl _))).setCell _ _ (.inl (Nat.le_refl _))).setCell _ _ (.inl (Nat.le_refl _))).setCell _ _ (.inl (Nat.le_refl _))).setCell _ _ (.inl (Nat.le_refl _)))⟩
set_option maxHeartbeats 4000000 in
theorem First_some {w : World} {qb mb n : Nat} {x : Qe} {L : List Qe} (h : IsQ w qb mb (x :: L) n) :
    Calls Try.prog 16 #[.pointer (some ⟨qb, 0, none⟩)] w fun e w' => e = .returned (.tuple #[.agg #[.int .u8 x.1.c, .int .u32 x.1.t, .int .u8 x.1.k, .int .u8 x.1.y, .int .u16 x.1.v], .bool true]) ∧ Frm (fun _ => False) w w' := by
  have HQ := hid (h.quiet (qbox w (.cells #[.int .u8 0, .int .u32 0, .int .u8 0, .int .u8 0, .int .u16 0] TRq)))
  have HR := hid (Blk.new w [.int .u8 0, .int .u32 0, .int .u8 0, .int .u8 0, .int .u16 0] TRq)
  have HF := hid (qbox w (.cells #[.int .u8 0, .int .u32 0, .int .u8 0, .int .u8 0, .int .u16 0] TRq))
  obtain ⟨⟨xc, xt, xk, xy, xv⟩, xs⟩ := x
  obtain ⟨m, hm⟩ : ∃ m, L.length = m := ⟨_, rfl⟩
  have HM := hid (show (((⟨xc, xt, xk, xy, xv⟩, xs) : Qe) :: L).length = m + 1 by rw [List.length_cons, hm])
  have hm4 : m + 1 ≤ 4 := by rw [← HM.out]; exact h.inv.few
  have HM4 := hid hm4
  clear h hm hm4
  go_enter Try.func16, Try.ntmps16
  go_wp2_with (go_at_call 10; (with_reducible refine (All_calls HQ.out).mono ?_); rintro e w1 ⟨a, c, rfl, ho, f1⟩; obtain ⟨g, c', hv, hc1, hc2, hcell⟩ := ho.at_ (by rw [List.length_map, HM.out]; omega); injection hv with hv1 hv2 hv3; subst hv1 hv3; have HR1 := hid (HR.out.frm f1 (fun h => h)); have HF1 := hid (HF.out.trans f1); have hgl := ho.lt rfl; have hgn : ¬ g = w.heap.size := (fun e => (show ¬ g < (w.alloc (.cells #[.int .u8 0, .int .u32 0, .int .u8 0, .int .u8 0, .int .u16 0] TRq)).heap.size from ho.off g rfl) (by rw [e]; simp)); have hgn2 : ¬ w.heap.size = g := (fun e => hgn e.symm); have r0 := HR1.out.cell 0; have r1 := HR1.out.cell 1; have r2 := HR1.out.cell 2; have r3 := HR1.out.cell 3; have r4 := HR1.out.cell 4; have z0 := HR1.out.free 0; have z1 := HR1.out.free 1; have z2 := HR1.out.free 2; have z3 := HR1.out.free 3; have z4 := HR1.out.free 4; have c0 := hcell 0 ⟨xc, xt, xk, xy, xv⟩ rfl 0 (by decide); have c1 := hcell 0 ⟨xc, xt, xk, xy, xv⟩ rfl 1 (by decide); have c2 := hcell 0 ⟨xc, xt, xk, xy, xv⟩ rfl 2 (by decide); have c3 := hcell 0 ⟨xc, xt, xk, xy, xv⟩ rfl 3 (by decide); have c4 := hcell 0 ⟨xc, xt, xk, xy, xv⟩ rfl 4 (by decide); (simp only [rqC, List.getElem?_cons_succ, List.getElem?_cons_zero, Nat.zero_mul, Nat.zero_add] at r0 r1 r2 r3 r4 c0 c1 c2 c3 c4); (rw [List.length_map] at hc1); (rw [HM.out] at hc1); (rw [HM.out]); have hc3 : ((m : Int) + 1 == 0) = false := (beq_eq_false_iff_ne.2 (by omega)); have hm0 : (0 : Int) < (m : Int) + 1 := (by omega); clear ho f1 hcell hv2)
  (try simp only [Exit.inBlock, Exit.then])
  refine bodyPost_ret (results_cell2 rfl _ _ w.heap.size TRq [.int .u8 xc, .int .u32 xt, .int .u8 xk, .int .u8 xy, .int .u16 xv] _ (.bool true) rfl rfl ((((((HR1.out.setCell 0 (.int .u8 xc)).setCell 1 (.int .u32 xt)).setCell 2 (.int .u8 xk)).setCell 3 (.int .u8 xy)).setCell 4 (.int .u16 xv))) Try.underlying33 (by kernel_rfl)) rfl ⟨rfl, (((((HF1.out.setCell _ _ (.inl (Nat.le_refl _))).setCell _ _ (.inl (Nat.le_refl _))).setCell _ _ (.inl (Nat.le_refl _))).setCell _ _ (.inl (Nat.le_refl _))).setCell _ _ (.inl (Nat.le_refl _)))⟩
end Go.Proofs.Ytabmbppolmikcaa
