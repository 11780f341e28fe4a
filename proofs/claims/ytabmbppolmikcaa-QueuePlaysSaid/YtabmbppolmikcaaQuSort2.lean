/- Rows of requests, sorted by the library. -/
import Derived.Test.YtabmbppolmikcaaQuSort
import Derived.Deep.MidRow
namespace Go.Proofs.Ytabmbppolmikcaa
open Go.RowKit Go.ChangeShapes
set_option linter.unusedVariables false
set_option linter.unusedSimpArgs false
set_option maxRecDepth 100000
theorem OwnY.cells {w : World} {A : Nat → Prop} {g n c : Nat} {l : List Rq} (h : OwnY w A (.slice (some ⟨g, 0, none⟩) n c) l) (j : Nat) (r : Rq) (hj : l[j]? = some r) (i : Nat) (hi : i < 5) : w.cell? ⟨g, j * 5 + i, none⟩ = (rqC r)[i]? := by
  obtain ⟨g', c', e, _, _, h4⟩ := h.at_ (by have := (List.getElem?_eq_some_iff.1 hj).1; omega)
  injection e with e1 e2 e3
  injection e1 with e1
  injection e1 with e1
  subst e1
  exact h4 j r hj i hi
theorem OwnY.free {w : World} {A : Nat → Prop} {g n c : Nat} {l : List Rq} (h : OwnY w A (.slice (some ⟨g, 0, none⟩) n c) l) (i : Nat) : w.frozen? ⟨g, i, none⟩ = false := by
  rcases h.own.2 with ⟨e, _⟩ | ⟨g', cap, cur, e, _, hgg, _⟩
  · cases e
  · injection e with e1 e2 e3
    injection e1 with e1
    injection e1 with e1
    subst e1
    simp [World.frozen?, hgg]
theorem OwnY.lt2 {w : World} {A : Nat → Prop} {g n c : Nat} {l : List Rq} (h : OwnY w A (.slice (some ⟨g, 0, none⟩) n c) l) : g < w.heap.size := h.lt rfl
theorem wp_store_y {op : Oper} {a : Act} {w : World} {K : Act → World → Prop} {Q : Exit → Act → World → Prop} (x y : Operand) (ho : op.op = .store TRq x y) {A : Nat → Prop} {g n c : Nat} {l : List Rq}
    (h : OwnY w A (.slice (some ⟨g, 0, none⟩) n c) l) (hn : n = l.length) (j : Nat) (hj : j < l.length) (r : Rq) (hx : a.eval x = .pointer (some ⟨g, j * 5, none⟩)) (hy : a.eval y = .agg #[.int .u8 r.c, .int .u32 r.t, .int .u8 r.k, .int .u8 r.y, .int .u16 r.v])
    (hK : ∀ w', OwnY w' A (.slice (some ⟨g, 0, none⟩) n c) (l.set j r) → Frm (· = g) w w' → K (a.put op.dst undef) w') : op.wp Try.prog a w K Q := by
  refine wp_store_mid TRq x y ho g (j * 5) _ hx hy (fun i hi => ⟨?_, h.free _⟩) (by kernel_rfl) (by simp [Value.oneCell']) (hK _ ?_ ?_)
  · obtain ⟨q, hq⟩ : ∃ q, l[j]? = some q := ⟨_, List.getElem?_eq_getElem hj⟩
    rw [h.cells j q hq i hi, List.getElem?_eq_getElem (show i < (rqC q).length from hi)]; rfl
  · exact h.set hn j hj r
  · exact (((((Frm.refl (· = g) w).setCell ⟨g, j * 5, none⟩ _ (.inr rfl)).setCell ⟨g, j * 5 + 1, none⟩ _ (.inr rfl)).setCell ⟨g, j * 5 + 2, none⟩ _ (.inr rfl)).setCell ⟨g, j * 5 + 3, none⟩ _ (.inr rfl)).setCell ⟨g, j * 5 + 4, none⟩ _ (.inr rfl)
set_option maxHeartbeats 16000000 in
theorem Ins_calls {w : World} {A : Nat → Prop} {g n c : Nat} {L : List Rq} {qb mb n0 xb T : Nat} {L0 : List Qe} (hq : IsQ w qb mb L0 n0) (hx : Blk w xb [.pointer (some ⟨qb, 0, none⟩)] T) (hne : ¬ g = qb ∧ ¬ g = mb ∧ ¬ g = xb) (hko : ∀ r ∈ L, RqOk r) (h : OwnY w A (.slice (some ⟨g, 0, none⟩) n c) L) (hn : n = L.length) (hnc : n ≤ c) (hcm : c ≤ 9223372036854775807) (hl : n ≤ 12) (hd : Alike (kap L0) L L) :
    Calls Try.prog 33 #[.slice (some ⟨g, 0, none⟩) n c, .int .i64 0, .int .i64 n, (.func (.func 22) #[] #[.pointer (some ⟨xb, 0, none⟩)])] w fun e w' => e = .returned (.tuple #[]) ∧ (∃ L', OwnY w' A (.slice (some ⟨g, 0, none⟩) n c) L' ∧ Alike (kap L0) L L' ∧ ∀ p q, p < q → q < n → sq (kap L0) L' q < sq (kap L0) L' p) ∧ Frm (· = g) w w' := by
  have HO := hid h; have HA := hid hd; have HN := hid hn; have HL := hid hl; have HQ0 := hid hq; have HX0 := hid hx; have HNE := hid hne; have HKO := hid hko
  clear h hn hd hq hx hne hko
  have hn12 : (n : Int) ≤ 12 := by omega
  have hn0 : (0 : Int) ≤ (n : Int) := by omega
  go_enter Try.func33, Try.ntmps33
  go_wp2
  go_loopw [8] (fun iv wr => ∃ (i : Nat) (L1 : List Rq), 1 ≤ i ∧ (i ≤ n ∨ i = 1) ∧ iv = .int .i64 i ∧ OwnY wr A (.slice (some ⟨g, 0, none⟩) n c) L1 ∧ Alike (kap L0) L L1 ∧ Ord (kap L0) L1 (i - 1) i ∧ Frm (· = g) w wr) (fun i _ => 13 - (intOf i).toNat)
  case atStart => exact ⟨1, L, by omega, .inr rfl, rfl, HO.out, HA.out, fun p q h1 h2 _ => by omega, Frm.refl _ _⟩
  case round =>
    clear HO HA
    generalize wr = wx at *
    obtain ⟨i, L1, hi1, hin, rfl, ho, ha, hr, hf⟩ := hrel
    have HO := hid ho; have HA := hid ha; have HR := hid hr; have HF := hid hf
    clear ho ha hr hf
    have HI1 := hid hi1
    by_cases hlt : i < n
    · have HLT := hid hlt
      have hii : (i : Int) < (n : Int) := by omega
      have hi0 : (1 : Int) ≤ (i : Int) := by omega
      clear hin hlt hi1
      go_wp2
      go_loopw [9] (fun jv wr => ∃ (j : Nat) (L2 : List Rq), j ≤ i ∧ jv = .int .i64 j ∧ OwnY wr A (.slice (some ⟨g, 0, none⟩) n c) L2 ∧ Alike (kap L0) L L2 ∧ Ord (kap L0) L2 i j ∧ Frm (· = g) w wr) (fun i _ => (intOf i).toNat)
      case atStart => exact ⟨i, L1, Nat.le_refl _, rfl, HO.out, HA.out, fun p q h1 h2 h3 => HR.out p q h1 (by omega) h3, HF.out⟩
      case round =>
        clear HO HA HR HF
        generalize wr = wz at *
        obtain ⟨j, L2, hji, rfl, ho, ha, hr, hf⟩ := hrel
        have HO := hid ho; have HA := hid ha; have HR := hid hr; have HF := hid hf
        have HJI := hid hji
        clear ho ha hr hf
        by_cases hj : j = 0
        · subst hj
          have hOD := HR.out.done (Nat.zero_le _) (.inl rfl)
          have HOD := hid hOD
          clear hOD hji
          go_wp2_with fail
          refine wp_region_held_drew (S := fun wx => True) (by kernel_rfl) ?_ (fun hHeld => ?_)
          · trivial
          refine wpAnyH_take (i := 0) (oi := ⟨some 18, _, _, _, _, _⟩) (v := ?v1) rfl (by kernel_rfl) (by kernel_rfl) (by kernel_rfl) (fun _ _ _ h => h) (Or.inl ⟨by rfl, ?y1⟩) (by assumption) ?r1
          case y1 => (intro wx hSx; (try dsimp only at hSx); go_simp; (try with_reducible rfl))
          try simp only [Act.put, List.setIfInBounds_toArray, List.set_cons_zero, List.set_cons_succ]
          refine wpAnyH_take (i := 1) (oi := ⟨some 19, _, _, _, _, _⟩) (v := ?v2) rfl (by kernel_rfl) (by kernel_rfl) (by kernel_rfl) (fun _ _ _ h => h) (Or.inl ⟨by rfl, ?y2⟩) (by assumption) ?r2
          case y2 => (intro wx hSx; (try dsimp only at hSx); go_simp; (try with_reducible rfl))
          try simp only [Act.put, List.setIfInBounds_toArray, List.set_cons_zero, List.set_cons_succ]
          refine wpAnyH_take (i := 2) (oi := ⟨some 20, _, _, _, _, _⟩) (v := ?v3) rfl (by kernel_rfl) (by kernel_rfl) (by kernel_rfl) (fun _ _ _ h => h) (Or.inl ⟨by rfl, ?y3⟩) (by assumption) ?r3
          case y3 => (intro wx hSx; (try dsimp only at hSx); go_simp; (try with_reducible rfl))
          try simp only [Act.put, List.setIfInBounds_toArray, List.set_cons_zero, List.set_cons_succ]
          refine wpAnyH_take (i := 3) (oi := ⟨some 21, _, _, _, _, _⟩) (v := ?v4) rfl (by kernel_rfl) (by kernel_rfl) (by kernel_rfl) (fun _ _ _ h => h) (Or.inl ⟨by rfl, ?y4⟩) (by assumption) ?r4
          case y4 => (intro wx hSx; (try dsimp only at hSx); go_simp; (try with_reducible rfl))
          try simp only [Act.put, List.setIfInBounds_toArray, List.set_cons_zero, List.set_cons_succ]
          refine wpAnyH_take (i := 4) (oi := ⟨some 22, _, _, _, _, _⟩) (v := undef) rfl (by kernel_rfl) (by kernel_rfl) (by kernel_rfl) (fun _ _ _ h => h) (Or.inr ⟨by rfl, rfl⟩) (by assumption) ?_
          try simp only [Act.put, List.setIfInBounds_toArray, List.set_cons_zero, List.set_cons_succ]
          refine wpAnyH_take (i := 5) (oi := ⟨some 23, _, _, _, _, _⟩) (v := undef) rfl (by kernel_rfl) (by kernel_rfl) (by kernel_rfl) (fun _ _ _ h => h) (Or.inr ⟨by rfl, rfl⟩) (by assumption) ?_
          try simp only [Act.put, List.setIfInBounds_toArray, List.set_cons_zero, List.set_cons_succ]
          refine wpAnyH_take (i := 6) (oi := ⟨some 24, _, _, _, _, _⟩) (v := undef) rfl (by kernel_rfl) (by kernel_rfl) (by kernel_rfl) (fun _ _ _ h => h) (Or.inr ⟨by rfl, rfl⟩) (by assumption) ?_
          try simp only [Act.put, List.setIfInBounds_toArray, List.set_cons_zero, List.set_cons_succ]
          refine wpAnyH_take (i := 7) (oi := ⟨some 25, _, _, _, _, _⟩) (v := undef) rfl (by kernel_rfl) (by kernel_rfl) (by kernel_rfl) (fun _ _ _ h => h) (Or.inr ⟨by rfl, rfl⟩) (by assumption) ?_
          try simp only [Act.put, List.setIfInBounds_toArray, List.set_cons_zero, List.set_cons_succ]
          refine wpAnyH_take (i := 8) (oi := ⟨some 26, _, _, _, _, _⟩) (v := undef) rfl (by kernel_rfl) (by kernel_rfl) (by kernel_rfl) (fun _ _ _ h => h) (Or.inr ⟨by rfl, rfl⟩) (by assumption) ?_
          try simp only [Act.put, List.setIfInBounds_toArray, List.set_cons_zero, List.set_cons_succ]
          refine wpAnyH_take (i := 9) (oi := ⟨some 27, _, _, _, _, _⟩) (v := undef) rfl (by kernel_rfl) (by kernel_rfl) (by kernel_rfl) (fun _ _ _ h => h) (Or.inr ⟨by rfl, rfl⟩) (by assumption) ?_
          try simp only [Act.put, List.setIfInBounds_toArray, List.set_cons_zero, List.set_cons_succ]
          refine wpAnyH_take (i := 10) (oi := ⟨some 28, _, _, _, _, _⟩) (v := undef) rfl (by kernel_rfl) (by kernel_rfl) (by kernel_rfl) (fun _ _ _ h => h) (Or.inr ⟨by rfl, rfl⟩) (by assumption) ?_
          try simp only [Act.put, List.setIfInBounds_toArray, List.set_cons_zero, List.set_cons_succ]
          refine wpAnyH_take (i := 11) (oi := ⟨some 29, _, _, _, _, _⟩) (v := undef) rfl (by kernel_rfl) (by kernel_rfl) (by kernel_rfl) (fun _ _ _ h => h) (Or.inr ⟨by rfl, rfl⟩) (by assumption) ?_
          try simp only [Act.put, List.setIfInBounds_toArray, List.set_cons_zero, List.set_cons_succ]
          refine wpAnyH_take (i := 12) (oi := ⟨some 30, _, _, _, _, _⟩) (v := undef) rfl (by kernel_rfl) (by kernel_rfl) (by kernel_rfl) (fun _ _ _ h => h) (Or.inr ⟨by rfl, rfl⟩) (by assumption) ?_
          try simp only [Act.put, List.setIfInBounds_toArray, List.set_cons_zero, List.set_cons_succ]
          refine wpAnyH_take (i := 13) (oi := ⟨some 31, _, _, _, _, _⟩) (v := undef) rfl (by kernel_rfl) (by kernel_rfl) (by kernel_rfl) (fun _ _ _ h => h) (Or.inr ⟨by rfl, rfl⟩) (by assumption) ?_
          try simp only [Act.put, List.setIfInBounds_toArray, List.set_cons_zero, List.set_cons_succ]
          refine wpAnyH_take (i := 14) (oi := ⟨some 32, _, _, _, _, _⟩) (v := undef) rfl (by kernel_rfl) (by kernel_rfl) (by kernel_rfl) (fun _ _ _ h => h) (Or.inr ⟨by rfl, rfl⟩) (by assumption) ?_
          try simp only [Act.put, List.setIfInBounds_toArray, List.set_cons_zero, List.set_cons_succ]
          refine wpAnyH_take (i := 15) (oi := ⟨some 33, _, _, _, _, _⟩) (v := undef) rfl (by kernel_rfl) (by kernel_rfl) (by kernel_rfl) (fun _ _ _ h => h) (Or.inr ⟨by rfl, rfl⟩) (by assumption) ?_
          try simp only [Act.put, List.setIfInBounds_toArray, List.set_cons_zero, List.set_cons_succ]
          refine wpAnyH_take (i := 16) (oi := ⟨some 34, _, _, _, _, _⟩) (v := ?v5) rfl (by kernel_rfl) (by kernel_rfl) (by kernel_rfl) (fun _ _ _ h => h) (Or.inl ⟨by rfl, ?y5⟩) (by assumption) ?r5
          case y5 => (intro wx hSx; (try dsimp only at hSx); go_simp; (try with_reducible rfl))
          try simp only [Act.put, List.setIfInBounds_toArray, List.set_cons_zero, List.set_cons_succ]
          refine wpAnyH_done (by kernel_rfl) ?_ _
          go_wp2
          go_roundw
          case rel => exact ⟨i + 1, L2, by omega, .inl HLT.out, rfl, HO.out.quiet (frm_drew _), HA.out, by rw [show i + 1 - 1 = i from rfl]; exact fun p q h1 h2 h3 => HOD.out p q h1 (by omega) h3, HF.out.drew⟩
          case measure => have := HLT.out; have := HL.out; simp [intOf]; omega
        · obtain ⟨q, hq⟩ : ∃ q, q + 1 = j := ⟨j - 1, by omega⟩
          have HQ := hid hq
          have hjn : j < n := by have := HLT.out; omega
          have hL2 : L2.length = n := by rw [HA.out.len]; exact HN.out.symm
          obtain ⟨x, hx⟩ : ∃ x, L2[j]? = some x := ⟨_, List.getElem?_eq_getElem (by omega)⟩
          obtain ⟨y, hy⟩ : ∃ y, L2[q]? = some y := ⟨_, List.getElem?_eq_getElem (by omega)⟩
          have HXJ := hid hx; have HYQ := hid hy
          have hsx : sq (kap L0) L2 j = kap L0 x := by unfold sq; rw [List.getD_eq_getElem?_getD, hx]; rfl
          have hsy : sq (kap L0) L2 q = kap L0 y := by unfold sq; rw [List.getD_eq_getElem?_getD, hy]; rfl
          have HSX := hid hsx; have HSY := hid hsy
          have HD := hid (show kap L0 x ≠ kap L0 y by rw [← hsx, ← hsy]; exact HA.out.dist j q (by omega) (by have := HN.out; omega) (by have := HN.out; omega))
          have HAT := hid (fun (w' : World) (h : OwnY w' A (.slice (some ⟨g, 0, none⟩) n c) L2) (j : Nat) (r : Rq) (hj : L2[j]? = some r) (i : Nat) (hi : i < 5) => h.cells j r hj i hi)
          have HJN := hid hjn; have HL2 := hid hL2
          have HXO := hid (HKO.out x ((HA.out.mem x).1 (List.mem_of_getElem? hx))); have HYO := hid (HKO.out y ((HA.out.mem y).1 (List.mem_of_getElem? hy)))
          have HQd := hid ((HQ0.out.frm HF.out (fun k hk e => by rcases hk with hk | hk <;> have := HNE.out <;> omega)).quiet (frm_drew _)); have HXd := hid ((HX0.out.frm HF.out (fun e => HNE.out.2.2 e.symm)).frm (frm_drew _) (fun h => h))
          have hj0 : (0 : Int) < (j : Int) := by omega
          have hjN : 0 < j := by omega
          have hqw : IntKind.i64.wrap (q : Int) = (q : Int) := by simp [IntKind.wrap, IntKind.bits, IntKind.signed]; omega
          have hjn2 : (j : Int) < (n : Int) := by omega
          have hq1 : (j : Int) - 1 = (q : Int) := by omega
          have hqn : (q : Int) < (n : Int) := by omega
          have hq0 : (0 : Int) ≤ (q : Int) := by omega
          have hj12 : (j : Int) ≤ 12 := by omega
          have hd1 := hid (HO.out.quiet (frm_drew wz)); have hd2 := hid HF.out.drew
          obtain ⟨Z, hZ⟩ : ∃ Z, cmpI (kap L0 y) (kap L0 x) = Z := ⟨_, rfl⟩
          have HZ := hid hZ
          obtain ⟨xc, xt, xk, xy, xv⟩ := x
          obtain ⟨yc, yt, yk, yy, yv⟩ := y
          clear hj hji hq hjn hL2 hx hy hsx hsy hZ
          by_cases hc : kap L0 ⟨yc, yt, yk, yy, yv⟩ < kap L0 ⟨xc, xt, xk, xy, xv⟩
          · have HC := hid hc
            obtain rfl : Z = -1 := by rw [← HZ.out]; exact if_pos hc
            have HSW := hid (HR.out.swp (q := q) (by have := HN.out; have := HLT.out; rw [HL2.out]; omega) HJI.out HQ.out (by rw [HSX.out, HSY.out]; exact hc))
            clear hc
            go_wp2_with fail
            clear HO HF; have HO := hd1; have HF := hd2; clear hd1 hd2
            have c0 := HAT.out _ HO.out j _ HXJ.out 0 (by decide); have c1 := HAT.out _ HO.out j _ HXJ.out 1 (by decide); have c2 := HAT.out _ HO.out j _ HXJ.out 2 (by decide); have c3 := HAT.out _ HO.out j _ HXJ.out 3 (by decide); have c4 := HAT.out _ HO.out j _ HXJ.out 4 (by decide); have d0 := HAT.out _ HO.out q _ HYQ.out 0 (by decide); have d1 := HAT.out _ HO.out q _ HYQ.out 1 (by decide); have d2 := HAT.out _ HO.out q _ HYQ.out 2 (by decide); have d3 := HAT.out _ HO.out q _ HYQ.out 3 (by decide); have d4 := HAT.out _ HO.out q _ HYQ.out 4 (by decide); (simp only [rqC, List.getElem?_cons_succ, List.getElem?_cons_zero, Nat.add_zero] at c0 c1 c2 c3 c4 d0 d1 d2 d3 d4)
            go_region_held3 (fun wx => wx.cell? ⟨g, j * 5, none⟩ = some (.int .u8 xc) ∧ wx.cell? ⟨g, j * 5 + 1, none⟩ = some (.int .u32 xt) ∧ wx.cell? ⟨g, j * 5 + 2, none⟩ = some (.int .u8 xk) ∧ wx.cell? ⟨g, j * 5 + 3, none⟩ = some (.int .u8 xy) ∧ wx.cell? ⟨g, j * 5 + 4, none⟩ = some (.int .u16 xv) ∧ wx.cell? ⟨g, q * 5, none⟩ = some (.int .u8 yc) ∧ wx.cell? ⟨g, q * 5 + 1, none⟩ = some (.int .u32 yt) ∧ wx.cell? ⟨g, q * 5 + 2, none⟩ = some (.int .u8 yk) ∧ wx.cell? ⟨g, q * 5 + 3, none⟩ = some (.int .u8 yy) ∧ wx.cell? ⟨g, q * 5 + 4, none⟩ = some (.int .u16 yv)) (first | go_keep | exact ⟨c0, c1, c2, c3, c4, d0, d1, d2, d3, d4⟩) ((go_at_call 22; (with_reducible refine (Clo_calls HQd.out HXd.out ⟨xc, xt, xk, xy, xv⟩ ⟨yc, yt, yk, yy, yv⟩ HXO.out HYO.out _ HZ.out).mono ?_); rintro e w5 ⟨rfl, f'⟩; clear c0 c1 c2 c3 c4 d0 d1 d2 d3 d4; have HO2 := hid (HO.out.quiet f'); have HF2 := hid (HF.out.trans' f' (fun _ _ h => h.elim)); clear HO HF; have HO := HO2; have HF := HF2; clear HO2 HF2; have HQd2 := hid (HQd.out.quiet f'); have HXd2 := hid (HXd.out.frm f' (fun h => h)); clear HQd HXd f'; have c0 := HAT.out _ HO.out j _ HXJ.out 0 (by decide); have c1 := HAT.out _ HO.out j _ HXJ.out 1 (by decide); have c2 := HAT.out _ HO.out j _ HXJ.out 2 (by decide); have c3 := HAT.out _ HO.out j _ HXJ.out 3 (by decide); have c4 := HAT.out _ HO.out j _ HXJ.out 4 (by decide); have d0 := HAT.out _ HO.out q _ HYQ.out 0 (by decide); have d1 := HAT.out _ HO.out q _ HYQ.out 1 (by decide); have d2 := HAT.out _ HO.out q _ HYQ.out 2 (by decide); have d3 := HAT.out _ HO.out q _ HYQ.out 3 (by decide); have d4 := HAT.out _ HO.out q _ HYQ.out 4 (by decide); (simp only [rqC, List.getElem?_cons_succ, List.getElem?_cons_zero, Nat.add_zero] at c0 c1 c2 c3 c4 d0 d1 d2 d3 d4)))
            go_wp2_with fail
            refine wp_region_held_drew (S := fun wx => True) (by kernel_rfl) ?_ (fun hHeld => ?_)
            · trivial
            have HOs := hid (HO.out.quiet (frm_drew _))
            refine wpAnyH_take (i := 0) (oi := ⟨some 37, _, _, _, _, _⟩) (v := ?v6) rfl (by kernel_rfl) (by kernel_rfl) (by kernel_rfl) (fun _ _ _ h => h) (Or.inl ⟨by rfl, ?y6⟩) (by assumption) ?r6
            case y6 => (intro wx hSx; (try dsimp only at hSx); go_simp; (try with_reducible rfl))
            try simp only [Act.put, List.setIfInBounds_toArray, List.set_cons_zero, List.set_cons_succ]
            refine wpAnyH_take (i := 1) (oi := ⟨some 38, _, _, _, _, _⟩) (v := ?v7) rfl (by kernel_rfl) (by kernel_rfl) (by kernel_rfl) (fun _ _ _ h => h) (Or.inl ⟨by rfl, ?y7⟩) (by assumption) ?r7
            case y7 => (intro wx hSx; (try dsimp only at hSx); go_simp; (try with_reducible rfl))
            try simp only [Act.put, List.setIfInBounds_toArray, List.set_cons_zero, List.set_cons_succ]
            refine wpAnyH_take (i := 2) (oi := ⟨some 39, _, _, _, _, _⟩) (v := ?v8) rfl (by kernel_rfl) (by kernel_rfl) (by kernel_rfl) (fun _ _ _ h => h) (Or.inl ⟨by rfl, ?y8⟩) (by assumption) ?r8
            case y8 => (intro wx hSx; (try dsimp only at hSx); go_simp; (try with_reducible rfl))
            try simp only [Act.put, List.setIfInBounds_toArray, List.set_cons_zero, List.set_cons_succ]
            refine wpAnyH_take (i := 3) (oi := ⟨some 40, _, _, _, _, _⟩) (v := ?v9) rfl (by kernel_rfl) (by kernel_rfl) (by kernel_rfl) (fun _ _ _ h => h) (Or.inl ⟨by rfl, ?y9⟩) (by assumption) ?r9
            case y9 => (intro wx hSx; (try dsimp only at hSx); go_simp; (try with_reducible rfl))
            try simp only [Act.put, List.setIfInBounds_toArray, List.set_cons_zero, List.set_cons_succ]
            refine wpAnyH_take (i := 4) (oi := ⟨some 41, _, _, _, _, _⟩) (v := ?v10) rfl (by kernel_rfl) (by kernel_rfl) (by kernel_rfl) (fun _ _ _ h => h) (Or.inl ⟨by rfl, ?y10⟩) (by assumption) ?r10
            case y10 => (intro wx hSx; (try dsimp only at hSx); go_simp; (try with_reducible rfl))
            try simp only [Act.put, List.setIfInBounds_toArray, List.set_cons_zero, List.set_cons_succ]
            refine wpAnyH_take (i := 5) (oi := ⟨some 42, _, _, _, _, _⟩) (v := ?v11) rfl (by kernel_rfl) (by kernel_rfl) (by kernel_rfl) (fun _ _ _ h => h) (Or.inl ⟨by rfl, ?y11⟩) (by assumption) ?r11
            case y11 => (intro wx hSx; (try dsimp only at hSx); go_simp; (try with_reducible rfl))
            try simp only [Act.put, List.setIfInBounds_toArray, List.set_cons_zero, List.set_cons_succ]
            refine wpAnyH_take (i := 6) (oi := ⟨some 43, _, _, _, _, _⟩) (v := ?v12) rfl (by kernel_rfl) (by kernel_rfl) (by kernel_rfl) (fun _ _ _ h => h) (Or.inl ⟨by rfl, ?y12⟩) (by assumption) ?r12
            case y12 => (intro wx hSx; (try dsimp only at hSx); go_simp; (try with_reducible rfl))
            try simp only [Act.put, List.setIfInBounds_toArray, List.set_cons_zero, List.set_cons_succ]
            refine wpAnyH_take (i := 7) (oi := ⟨some 44, _, _, _, _, _⟩) (v := ?v13) rfl (by kernel_rfl) (by kernel_rfl) (by kernel_rfl) (fun _ _ _ h => h) (Or.inl ⟨by rfl, ?y13⟩) (by assumption) ?r13
            case y13 => (intro wx hSx; (try dsimp only at hSx); go_simp; (try with_reducible rfl))
            try simp only [Act.put, List.setIfInBounds_toArray, List.set_cons_zero, List.set_cons_succ]
            refine wpAnyH_take (i := 8) (oi := ⟨some 45, _, _, _, _, _⟩) (v := ?v14) rfl (by kernel_rfl) (by kernel_rfl) (by kernel_rfl) (fun _ _ _ h => h) (Or.inl ⟨by rfl, ?y14⟩) (by assumption) ?r14
            case y14 => (intro wx hSx; (try dsimp only at hSx); go_simp; (try with_reducible rfl))
            try simp only [Act.put, List.setIfInBounds_toArray, List.set_cons_zero, List.set_cons_succ]
            refine wpAnyH_take (i := 10) (oi := ⟨some 47, _, _, _, _, _⟩) (v := ?v15) rfl (by kernel_rfl) (by kernel_rfl) (by kernel_rfl) (fun _ _ _ h => h) (Or.inl ⟨by rfl, ?y15⟩) (by assumption) ?r15
            case y15 => (intro wx hSx; (try dsimp only at hSx); go_simp; (try with_reducible rfl))
            try simp only [Act.put, List.setIfInBounds_toArray, List.set_cons_zero, List.set_cons_succ]
            refine wpAnyH_take (i := 11) (oi := ⟨some 48, _, _, _, _, _⟩) (v := ?v16) rfl (by kernel_rfl) (by kernel_rfl) (by kernel_rfl) (fun _ _ _ h => h) (Or.inl ⟨by rfl, ?y16⟩) (by assumption) ?r16
            case y16 => (intro wx hSx; (try dsimp only at hSx); go_simp; (try with_reducible rfl))
            try simp only [Act.put, List.setIfInBounds_toArray, List.set_cons_zero, List.set_cons_succ]
            refine wpAnyH_take (i := 12) (oi := ⟨some 49, _, _, _, _, _⟩) (v := ?v17) rfl (by kernel_rfl) (by kernel_rfl) (by kernel_rfl) (fun _ _ _ h => h) (Or.inl ⟨by rfl, ?y17⟩) (by assumption) ?r17
            case y17 => (intro wx hSx; (try dsimp only at hSx); go_simp; (try with_reducible rfl))
            try simp only [Act.put, List.setIfInBounds_toArray, List.set_cons_zero, List.set_cons_succ]
            refine wpAnyH_ready (rs := [9, 13]) (by kernel_rfl) (by simp) ?_
            refine AllReadyH.cons (o := ⟨some 46, _, _, _, _, _⟩) rfl (fun K hK => ?_) (AllReadyH.cons (o := ⟨some 50, _, _, _, _, _⟩) rfl (fun K hK => ?_) AllReadyH.nil)
            · go_simp
              refine hK.out _ _ ?_ (fun hHeld2 => ?_)
              · trivial
              clear hK K hHeld; have hHeld := hHeld2; clear hHeld2
              try simp only [Act.put, List.setIfInBounds_toArray, List.set_cons_zero, List.set_cons_succ]
              refine wpAnyH_ready (rs := [13]) (by kernel_rfl) (by simp) ?_
              refine AllReadyH.cons (o := ⟨some 50, _, _, _, _, _⟩) rfl (fun K hK => ?_) AllReadyH.nil
              go_simp
              refine hK.out _ _ ?_ (fun hHeld2 => ?_)
              · ((try dsimp only); (first | done | trivial))
              clear hK K hHeld; have hHeld := hHeld2; clear hHeld2
              try simp only [Act.put, List.setIfInBounds_toArray, List.set_cons_zero, List.set_cons_succ]
              refine wpAnyH_take (i := 14) (oi := ⟨some 51, _, _, _, _, _⟩) (v := ?v18) rfl (by kernel_rfl) (by kernel_rfl) (by kernel_rfl) (fun _ _ _ h => h) (Or.inl ⟨by rfl, ?y18⟩) (by assumption) ?r18
              case y18 => (intro wx hSx; (try dsimp only at hSx); go_simp; (try with_reducible rfl))
              try simp only [Act.put, List.setIfInBounds_toArray, List.set_cons_zero, List.set_cons_succ]
              refine wpAnyH_ready (rs := [15]) (by kernel_rfl) (by simp) ?_
              refine AllReadyH.cons (o := ⟨none, _, _, _, _, _⟩) rfl (fun K hK => ?_) AllReadyH.nil
              refine wp_store_y (.tmp 51) (.tmp 46) rfl HOs.out (by rw [HL2.out]) j (by rw [HL2.out]; exact HJN.out) ⟨yc, yt, yk, yy, yv⟩ rfl rfl ?_
              intro w6 ho6 hf6
              have HO6 := hid ho6; have HF6 := hid hf6
              clear ho6 hf6
              refine hK.out _ _ ?_ (fun hHeld2 => ?_)
              · ((try dsimp only); (first | done | trivial))
              clear hK K hHeld; have hHeld := hHeld2; clear hHeld2
              try simp only [Act.put, List.setIfInBounds_toArray, List.set_cons_zero, List.set_cons_succ]
              refine wpAnyH_take (i := 16) (oi := ⟨some 52, _, _, _, _, _⟩) (v := ?v19) rfl (by kernel_rfl) (by kernel_rfl) (by kernel_rfl) (fun _ _ _ h => h) (Or.inl ⟨by rfl, ?y19⟩) (by assumption) ?r19
              case y19 => (intro wx hSx; (try dsimp only at hSx); go_simp; (try with_reducible rfl))
              try simp only [Act.put, List.setIfInBounds_toArray, List.set_cons_zero, List.set_cons_succ]
              refine wpAnyH_ready (rs := [17]) (by kernel_rfl) (by simp) ?_
              refine AllReadyH.cons (o := ⟨none, _, _, _, _, _⟩) rfl (fun K hK => ?_) AllReadyH.nil
              refine wp_store_y (.tmp 52) (.tmp 50) rfl HO6.out (by rw [List.length_set, HL2.out]) q (by rw [List.length_set, HL2.out]; have := HJN.out; have := HQ.out; omega) ⟨xc, xt, xk, xy, xv⟩ rfl rfl ?_
              intro w7 ho7 hf7
              have HO7 := hid ho7; have HF7 := hid hf7
              clear ho7 hf7
              refine hK.out _ _ ?_ (fun hHeld2 => ?_)
              · ((try dsimp only); (first | done | trivial))
              clear hK K hHeld; have hHeld := hHeld2; clear hHeld2
              try simp only [Act.put, List.setIfInBounds_toArray, List.set_cons_zero, List.set_cons_succ]
              refine wpAnyH_done (by kernel_rfl) ?_ _
              go_wp2
              have HSP := hid (show swp L2 j q = (L2.set j ⟨yc, yt, yk, yy, yv⟩).set q ⟨xc, xt, xk, xy, xv⟩ by unfold swp; rw [List.getD_eq_getElem?_getD, List.getD_eq_getElem?_getD, HYQ.out, HXJ.out]; rfl)
              go_roundw
              case rel => exact ⟨q, swp L2 j q, by have := HQ.out; have := HJI.out; omega, rfl, by rw [HSP.out]; exact HO7.out, HA.out.swp j q (by have := HN.out; have := HJN.out; omega) (by have := HN.out; have := HJN.out; have := HQ.out; omega), HSW.out, (HF.out.drew.trans' HF6.out (fun _ _ e => e)).trans' HF7.out (fun _ _ e => e)⟩
              case measure => have := HQ.out; simp [intOf]; omega
            · go_simp
              refine hK.out _ _ ?_ (fun hHeld2 => ?_)
              · trivial
              clear hK K hHeld; have hHeld := hHeld2; clear hHeld2
              try simp only [Act.put, List.setIfInBounds_toArray, List.set_cons_zero, List.set_cons_succ]
              refine wpAnyH_ready (rs := [9]) (by kernel_rfl) (by simp) ?_
              refine AllReadyH.cons (o := ⟨some 46, _, _, _, _, _⟩) rfl (fun K hK => ?_) AllReadyH.nil
              go_simp
              refine hK.out _ _ ?_ (fun hHeld2 => ?_)
              · ((try dsimp only); (first | done | trivial))
              clear hK K hHeld; have hHeld := hHeld2; clear hHeld2
              try simp only [Act.put, List.setIfInBounds_toArray, List.set_cons_zero, List.set_cons_succ]
              refine wpAnyH_take (i := 14) (oi := ⟨some 51, _, _, _, _, _⟩) (v := ?v20) rfl (by kernel_rfl) (by kernel_rfl) (by kernel_rfl) (fun _ _ _ h => h) (Or.inl ⟨by rfl, ?y20⟩) (by assumption) ?r20
              case y20 => (intro wx hSx; (try dsimp only at hSx); go_simp; (try with_reducible rfl))
              try simp only [Act.put, List.setIfInBounds_toArray, List.set_cons_zero, List.set_cons_succ]
              refine wpAnyH_ready (rs := [15]) (by kernel_rfl) (by simp) ?_
              refine AllReadyH.cons (o := ⟨none, _, _, _, _, _⟩) rfl (fun K hK => ?_) AllReadyH.nil
              refine wp_store_y (.tmp 51) (.tmp 46) rfl HOs.out (by rw [HL2.out]) j (by rw [HL2.out]; exact HJN.out) ⟨yc, yt, yk, yy, yv⟩ rfl rfl ?_
              intro w6 ho6 hf6
              have HO6 := hid ho6; have HF6 := hid hf6
              clear ho6 hf6
              refine hK.out _ _ ?_ (fun hHeld2 => ?_)
              · ((try dsimp only); (first | done | trivial))
              clear hK K hHeld; have hHeld := hHeld2; clear hHeld2
              try simp only [Act.put, List.setIfInBounds_toArray, List.set_cons_zero, List.set_cons_succ]
              refine wpAnyH_take (i := 16) (oi := ⟨some 52, _, _, _, _, _⟩) (v := ?v21) rfl (by kernel_rfl) (by kernel_rfl) (by kernel_rfl) (fun _ _ _ h => h) (Or.inl ⟨by rfl, ?y21⟩) (by assumption) ?r21
              case y21 => (intro wx hSx; (try dsimp only at hSx); go_simp; (try with_reducible rfl))
              try simp only [Act.put, List.setIfInBounds_toArray, List.set_cons_zero, List.set_cons_succ]
              refine wpAnyH_ready (rs := [17]) (by kernel_rfl) (by simp) ?_
              refine AllReadyH.cons (o := ⟨none, _, _, _, _, _⟩) rfl (fun K hK => ?_) AllReadyH.nil
              refine wp_store_y (.tmp 52) (.tmp 50) rfl HO6.out (by rw [List.length_set, HL2.out]) q (by rw [List.length_set, HL2.out]; have := HJN.out; have := HQ.out; omega) ⟨xc, xt, xk, xy, xv⟩ rfl rfl ?_
              intro w7 ho7 hf7
              have HO7 := hid ho7; have HF7 := hid hf7
              clear ho7 hf7
              refine hK.out _ _ ?_ (fun hHeld2 => ?_)
              · ((try dsimp only); (first | done | trivial))
              clear hK K hHeld; have hHeld := hHeld2; clear hHeld2
              try simp only [Act.put, List.setIfInBounds_toArray, List.set_cons_zero, List.set_cons_succ]
              refine wpAnyH_done (by kernel_rfl) ?_ _
              go_wp2
              have HSP := hid (show swp L2 j q = (L2.set j ⟨yc, yt, yk, yy, yv⟩).set q ⟨xc, xt, xk, xy, xv⟩ by unfold swp; rw [List.getD_eq_getElem?_getD, List.getD_eq_getElem?_getD, HYQ.out, HXJ.out]; rfl)
              go_roundw
              case rel => exact ⟨q, swp L2 j q, by have := HQ.out; have := HJI.out; omega, rfl, by rw [HSP.out]; exact HO7.out, HA.out.swp j q (by have := HN.out; have := HJN.out; omega) (by have := HN.out; have := HJN.out; have := HQ.out; omega), HSW.out, (HF.out.drew.trans' HF6.out (fun _ _ e => e)).trans' HF7.out (fun _ _ e => e)⟩
              case measure => have := HQ.out; simp [intOf]; omega
          · have HC := hid (show kap L0 ⟨xc, xt, xk, xy, xv⟩ < kap L0 ⟨yc, yt, yk, yy, yv⟩ by have := HD.out; omega)
            obtain rfl : Z = 1 := by rw [← HZ.out]; exact (if_neg hc).trans (if_pos HC.out)
            have HOD := hid (HR.out.done HJI.out (.inr ⟨q, HQ.out, by rw [HSX.out, HSY.out]; exact HC.out⟩))
            clear hc
            go_wp2_with fail
            clear HO HF; have HO := hd1; have HF := hd2; clear hd1 hd2
            have c0 := HAT.out _ HO.out j _ HXJ.out 0 (by decide); have c1 := HAT.out _ HO.out j _ HXJ.out 1 (by decide); have c2 := HAT.out _ HO.out j _ HXJ.out 2 (by decide); have c3 := HAT.out _ HO.out j _ HXJ.out 3 (by decide); have c4 := HAT.out _ HO.out j _ HXJ.out 4 (by decide); have d0 := HAT.out _ HO.out q _ HYQ.out 0 (by decide); have d1 := HAT.out _ HO.out q _ HYQ.out 1 (by decide); have d2 := HAT.out _ HO.out q _ HYQ.out 2 (by decide); have d3 := HAT.out _ HO.out q _ HYQ.out 3 (by decide); have d4 := HAT.out _ HO.out q _ HYQ.out 4 (by decide); (simp only [rqC, List.getElem?_cons_succ, List.getElem?_cons_zero, Nat.add_zero] at c0 c1 c2 c3 c4 d0 d1 d2 d3 d4)
            go_region_held3 (fun wx => wx.cell? ⟨g, j * 5, none⟩ = some (.int .u8 xc) ∧ wx.cell? ⟨g, j * 5 + 1, none⟩ = some (.int .u32 xt) ∧ wx.cell? ⟨g, j * 5 + 2, none⟩ = some (.int .u8 xk) ∧ wx.cell? ⟨g, j * 5 + 3, none⟩ = some (.int .u8 xy) ∧ wx.cell? ⟨g, j * 5 + 4, none⟩ = some (.int .u16 xv) ∧ wx.cell? ⟨g, q * 5, none⟩ = some (.int .u8 yc) ∧ wx.cell? ⟨g, q * 5 + 1, none⟩ = some (.int .u32 yt) ∧ wx.cell? ⟨g, q * 5 + 2, none⟩ = some (.int .u8 yk) ∧ wx.cell? ⟨g, q * 5 + 3, none⟩ = some (.int .u8 yy) ∧ wx.cell? ⟨g, q * 5 + 4, none⟩ = some (.int .u16 yv)) (first | go_keep | exact ⟨c0, c1, c2, c3, c4, d0, d1, d2, d3, d4⟩) ((go_at_call 22; (with_reducible refine (Clo_calls HQd.out HXd.out ⟨xc, xt, xk, xy, xv⟩ ⟨yc, yt, yk, yy, yv⟩ HXO.out HYO.out _ HZ.out).mono ?_); rintro e w5 ⟨rfl, f'⟩; clear c0 c1 c2 c3 c4 d0 d1 d2 d3 d4; have HO2 := hid (HO.out.quiet f'); have HF2 := hid (HF.out.trans' f' (fun _ _ h => h.elim)); clear HO HF; have HO := HO2; have HF := HF2; clear HO2 HF2; have HQd2 := hid (HQd.out.quiet f'); have HXd2 := hid (HXd.out.frm f' (fun h => h)); clear HQd HXd f'; have c0 := HAT.out _ HO.out j _ HXJ.out 0 (by decide); have c1 := HAT.out _ HO.out j _ HXJ.out 1 (by decide); have c2 := HAT.out _ HO.out j _ HXJ.out 2 (by decide); have c3 := HAT.out _ HO.out j _ HXJ.out 3 (by decide); have c4 := HAT.out _ HO.out j _ HXJ.out 4 (by decide); have d0 := HAT.out _ HO.out q _ HYQ.out 0 (by decide); have d1 := HAT.out _ HO.out q _ HYQ.out 1 (by decide); have d2 := HAT.out _ HO.out q _ HYQ.out 2 (by decide); have d3 := HAT.out _ HO.out q _ HYQ.out 3 (by decide); have d4 := HAT.out _ HO.out q _ HYQ.out 4 (by decide); (simp only [rqC, List.getElem?_cons_succ, List.getElem?_cons_zero, Nat.add_zero] at c0 c1 c2 c3 c4 d0 d1 d2 d3 d4)))
            go_wp2
            go_roundw
            case rel => exact ⟨i + 1, L2, by omega, .inl HLT.out, rfl, HO.out, HA.out, by rw [show i + 1 - 1 = i from rfl]; exact fun p q h1 h2 h3 => HOD.out p q h1 (by omega) h3, HF.out⟩
            case measure => have := HLT.out; have := HL.out; simp [intOf]; omega
    · have hie : ∀ p q, p < q → q < n → sq (kap L0) L1 q < sq (kap L0) L1 p := fun p q h1 h2 => HR.out p q h1 (by omega) (by omega)
      have HIE := hid hie
      have hii : ¬ (i : Int) < (n : Int) := by omega
      clear hie hin hlt hi1
      go_wp2
      go_end0
      exact ⟨rfl, ⟨L1, HO.out, HA.out, HIE.out⟩, HF.out⟩
set_option maxHeartbeats 8000000 in
theorem Pdq_calls {w : World} {A : Nat → Prop} {g n c : Nat} {L : List Rq} {qb mb n0 xb T : Nat} {L0 : List Qe} (hq : IsQ w qb mb L0 n0) (hx : Blk w xb [.pointer (some ⟨qb, 0, none⟩)] T) (hne : ¬ g = qb ∧ ¬ g = mb ∧ ¬ g = xb) (hko : ∀ r ∈ L, RqOk r) (h : OwnY w A (.slice (some ⟨g, 0, none⟩) n c) L) (hn : n = L.length) (hnc : n ≤ c) (hcm : c ≤ 9223372036854775807) (hl : n ≤ 12) (hd : Alike (kap L0) L L) (z : Int) :
    Calls Try.prog 31 #[.slice (some ⟨g, 0, none⟩) n c, .int .i64 0, .int .i64 n, .int .i64 z, (.func (.func 22) #[] #[.pointer (some ⟨xb, 0, none⟩)])] w fun e w' => e = .returned (.tuple #[]) ∧ (∃ L', OwnY w' A (.slice (some ⟨g, 0, none⟩) n c) L' ∧ Alike (kap L0) L L' ∧ ∀ p q, p < q → q < n → sq (kap L0) L' q < sq (kap L0) L' p) ∧ Frm (· = g) w w' := by
  have HO := hid h; have HN := hid hn; have HL := hid hl; have HD := hid hd; have HC := hid hnc; have HM := hid hcm; have HQ0 := hid hq; have HX0 := hid hx; have HNE := hid hne; have HKO := hid hko
  have hn12 : (n : Int) ≤ 12 := by omega
  have hn0 : (0 : Int) ≤ (n : Int) := by omega
  clear h hn hl hd hnc hcm hq hx hne hko
  go_enter Try.func31, Try.ntmps31
  go_wp2
  go_loopw [1, 2] (fun av bv wr => av = .int .i64 0 ∧ bv = .int .i64 n ∧ wr = w) (fun _ _ _ => 0)
  case atStart => exact ⟨rfl, rfl, rfl⟩
  case round =>
    obtain ⟨rfl, rfl, rfl⟩ := hrel
    go_wp2_with (go_at_call 33; (with_reducible refine (Ins_calls HQ0.out HX0.out HNE.out HKO.out HO.out HN.out HC.out HM.out HL.out HD.out).mono ?_); rintro e w' ⟨rfl, h1, h2⟩; have H1 := hid h1; have H2 := hid h2; clear h1 h2)
    refine bodyPost_ret (results_none rfl _ _ _) rfl ?_
    exact ⟨rfl, H1.out, H2.out⟩
theorem Len64_calls (w : World) (n : Nat) (hn : n ≤ 4) (N : Int) (hN : N = n) : Calls Try.prog 42 #[.int .u64 N] w fun e w' => (∃ z : Int, e = .returned (.int .i64 z)) ∧ w = w' := by
  rcases (show n = 0 ∨ n = 1 ∨ n = 2 ∨ n = 3 ∨ n = 4 by omega) with rfl | rfl | rfl | rfl | rfl <;>
  · subst hN
    go_enter Try.func42, Try.ntmps42
    go_wp2
    go_ret
    exact ⟨⟨_, rfl⟩, by first | rfl | trivial⟩
theorem Len_calls (w : World) (n : Nat) (hn : n ≤ 4) (N : Int) (hN : N = n) : Calls Try.prog 32 #[.int .u64 N] w fun e w' => (∃ z : Int, e = .returned (.int .i64 z)) ∧ w = w' := by
  have HN := hid hn; have HM := hid hN
  clear hn hN
  go_enter Try.func32, Try.ntmps32
  go_wp2_with (go_at_call 42; (with_reducible refine (Len64_calls _ n HN.out N HM.out).mono ?_); rintro e w' ⟨⟨z, rfl⟩, rfl⟩; skip)
  go_ret
  exact ⟨⟨_, rfl⟩, by first | rfl | trivial⟩
theorem Ins0_calls (xb : Nat) (w : World) (a : Option Addr) (c : Nat) : Calls Try.prog 33 #[.slice a 0 c, .int .i64 0, .int .i64 0, (.func (.func 22) #[] #[.pointer (some ⟨xb, 0, none⟩)])] w fun e w' => e = .returned (.tuple #[]) ∧ w = w' := by
  go_enter Try.func33, Try.ntmps33
  go_wp2
  go_loopw [8] (fun iv wr => iv = .int .i64 1 ∧ wr = w) (fun _ _ => 0)
  case atStart => exact ⟨rfl, rfl⟩
  case round =>
    obtain ⟨rfl, rfl⟩ := hrel
    go_wp2
    go_end0
    exact ⟨rfl, by first | rfl | trivial⟩
theorem Pdq0_calls (xb : Nat) (w : World) (a : Option Addr) (c : Nat) (z : Int) : Calls Try.prog 31 #[.slice a 0 c, .int .i64 0, .int .i64 0, .int .i64 z, (.func (.func 22) #[] #[.pointer (some ⟨xb, 0, none⟩)])] w fun e w' => e = .returned (.tuple #[]) ∧ w = w' := by
  go_enter Try.func31, Try.ntmps31
  go_wp2
  go_loopw [1, 2] (fun av bv wr => av = .int .i64 0 ∧ bv = .int .i64 0 ∧ wr = w) (fun _ _ _ => 0)
  case atStart => exact ⟨rfl, rfl, rfl⟩
  case round =>
    obtain ⟨rfl, rfl, rfl⟩ := hrel
    go_wp2_with (go_at_call 33; (with_reducible refine (Ins0_calls _ _ _ _).mono ?_); rintro e w' ⟨rfl, rfl⟩; skip)
    refine bodyPost_ret (results_none rfl _ _ _) rfl ?_
    exact ⟨rfl, by first | rfl | trivial⟩
/-- SortFunc at few marks: the same ones, the greatest place first. -/
theorem Sort_calls {w : World} {A : Nat → Prop} {v : Value} {L : List Rq} {qb mb n0 xb T : Nat} {L0 : List Qe} (hq : IsQ w qb mb L0 n0) (hx : Blk w xb [.pointer (some ⟨qb, 0, none⟩)] T) (hne : ∀ g, v.ownBlock = some g → ¬ g = qb ∧ ¬ g = mb ∧ ¬ g = xb) (hko : ∀ r ∈ L, RqOk r) (h : OwnY w A v L) (hl : L.length ≤ 4) (hd : Alike (kap L0) L L) :
    Calls Try.prog 27 #[v, (.func (.func 22) #[] #[.pointer (some ⟨xb, 0, none⟩)])] w fun e w' => e = .returned (.tuple #[]) ∧ (∃ L', OwnY w' A v L' ∧ Alike (kap L0) L L' ∧ ∀ p q, p < q → q < L.length → sq (kap L0) L' q < sq (kap L0) L' p) ∧ Frm (fun k => v.ownBlock = some k) w w' := by
  obtain ⟨a, c, rfl⟩ := h.slice
  obtain ⟨n, hn⟩ : ∃ n, L.length = n := ⟨_, rfl⟩
  rw [hn]
  rw [hn] at hl h
  by_cases h0 : n = 0
  · subst h0
    have HO := hid h; have HD := hid hd
    clear hl hd h hn hq hx hne hko
    go_enter Try.func27, Try.ntmps27
    go_wp2_with (first
      | (go_at_call 32; (with_reducible refine (Len_calls _ 0 (by decide) 0 rfl).mono ?_); rintro e w' ⟨⟨z, rfl⟩, rfl⟩; skip)
      | (go_at_call 31; (with_reducible refine (Pdq0_calls _ _ _ _ _).mono ?_); rintro e w' ⟨rfl, rfl⟩; skip))
    go_end0
    exact ⟨rfl, ⟨L, HO.out, HD.out, fun p q _ h => by omega⟩, Frm.refl _ _⟩
  · obtain ⟨g, c', hv, hc, hm, _⟩ := h.at_ (by omega)
    rw [hn] at hv hc
    injection hv with e1 e2 e3
    subst e1 e3
    have HO := hid h; have HD := hid hd; have HN := hid hn.symm; have HL := hid hl; have HC := hid hc; have HM := hid hm; have HQ0 := hid hq; have HX0 := hid hx; have HNE := hid (hne g rfl); have HKO := hid hko
    have hn4 : (n : Int) ≤ 4 := by omega
    have hn0 : (0 : Int) ≤ (n : Int) := by omega
    clear hd h hn h0 e2 hc hm hl hq hx hne hko
    go_enter Try.func27, Try.ntmps27
    go_wp2_with (first
      | (go_at_call 32; (with_reducible refine (Len_calls _ n HL.out n rfl).mono ?_); rintro e w' ⟨⟨z, rfl⟩, rfl⟩; skip)
      | (go_at_call 31; (with_reducible refine (Pdq_calls HQ0.out HX0.out HNE.out HKO.out HO.out HN.out HC.out HM.out (by have := HL.out; omega) HD.out _).mono ?_); rintro e w' ⟨rfl, h1, h2⟩; have H1 := hid h1; have H2 := hid h2; clear h1 h2))
    go_end0
    exact ⟨rfl, H1.out, H2.out.mono fun k _ e => e ▸ rfl⟩
end Go.Proofs.Ytabmbppolmikcaa
