/- CheckAdds, walked. -/
import Derived.Test.YtljfbaakgjmmfaaChkKnown
import Derived.Test.YtljfbaakgjmmfaaChkAddsP
import Derived.Test.YtljfbaakgjmmfaaOwnRs
namespace Go.Proofs.Ytljfbaakgjmmfaa
open Go.RowKit Go.ChangeShapes
set_option linter.unusedVariables false
set_option linter.unusedSimpArgs false
set_option maxRecDepth 100000
/-- What the answer is, once i of the numbers are through. -/
def AddSt (z : List Int) (k i : Nat) (q : Rq) (x : Int) : Prop := (i ≤ k ∧ q = ⟨0, 0, 0, 0, 0⟩ ∧ x = 0) ∨ (k < i ∧ q = addR k (z.getD k 0) ∧ x = sum16 0 (z.take (k + 1)))
theorem AddSt.up {z : List Int} {k i : Nat} {q : Rq} {x : Int} (h : AddSt z k i q x) (hne : ¬ i = k) : AddSt z k (i + 1) q x := by
  rcases h with ⟨a, b, e⟩ | ⟨a, b, e⟩
  · exact .inl ⟨by omega, b, e⟩
  · exact .inr ⟨by omega, b, e⟩
theorem take_snoc (z : List Int) (i : Nat) (hi : i < z.length) : z.take (i + 1) = z.take i ++ [z.getD i 0] := by
  rw [List.take_add_one, List.getD_eq_getElem?_getD, List.getElem?_eq_getElem hi]; rfl
theorem adds_take (z : List Int) (i : Nat) (hi : i < z.length) : addsL 0 (z.take i) ++ [addR i (z.getD i 0)] = addsL 0 (z.take (i + 1)) := by
  rw [take_snoc z i hi, adds_app, List.length_take, Nat.min_eq_left (by omega), Nat.zero_add]
theorem sum_take (z : List Int) (i : Nat) (hi : i < z.length) : (sum16 0 (z.take i) + z.getD i 0) % 65536 = sum16 0 (z.take (i + 1)) := by
  rw [take_snoc z i hi, sum16_app]
theorem sum16_bd (l : List Int) : ∀ s : Int, 0 ≤ s ∧ s ≤ 65535 → 0 ≤ sum16 s l ∧ sum16 s l ≤ 65535 := by
  induction l with
  | nil => exact fun s h => h
  | cons v l ih => exact fun s h => ih _ (by omega)
theorem adds_len (l : List Int) : ∀ i, (addsL i l).length = l.length := by
  induction l with
  | nil => exact fun i => rfl
  | cons v l ih => exact fun i => by rw [addsL, List.length_cons, ih, List.length_cons]
theorem adds_ok (l : List Int) (hl : ∀ v ∈ l, 0 ≤ v ∧ v ≤ 65535) : ∀ i, i + l.length ≤ 40 → ∀ r ∈ addsL i l, RqOk r ∧ r.t ≠ 999 := by
  induction l with
  | nil => intro i _ r hr; cases hr
  | cons v l ih =>
    intro i hi r hr
    rw [List.length_cons] at hi
    rw [addsL] at hr
    rcases List.mem_cons.1 hr with rfl | hr
    · have hv := hl v List.mem_cons_self
      exact ⟨⟨by simp only [addR]; omega, by simp only [addR]; omega, by simp only [addR]; decide, by simp only [addR]; decide, hv⟩, by simp only [addR]; omega⟩
    · exact ih (fun v' hv' => hl v' (List.mem_cons_of_mem _ hv')) (i + 1) (by omega) r hr
abbrev OAN2 (c t k y v x c' t' k' y' v' x' : Int) : Obj := (.cells #[.int .u8 c, .int .u32 t, .int .u8 k, .int .u8 y, .int .u16 v, .int .u32 x, .int .u8 c', .int .u32 t', .int .u8 k', .int .u8 y', .int .u16 v', .int .u32 x'] TAn)
abbrev OAN1 (c t k y v x : Int) : Obj := .cells #[.int .u8 c, .int .u32 t, .int .u8 k, .int .u8 y, .int .u16 v, .int .u32 x] TAn
theorem fourB (w : World) (O1 O2 : Obj) (i j : Nat) (u u' : Value) : Below w.heap.size w ((((w.alloc O1).setCell ⟨w.heap.size, i, none⟩ u).alloc O2).setCell ⟨w.heap.size + 1, j, none⟩ u') :=
  below_frm (S := fun b => w.heap.size ≤ b) (Below.refl _ w) (((((Frm.refl _ w).alloc O1).setCell ⟨w.heap.size, i, none⟩ u (.inr (Nat.le_refl _))).alloc O2).setCell ⟨w.heap.size + 1, j, none⟩ u' (.inr (Nat.le_succ _))) (fun k hk h => Nat.lt_irrefl _ (Nat.lt_of_lt_of_le hk h))
theorem Right_2 (W : World) {la : Option Addr} {lc n : Nat} {l : List Rq} (hq : IsRqs W la lc l) (hN : l.length = n) (c t k y v x c' t' k' y' v' x' : Int) (z : Bool) (hz : rightsF l [(⟨c, t, k, y, v⟩, x), (⟨c', t', k', y', v'⟩, x')] = z) (b : Nat) (hb : W.heap.size = b) : Calls Try.prog 11 #[.slice la n lc, .slice (some ⟨b, 0, none⟩) 2 2] (W.alloc (OAN2 c t k y v x c' t' k' y' v' x')) fun e w' => e = .returned (.bool z) ∧ Below (W.alloc (OAN2 c t k y v x c' t' k' y' v' x')).heap.size (W.alloc (OAN2 c t k y v x c' t' k' y' v' x')) w' := by
  subst hN hb
  exact Rights_calls (hq.al (OAN2 c t k y v x c' t' k' y' v' x')) (ans_of (l := [(⟨c, t, k, y, v⟩, x), (⟨c', t', k', y', v'⟩, x')]) (blkn W _ rfl _ TAn) (show 2 ≤ 1000 by decide)) z hz
theorem Right_1 (W : World) {la : Option Addr} {lc n : Nat} {l : List Rq} (hq : IsRqs W la lc l) (hN : l.length = n) (c t k y v x : Int) (z : Bool) (hz : rightsF l [(⟨c, t, k, y, v⟩, x)] = z) (b : Nat) (hb : W.heap.size = b) : Calls Try.prog 11 #[.slice la n lc, .slice (some ⟨b, 0, none⟩) 1 1] (W.alloc (OAN1 c t k y v x)) fun e w' => e = .returned (.bool z) ∧ Below (W.alloc (OAN1 c t k y v x)).heap.size (W.alloc (OAN1 c t k y v x)) w' := by
  subst hN hb
  exact Rights_calls (hq.al (OAN1 c t k y v x)) (ans_of (l := [(⟨c, t, k, y, v⟩, x)]) (blkn W _ rfl _ TAn) (show 1 ≤ 1000 by decide)) z hz
theorem At_n {w : World} {a : Option Addr} {ca n : Nat} {l : List Rq} (h : IsRqs w a ca l) (hN : l.length = n) (hlen : n ≤ 2000) (m : Nat) (M : Int) (hM : M = (m : Int)) (hm : (m : Int) ≤ 4294967295) (vs' cs' : List Int) (hz : playM V0 C0 (l.take m) = (vs', cs')) :
    Calls Try.prog 12 #[.slice a n ca, .int .u32 M] w fun e w' => ∃ mb, e = .returned (.pointer (some ⟨mb, 0, none⟩)) ∧ w.heap.size ≤ mb ∧ IsMap w' mb vs' cs' ∧ Below w.heap.size w w' := by
  subst hN hM
  exact At_calls h hlen m hm vs' cs' hz
theorem Once_n (W : World) {la : Option Addr} {lc n : Nat} {l : List Rq} (hq : IsRqs W la lc l) (hN : l.length = n) (hlen : n ≤ 2000) : Calls Try.prog 14 #[.slice la n lc] W fun e w' => e = .returned (.bool true) ∧ Below W.heap.size W w' := by
  subst hN
  exact Once_calls hq hlen
set_option maxHeartbeats 16000000 in
theorem CheckAdds_walk (a0 : Option Addr) (c0 : Nat) (z : List Int) (x y : Int) (w : World) (h0 : IsInts .u16 w a0 c0 z) (w1_ : (Lit.int .u8 x).wf = true) (w2_ : (Lit.int .u32 y).wf = true) :
    Calls Try.prog 4 #[.slice a0 z.length c0, .int .u8 x, .int .u32 y] w fun e w' => e = .returned (.bool true) ∧ Below w.heap.size w w' := by
  have hle := h0.le
  have hsm := h0.small
  by_cases hlen : z.length > 40
  · go_enter Try.func4, Try.ntmps4
    go_wp2_with (go_at_call 7; (with_reducible refine (known_calls _).mono ?_); rintro e w1 ⟨rfl, f1⟩)
    go_ret
    exact ⟨rfl, f1⟩
  by_cases hlen1 : z.length < 1
  · go_enter Try.func4, Try.ntmps4
    go_wp2_with (go_at_call 7; (with_reducible refine (known_calls _).mono ?_); rintro e w1 ⟨rfl, f1⟩)
    go_ret
    exact ⟨rfl, f1⟩
  have hx := bounds_u8 w1_
  have hy : 0 ≤ y ∧ y ≤ 4294967295 := by simp [Lit.wf, IntKind.min, IntKind.max, IntKind.bits, IntKind.signed] at w2_; omega
  obtain ⟨n, hn⟩ : ∃ n, z.length = n := ⟨_, rfl⟩
  obtain ⟨k, hk⟩ := Int.eq_ofNat_of_zero_le (Int.emod_nonneg x (show (n : Int) ≠ 0 by omega))
  have hkn : k < n := by have := Int.emod_lt_of_pos x (show (0 : Int) < (n : Int) by omega); omega
  have hw6 : wrap64 x = x := by unfold wrap64; omega
  have hk2 : (wrap64 x).tmod (n : Int) = (k : Int) := by rw [hw6, Int.tmod_eq_emod_of_nonneg hx.1, hk]
  rw [hn]
  have hn1 : 1 ≤ (n : Int) := by omega
  have hn40 : (n : Int) ≤ 40 := by omega
  have H0 := hid h0; have HN := hid hn; have HY := hid hy; have HKN := hid hkn; have HN40 := hid (show n ≤ 40 by omega)
  clear w1_ w2_ h0 hw6 hy hn hkn hx hk hlen hlen1 hle hsm
  go_enter Try.func4, Try.ntmps4
  go_wp2_with (first
    | (go_at_call 7; (with_reducible refine (known_calls w).mono ?_); rintro e w1 ⟨rfl, f'⟩; have HF := hid f'; clear f'))
  have HA0 := hid (blkn w1 _ rfl (anC ⟨0, 0, 0, 0, 0⟩ 0) TAn)
  have HAB := hid (show w.heap.size ≤ w1.heap.size from HF.out.size)
  have HF0 := hid (HF.out.alloc HF.out.size (.cells (anC ⟨0, 0, 0, 0, 0⟩ 0).toArray TAn))
  clear HF
  generalize hab : w1.heap.size = ab at *
  go_loopw [7, 8, 11] (fun lv sv iv wr => ∃ (i : Nat) (c t k' y' v' x' : Int), i ≤ n ∧ iv = .int .i64 i ∧ sv = .int .u16 (sum16 0 (z.take i)) ∧ AddSt z k i ⟨c, t, k', y', v'⟩ x' ∧ OwnR wr (fun k => k ≤ ab) lv (addsL 0 (z.take i)) ∧ Blk wr ab (anC ⟨c, t, k', y', v'⟩ x') TAn ∧ Below w.heap.size w wr) (fun _ _ i _ => n - (intOf i).toNat)
  case atStart => exact ⟨0, 0, 0, 0, 0, 0, 0, Nat.zero_le _, rfl, rfl, .inl ⟨Nat.zero_le _, rfl, rfl⟩, OwnR.nil _ _, HA0.out, HF0.out⟩
  case round =>
    clear HA0 HF0
    obtain ⟨i, c, t, k', y', v', x', hi, rfl, rfl, hst, ho, ha, hf⟩ := hrel
    have HF := hid hf; have HA := hid ha; have HO := hid ho; have HST := hid hst
    clear hf ha ho hst
    obtain ⟨s, hs⟩ : ∃ s, sum16 0 (z.take i) = s := ⟨_, rfl⟩
    rw [hs]
    have HS := hid hs; clear hs
    by_cases hlt : i < n
    · obtain ⟨ga, oa, rfl, hga, hca⟩ := H0.out.at_ (by have := HN.out; omega)
      have hzi : i < z.length := by rw [HN.out]; exact hlt
      have hxa := hca i hzi
      have wfa : (Lit.int .u16 (z.getD i 0)).wf = true := H0.out.wf _ (by rw [List.getD_eq_getElem?_getD, List.getElem?_eq_getElem hzi]; exact List.getElem_mem hzi)
      obtain ⟨v, hv⟩ : ∃ v, z.getD i 0 = v := ⟨_, rfl⟩
      rw [hv] at hxa wfa
      have hvb : 0 ≤ v ∧ v ≤ 65535 := by simp [Lit.wf, IntKind.min, IntKind.max, IntKind.bits, IntKind.signed] at wfa; omega
      have q0 := (HF.out.cell (p := ⟨ga, oa + i, none⟩) hga).trans hxa
      have HV := hid hv; have HVB := hid hvb
      have hil : (i : Int) < (n : Int) := by omega
      have HLT := hid hlt; have HGA := hid hga; have HXA := hid hxa
      obtain ⟨n0, hn0⟩ : ∃ n0, i % 4 = n0 := ⟨_, rfl⟩
      obtain ⟨d0, hd0⟩ : ∃ d0, i / 4 = d0 := ⟨_, rfl⟩
      have HN0 := hid hn0; have HD0 := hid hd0
      have ht4 : (i : Int).tmod 4 = (n0 : Int) := by rw [Int.tmod_eq_emod_of_nonneg (by omega)]; omega
      have hd4 : (i : Int).tdiv 4 = (d0 : Int) := by rw [Int.tdiv_eq_ediv_of_nonneg (by omega)]; omega
      have hn4 : (n0 : Int) < 4 := by omega
      have hd10 : (d0 : Int) ≤ 10 := by omega
      have hi40 : (i : Int) < 40 := by omega
      have e1 : IntKind.u8.wrap ((n0 : Int) + 1) = (n0 : Int) + 1 := by simp [IntKind.wrap, IntKind.bits, IntKind.signed]; omega
      have e2 : IntKind.u32.wrap ((d0 : Int) + 1) = (d0 : Int) + 1 := by simp [IntKind.wrap, IntKind.bits, IntKind.signed]; omega
      clear hlt hv hga hca hxa wfa hzi hvb hn0 hd0
      obtain ⟨s2, hs2⟩ : ∃ s2, (s + v) % 65536 = s2 := ⟨_, rfl⟩
      have hs3 : IntKind.u16.wrap (s + v) = s2 := by rw [← hs2]; simp [IntKind.wrap, IntKind.bits, IntKind.signed]
      have hs4 : IntKind.u32.wrap s2 = s2 := by simp [IntKind.wrap, IntKind.bits, IntKind.signed]; omega
      have hs5 : 0 ≤ s2 := by omega
      have HS2 := hid (show s2 = sum16 0 (z.take (i + 1)) by rw [← hs2, ← HS.out, ← HV.out]; exact sum_take z i (by rw [HN.out]; exact HLT.out))
      clear hs2
      by_cases hik : i = k
      · subst hik
        go_wp2_with (first
          | (at_builtin; refine wpList_moreR ⟨(n0 : Int) + 1, (d0 : Int) + 1, 3, 7, v⟩ rfl _ _ rfl rfl (HO.out.quiet ((frm_box _ _).trans (frm_box _ _))) (fun k hk => by have := HA.out.lt; simp; omega) (blkn (wr.alloc _) (wr.heap.size + 1) (by simp) (rqC ⟨(n0 : Int) + 1, (d0 : Int) + 1, 3, 7, v⟩) TRq) (by rw [adds_len, List.length_take]; have := HLT.out; have := HN40.out; omega) rfl rfl ?_; intro u5 w5 ho' hf' hat'; clear q0; have HQ := hid ((blkn wr _ rfl (rqC ⟨(n0 : Int) + 1, (d0 : Int) + 1, 3, 7, v⟩) TRq).alloc _ |>.frm hf' (fun e => Nat.lt_irrefl _ (HO.out.lt e))); have HA2 := hid ((HA.out.alloc _ |>.alloc _).frm hf' (fun e => HO.out.off _ e (Nat.le_refl _))); have HF2 := hid (((HF.out.alloc HF.out.size _).alloc (by have := HF.out.size; simp; omega) _).trans (hf'.below (by have := HF.out.size; simp; omega) (fun k hk hn => HO.out.off k hn (Nat.le_of_lt (Nat.lt_of_lt_of_le hk HAB.out))))); clear HF HO HA hf' hat'; have HF := HF2; have HA := HA2; have HO := hid ho'; clear ho' HF2 HA2; have q0 := (HF.out.cell (p := ⟨ga, oa + i, none⟩) HGA.out).trans HXA.out; have b0 := HQ.out.cell 0; have b1 := HQ.out.cell 1; have b2 := HQ.out.cell 2; have b3 := HQ.out.cell 3; have b4 := HQ.out.cell 4; have z0 := HA.out.free 0; have z1 := HA.out.free 1; have z2 := HA.out.free 2; have z3 := HA.out.free 3; have z4 := HA.out.free 4; have z5 := HA.out.free 5; have a0 := HA.out.cell 0; have a1 := HA.out.cell 1; have a2 := HA.out.cell 2; have a3 := HA.out.cell 3; have a4 := HA.out.cell 4; have a5 := HA.out.cell 5; (simp only [rqC, anC, List.getElem?_cons_succ, List.getElem?_cons_zero] at a0 a1 a2 a3 a4 a5 b0 b1 b2 b3 b4)))
        go_roundw
        case rel => exact ⟨i + 1, (n0 : Int) + 1, (d0 : Int) + 1, 3, 7, v, s2, by have := HLT.out; omega, by go_num, by rw [HS2.out], .inr ⟨by omega, by rw [addR, HV.out, HN0.out, HD0.out], HS2.out⟩, by rw [← adds_take z i (by rw [HN.out]; exact HLT.out), HV.out, addR, HN0.out, HD0.out]; exact HO.out.frm (((((((Frm.refl (· = ab) w5).setCell ⟨ab, 0, none⟩ _ (.inr rfl)).setCell ⟨ab, 1, none⟩ _ (.inr rfl)).setCell ⟨ab, 2, none⟩ _ (.inr rfl)).setCell ⟨ab, 3, none⟩ _ (.inr rfl)).setCell ⟨ab, 4, none⟩ _ (.inr rfl)).setCell ⟨ab, 5, none⟩ _ (.inr rfl)) (fun k hk e => HO.out.off k hk (Nat.le_of_eq e)), (((((HA.out.setCell 0 _).setCell 1 _).setCell 2 _).setCell 3 _).setCell 4 _).setCell 5 _, below_frm1 HF.out (((((((Frm.refl (· = ab) w5).setCell ⟨ab, 0, none⟩ _ (.inr rfl)).setCell ⟨ab, 1, none⟩ _ (.inr rfl)).setCell ⟨ab, 2, none⟩ _ (.inr rfl)).setCell ⟨ab, 3, none⟩ _ (.inr rfl)).setCell ⟨ab, 4, none⟩ _ (.inr rfl)).setCell ⟨ab, 5, none⟩ _ (.inr rfl)) HAB.out⟩
        case measure => simp [intOf]; have := HLT.out; omega
      · have hne : ((i : Int) == (k : Int)) = false := beq_eq_false_iff_ne.2 (by omega)
        have hne2 : ¬ (i : Int) = (k : Int) := by omega
        have HNE := hid hik
        clear hik
        go_wp2_with (first
          | (at_builtin; refine wpList_moreR ⟨(n0 : Int) + 1, (d0 : Int) + 1, 3, 7, v⟩ rfl _ _ rfl rfl (HO.out.quiet ((frm_box _ _).trans (frm_box _ _))) (fun k hk => by have := HA.out.lt; simp; omega) (blkn (wr.alloc _) (wr.heap.size + 1) (by simp) (rqC ⟨(n0 : Int) + 1, (d0 : Int) + 1, 3, 7, v⟩) TRq) (by rw [adds_len, List.length_take]; have := HLT.out; have := HN40.out; omega) rfl rfl ?_; intro u5 w5 ho' hf' hat'; clear q0; have HQ := hid ((blkn wr _ rfl (rqC ⟨(n0 : Int) + 1, (d0 : Int) + 1, 3, 7, v⟩) TRq).alloc _ |>.frm hf' (fun e => Nat.lt_irrefl _ (HO.out.lt e))); have HA2 := hid ((HA.out.alloc _ |>.alloc _).frm hf' (fun e => HO.out.off _ e (Nat.le_refl _))); have HF2 := hid (((HF.out.alloc HF.out.size _).alloc (by have := HF.out.size; simp; omega) _).trans (hf'.below (by have := HF.out.size; simp; omega) (fun k hk hn => HO.out.off k hn (Nat.le_of_lt (Nat.lt_of_lt_of_le hk HAB.out))))); clear HF HO HA hf' hat'; have HF := HF2; have HA := HA2; have HO := hid ho'; clear ho' HF2 HA2; have q0 := (HF.out.cell (p := ⟨ga, oa + i, none⟩) HGA.out).trans HXA.out; have b0 := HQ.out.cell 0; have b1 := HQ.out.cell 1; have b2 := HQ.out.cell 2; have b3 := HQ.out.cell 3; have b4 := HQ.out.cell 4; have z0 := HA.out.free 0; have z1 := HA.out.free 1; have z2 := HA.out.free 2; have z3 := HA.out.free 3; have z4 := HA.out.free 4; have z5 := HA.out.free 5; have a0 := HA.out.cell 0; have a1 := HA.out.cell 1; have a2 := HA.out.cell 2; have a3 := HA.out.cell 3; have a4 := HA.out.cell 4; have a5 := HA.out.cell 5; (simp only [rqC, anC, List.getElem?_cons_succ, List.getElem?_cons_zero] at a0 a1 a2 a3 a4 a5 b0 b1 b2 b3 b4)))
        go_roundw
        case rel => exact ⟨i + 1, c, t, k', y', v', x', by have := HLT.out; omega, by go_num, by rw [HS2.out], HST.out.up HNE.out, by rw [← adds_take z i (by rw [HN.out]; exact HLT.out), HV.out, addR, HN0.out, HD0.out]; exact HO.out, HA.out, HF.out⟩
        case measure => simp [intOf]; have := HLT.out; omega
    · have hin : n = i := by omega
      subst hin
      clear hlt
      have hil : (n : Int) ≤ (n : Int) := Int.le_refl _
      obtain ⟨l, hl⟩ : ∃ l, addsL 0 z = l := ⟨_, rfl⟩
      have htk : z.take n = z := List.take_of_length_le (by rw [HN.out]; exact Nat.le_refl _)
      rw [htk] at HO HS
      rw [hl] at HO
      have hzb : ∀ v ∈ z, 0 ≤ v ∧ v ≤ 65535 := fun v hv => by have := H0.out.wf v hv; simp [Lit.wf, IntKind.min, IntKind.max, IntKind.bits, IntKind.signed] at this; omega
      have hok : ∀ r ∈ l, RqOk r ∧ r.t ≠ 999 := by rw [← hl]; exact adds_ok z hzb 0 (by rw [HN.out]; have := HN40.out; omega)
      obtain ⟨vs, cs, hpl, hinv⟩ := play_adds z 0 0 V0 C0 AddInv.zero
      rw [hl] at hpl
      have HPL := hid hpl
      have HVAL := hid (show getV vs 7 = s by rw [hinv.val]; exact HS.out)
      have hln : l.length = n := by rw [← hl, adds_len]; exact HN.out
      obtain ⟨la, lc, rfl, hq⟩ := HO.out.rqs (fun r hr => (hok r hr).1)
      rw [hln]
      have HQ := hid hq; have HLN := hid hln
      have hst : k < n ∧ (⟨c, t, k', y', v'⟩ : Rq) = addR k (z.getD k 0) ∧ x' = sum16 0 (z.take (k + 1)) := by
        have := HKN.out
        rcases HST.out with ⟨a, b, e⟩ | h
        · omega
        · exact h
      have hrt : ∀ X, rightF ⟨c, t, k', y', v'⟩ X V0 C0 l = (x' == X) := fun X => by
        have h1 := right_adds z X 0 0 V0 C0 AddInv.zero k (z.getD k 0) (by rw [List.getD_eq_getElem?_getD, List.getElem?_eq_getElem (by rw [HN.out]; exact hst.1)]; rfl)
        rw [Nat.zero_add, ← hst.2.1, hl, ← hst.2.2] at h1
        exact h1
      have hrc : ∀ X, rightF ⟨c, 999, k', y', v'⟩ X V0 C0 l = false := fun X => right_not _ _ _ _ _ (fun r hr e => (hok r hr).2 (by rw [(Rq.eqb_iff _ _).1 e]))
      have hxb : 0 ≤ x' ∧ x' ≤ 65535 := by rw [hst.2.2]; exact sum16_bd _ 0 (by decide)
      have HR1 := hid (show rightsF l [(⟨c, t, k', y', v'⟩, x'), (⟨c, t, k', y', v'⟩, x')] = true by simp [rightsF, hrt])
      have HRC1 := hid (show rightsF l [(⟨c, 999, k', y', v'⟩, x')] = false by simp [rightsF, hrc])
      have HRT := hid hrt; have HRC := hid hrc; have HXB := hid hxb
      have hn40b : (n : Int) ≤ 2000 := by omega
      have a0 := HA.out.cell 0; have a1 := HA.out.cell 1; have a2 := HA.out.cell 2; have a3 := HA.out.cell 3; have a4 := HA.out.cell 4; have a5 := HA.out.cell 5
      (simp only [anC, List.getElem?_cons_succ, List.getElem?_cons_zero] at a0 a1 a2 a3 a4 a5)
      have hnw : IntKind.u32.wrap (n : Int) = (n : Int) := by simp [IntKind.wrap, IntKind.bits, IntKind.signed]; omega
      obtain ⟨X2, hX2⟩ : ∃ X2, IntKind.u32.wrap (x' + y) = X2 := ⟨_, rfl⟩
      clear hl htk hzb hok hpl hinv hln hq hst hrt hrc hxb HO HST
      by_cases hy0 : y = 0
      · have hZ : (y == 0) = true := by rw [hy0]; rfl
        subst hy0
        rw [Int.add_zero] at hX2
        have hX3 : IntKind.u32.wrap x' = x' := by have := HXB.out; simp [IntKind.wrap, IntKind.bits, IntKind.signed]; omega
        obtain rfl : x' = X2 := by rw [← hX2, hX3]
        have HR2 := hid (show rightsF l [(⟨c, t, k', y', v'⟩, x'), (⟨c, t, k', y', v'⟩, x')] = true from HR1.out)
        go_wp2_with (first
          | (go_at_call 11; (with_reducible refine (Right_2 wr HQ.out HLN.out c t k' y' v' x' c t k' y' v' x' true HR1.out wr.heap.size rfl).mono ?_); rintro e w6 ⟨rfl, f'⟩; clear a0 a1 a2 a3 a4 a5; have HQ2 := hid ((HQ.out.al _).b0 f'); have HA2 := hid ((HA.out.alloc _).below f' (HA.out.alloc _).lt); have HF2 := hid (below_next (HF.out.alloc HF.out.size _) f'); clear HA HQ HF f'; have HQ := HQ2; have HA := HA2; have HF := HF2; clear HQ2 HA2 HF2; have a0 := HA.out.cell 0; have a1 := HA.out.cell 1; have a2 := HA.out.cell 2; have a3 := HA.out.cell 3; have a4 := HA.out.cell 4; have a5 := HA.out.cell 5; (simp only [anC, List.getElem?_cons_succ, List.getElem?_cons_zero] at a0 a1 a2 a3 a4 a5))
          | (go_at_call 12; (with_reducible refine (At_n HQ.out HLN.out (by have := HN40.out; omega) n (n : Int) rfl (by have := HN40.out; omega) vs _ (by rw [List.take_of_length_le (by rw [HLN.out]; have := HN40.out; omega)]; exact HPL.out)).mono ?_); rintro e w7 ⟨mb, rfl, hb', h', f'⟩; have HM := hid h'; clear a0 a1 a2 a3 a4 a5; have HQ2 := hid (HQ.out.b0 f'); have HA2 := hid (HA.out.below f' HA.out.lt); have HF2 := hid (below_next HF.out f'); clear HA HQ HF f'; have HQ := HQ2; have HA := HA2; have HF := HF2; clear HQ2 HA2 HF2; clear h' hb'; have a0 := HA.out.cell 0; have a1 := HA.out.cell 1; have a2 := HA.out.cell 2; have a3 := HA.out.cell 3; have a4 := HA.out.cell 4; have a5 := HA.out.cell 5; (simp only [anC, List.getElem?_cons_succ, List.getElem?_cons_zero] at a0 a1 a2 a3 a4 a5))
          | (go_at_call 12; (with_reducible refine (At_n HQ.out HLN.out (by have := HN40.out; omega) 2147483648 2147483648 rfl (by have := HN40.out; omega) vs _ (by rw [List.take_of_length_le (by rw [HLN.out]; have := HN40.out; omega)]; exact HPL.out)).mono ?_); rintro e w7 ⟨mb, rfl, hb', h', f'⟩; have HM := hid h'; clear a0 a1 a2 a3 a4 a5; have HQ2 := hid (HQ.out.b0 f'); have HA2 := hid (HA.out.below f' HA.out.lt); have HF2 := hid (below_next HF.out f'); clear HA HQ HF f'; have HQ := HQ2; have HA := HA2; have HF := HF2; clear HQ2 HA2 HF2; clear h' hb'; have a0 := HA.out.cell 0; have a1 := HA.out.cell 1; have a2 := HA.out.cell 2; have a3 := HA.out.cell 3; have a4 := HA.out.cell 4; have a5 := HA.out.cell 5; (simp only [anC, List.getElem?_cons_succ, List.getElem?_cons_zero] at a0 a1 a2 a3 a4 a5))
          | (go_at_call 12; (with_reducible refine (At_n HQ.out HLN.out (by have := HN40.out; omega) 0 0 rfl (by have := HN40.out; omega) V0 _ rfl).mono ?_); rintro e w7 ⟨mb, rfl, hb', h', f'⟩; have HM := hid h'; clear a0 a1 a2 a3 a4 a5; have HQ2 := hid (HQ.out.b0 f'); have HA2 := hid (HA.out.below f' HA.out.lt); have HF2 := hid (below_next HF.out f'); clear HA HQ HF f'; have HQ := HQ2; have HA := HA2; have HF := HF2; clear HQ2 HA2 HF2; clear h' hb'; have a0 := HA.out.cell 0; have a1 := HA.out.cell 1; have a2 := HA.out.cell 2; have a3 := HA.out.cell 3; have a4 := HA.out.cell 4; have a5 := HA.out.cell 5; (simp only [anC, List.getElem?_cons_succ, List.getElem?_cons_zero] at a0 a1 a2 a3 a4 a5))
          | (go_at_call 13; (with_reducible refine (PGet_calls HM.out 7 (by decide) s HVAL.out).mono ?_); rintro e w8 ⟨rfl, rfl⟩; skip)
          | (go_at_call 13; (with_reducible refine (PGet_calls HM.out 7 (by decide) 0 rfl).mono ?_); rintro e w8 ⟨rfl, rfl⟩; clear HM; have hl1 := HA.out.lt; have hl2 : ab ≠ w7.heap.size := Nat.ne_of_lt HA.out.lt)
          | (go_at_call 11; (with_reducible refine (Right_2 _ ((HQ.out.al (OAN1 c t k' y' v' x')).al (OAN1 c 999 k' y' v' x')) HLN.out c t k' y' v' x' c t k' y' v' x' true HR2.out (w7.heap.size + 1 + 1) (by simp)).mono ?_); rintro e w9 ⟨rfl, f'⟩; clear a0 a1 a2 a3 a4 a5; have HC0 := hid ((blkn (w7.alloc (OAN1 c t k' y' v' x')) (w7.heap.size + 1) (by simp) (anC ⟨c, 999, k', y', v'⟩ x') TAn).alloc (OAN2 c t k' y' v' x' c t k' y' v' x')); have HC := hid (HC0.out.below f' HC0.out.lt); have HF1 := hid ((HF.out.alloc HF.out.size (OAN1 c t k' y' v' x')).alloc (HF.out.alloc HF.out.size (OAN1 c t k' y' v' x')).size (OAN1 c 999 k' y' v' x')); have HQ2 := hid ((((HQ.out.al _).al _).al _).b0 f'); have HF2 := hid (below_next (HF1.out.alloc HF1.out.size _) f'); clear HA HQ HF f' hl1 hl2 HF1 HC0; have HQ := HQ2; have HF := HF2; clear HQ2 HF2; have a0 := HC.out.cell 0; have a1 := HC.out.cell 1; have a2 := HC.out.cell 2; have a3 := HC.out.cell 3; have a4 := HC.out.cell 4; have a5 := HC.out.cell 5; (simp only [anC, List.getElem?_cons_succ, List.getElem?_cons_zero] at a0 a1 a2 a3 a4 a5))
          | (go_at_call 11; (with_reducible refine (Right_1 w9 HQ.out HLN.out c 999 k' y' v' x' false HRC1.out w9.heap.size rfl).mono ?_); rintro e w10 ⟨rfl, f'⟩; clear a0 a1 a2 a3 a4 a5; have HQ2 := hid ((HQ.out.al _).b0 f'); have HF2 := hid (below_next (HF.out.alloc HF.out.size _) f'); clear HC HQ HF f'; have HQ := HQ2; have HF := HF2; clear HQ2 HF2)
          | (go_at_call 14; (with_reducible refine (Once_n w10 HQ.out HLN.out (by have := HN40.out; omega)).mono ?_); rintro e w11 ⟨rfl, f'⟩; have HF2 := hid (below_next HF.out f'); clear HF f'; have HF := HF2; clear HF2))
        go_ret
        exact ⟨rfl, HF.out⟩
      · have hZ : (y == 0) = false := beq_eq_false_iff_ne.2 hy0
        have HX2 := hid (show (x' == X2) = false from beq_eq_false_iff_ne.2 (by rw [← hX2]; have := HXB.out; have := HY.out; simp [IntKind.wrap, IntKind.bits, IntKind.signed]; omega))
        have HR2 := hid (show rightsF l [(⟨c, t, k', y', v'⟩, x'), (⟨c, t, k', y', v'⟩, X2)] = false by have h1 := HRT.out X2; rw [HX2.out] at h1; simp [rightsF, h1])
        go_wp2_with (first
          | (go_at_call 11; (with_reducible refine (Right_2 wr HQ.out HLN.out c t k' y' v' x' c t k' y' v' x' true HR1.out wr.heap.size rfl).mono ?_); rintro e w6 ⟨rfl, f'⟩; clear a0 a1 a2 a3 a4 a5; have HQ2 := hid ((HQ.out.al _).b0 f'); have HA2 := hid ((HA.out.alloc _).below f' (HA.out.alloc _).lt); have HF2 := hid (below_next (HF.out.alloc HF.out.size _) f'); clear HA HQ HF f'; have HQ := HQ2; have HA := HA2; have HF := HF2; clear HQ2 HA2 HF2; have a0 := HA.out.cell 0; have a1 := HA.out.cell 1; have a2 := HA.out.cell 2; have a3 := HA.out.cell 3; have a4 := HA.out.cell 4; have a5 := HA.out.cell 5; (simp only [anC, List.getElem?_cons_succ, List.getElem?_cons_zero] at a0 a1 a2 a3 a4 a5))
          | (go_at_call 12; (with_reducible refine (At_n HQ.out HLN.out (by have := HN40.out; omega) n (n : Int) rfl (by have := HN40.out; omega) vs _ (by rw [List.take_of_length_le (by rw [HLN.out]; have := HN40.out; omega)]; exact HPL.out)).mono ?_); rintro e w7 ⟨mb, rfl, hb', h', f'⟩; have HM := hid h'; clear a0 a1 a2 a3 a4 a5; have HQ2 := hid (HQ.out.b0 f'); have HA2 := hid (HA.out.below f' HA.out.lt); have HF2 := hid (below_next HF.out f'); clear HA HQ HF f'; have HQ := HQ2; have HA := HA2; have HF := HF2; clear HQ2 HA2 HF2; clear h' hb'; have a0 := HA.out.cell 0; have a1 := HA.out.cell 1; have a2 := HA.out.cell 2; have a3 := HA.out.cell 3; have a4 := HA.out.cell 4; have a5 := HA.out.cell 5; (simp only [anC, List.getElem?_cons_succ, List.getElem?_cons_zero] at a0 a1 a2 a3 a4 a5))
          | (go_at_call 12; (with_reducible refine (At_n HQ.out HLN.out (by have := HN40.out; omega) 2147483648 2147483648 rfl (by have := HN40.out; omega) vs _ (by rw [List.take_of_length_le (by rw [HLN.out]; have := HN40.out; omega)]; exact HPL.out)).mono ?_); rintro e w7 ⟨mb, rfl, hb', h', f'⟩; have HM := hid h'; clear a0 a1 a2 a3 a4 a5; have HQ2 := hid (HQ.out.b0 f'); have HA2 := hid (HA.out.below f' HA.out.lt); have HF2 := hid (below_next HF.out f'); clear HA HQ HF f'; have HQ := HQ2; have HA := HA2; have HF := HF2; clear HQ2 HA2 HF2; clear h' hb'; have a0 := HA.out.cell 0; have a1 := HA.out.cell 1; have a2 := HA.out.cell 2; have a3 := HA.out.cell 3; have a4 := HA.out.cell 4; have a5 := HA.out.cell 5; (simp only [anC, List.getElem?_cons_succ, List.getElem?_cons_zero] at a0 a1 a2 a3 a4 a5))
          | (go_at_call 12; (with_reducible refine (At_n HQ.out HLN.out (by have := HN40.out; omega) 0 0 rfl (by have := HN40.out; omega) V0 _ rfl).mono ?_); rintro e w7 ⟨mb, rfl, hb', h', f'⟩; have HM := hid h'; clear a0 a1 a2 a3 a4 a5; have HQ2 := hid (HQ.out.b0 f'); have HA2 := hid (HA.out.below f' HA.out.lt); have HF2 := hid (below_next HF.out f'); clear HA HQ HF f'; have HQ := HQ2; have HA := HA2; have HF := HF2; clear HQ2 HA2 HF2; clear h' hb'; have a0 := HA.out.cell 0; have a1 := HA.out.cell 1; have a2 := HA.out.cell 2; have a3 := HA.out.cell 3; have a4 := HA.out.cell 4; have a5 := HA.out.cell 5; (simp only [anC, List.getElem?_cons_succ, List.getElem?_cons_zero] at a0 a1 a2 a3 a4 a5))
          | (go_at_call 13; (with_reducible refine (PGet_calls HM.out 7 (by decide) s HVAL.out).mono ?_); rintro e w8 ⟨rfl, rfl⟩; skip)
          | (go_at_call 13; (with_reducible refine (PGet_calls HM.out 7 (by decide) 0 rfl).mono ?_); rintro e w8 ⟨rfl, rfl⟩; clear HM; have hl1 := HA.out.lt; have hl2 : ab ≠ w7.heap.size := Nat.ne_of_lt HA.out.lt)
          | (go_at_call 11; (with_reducible refine (Right_2 _ ((HQ.out.al (OAN1 c t k' y' v' X2)).al (OAN1 c 999 k' y' v' x')) HLN.out c t k' y' v' x' c t k' y' v' X2 false HR2.out (w7.heap.size + 1 + 1) (by simp)).mono ?_); rintro e w9 ⟨rfl, f'⟩; clear a0 a1 a2 a3 a4 a5; have HC0 := hid ((blkn (w7.alloc (OAN1 c t k' y' v' X2)) (w7.heap.size + 1) (by simp) (anC ⟨c, 999, k', y', v'⟩ x') TAn).alloc (OAN2 c t k' y' v' x' c t k' y' v' X2)); have HC := hid (HC0.out.below f' HC0.out.lt); have HF1 := hid ((HF.out.alloc HF.out.size (OAN1 c t k' y' v' X2)).alloc (HF.out.alloc HF.out.size (OAN1 c t k' y' v' X2)).size (OAN1 c 999 k' y' v' x')); have HQ2 := hid ((((HQ.out.al _).al _).al _).b0 f'); have HF2 := hid (below_next (HF1.out.alloc HF1.out.size _) f'); clear HA HQ HF f' hl1 hl2 HF1 HC0; have HQ := HQ2; have HF := HF2; clear HQ2 HF2; have a0 := HC.out.cell 0; have a1 := HC.out.cell 1; have a2 := HC.out.cell 2; have a3 := HC.out.cell 3; have a4 := HC.out.cell 4; have a5 := HC.out.cell 5; (simp only [anC, List.getElem?_cons_succ, List.getElem?_cons_zero] at a0 a1 a2 a3 a4 a5))
          | (go_at_call 11; (with_reducible refine (Right_1 w9 HQ.out HLN.out c 999 k' y' v' x' false HRC1.out w9.heap.size rfl).mono ?_); rintro e w10 ⟨rfl, f'⟩; clear a0 a1 a2 a3 a4 a5; have HQ2 := hid ((HQ.out.al _).b0 f'); have HF2 := hid (below_next (HF.out.alloc HF.out.size _) f'); clear HC HQ HF f'; have HQ := HQ2; have HF := HF2; clear HQ2 HF2)
          | (go_at_call 14; (with_reducible refine (Once_n w10 HQ.out HLN.out (by have := HN40.out; omega)).mono ?_); rintro e w11 ⟨rfl, f'⟩; have HF2 := hid (below_next HF.out f'); clear HF f'; have HF := HF2; clear HF2))
        go_ret
        exact ⟨rfl, HF.out⟩
end Go.Proofs.Ytljfbaakgjmmfaa
