/- The document's marks: Count, Top, Len, Drop, Forget. -/
import Derived.Test.YtiffhkhmkigolaaOwnA
import Derived.Test.YtiffhkhmkigolaaMkDrop
namespace Go.Proofs.Ytiffhkhmkigolaa
open Go.RowKit Go.ChangeShapes
set_option linter.unusedVariables false
set_option linter.unusedSimpArgs false
set_option maxRecDepth 100000
abbrev TRm : Nat := 41
/-- The document's marks at rb. -/
structure IsRd (w : World) (rb : Nat) (v : Value) (Ls : List Sa) : Prop where
  blk : Blk w rb [v] TRm
  own : OwnA w (fun k => k ≤ rb) v Ls
  few : Ls.length ≤ 1000
  fr : ∀ s ∈ Ls, 0 ≤ s.1 ∧ s.1 < 4
def Rdb (rb : Nat) (v : Value) (k : Nat) : Prop := k = rb ∨ v.ownBlock = some k
theorem IsRd.frm {S : Nat → Prop} {w w' : World} {rb : Nat} {v : Value} {Ls : List Sa} (h : IsRd w rb v Ls) (f : Frm S w w') (hs : ∀ k, Rdb rb v k → ¬ S k) : IsRd w' rb v Ls :=
  ⟨h.blk.frm f (hs _ (.inl rfl)), h.own.frm f (fun k hk => hs k (.inr hk)), h.few, h.fr⟩
theorem IsRd.quiet {w w' : World} {rb : Nat} {v : Value} {Ls : List Sa} (h : IsRd w rb v Ls) (f : Frm (fun _ => False) w w') : IsRd w' rb v Ls := h.frm f (fun _ _ h => h)
theorem OwnA.cells {w : World} {A : Nat → Prop} {g n c : Nat} {l : List Sa} (h : OwnA w A (.slice (some ⟨g, 0, none⟩) n c) l) (j : Nat) (r : Sa) (hj : l[j]? = some r) (i : Nat) (hi : i < 3) : w.cell? ⟨g, j * 3 + i, none⟩ = (saC r)[i]? := by
  obtain ⟨g', c', e, _, _, h4⟩ := h.at_ (by have := (List.getElem?_eq_some_iff.1 hj).1; omega)
  injection e with e1 e2 e3
  injection e1 with e1
  injection e1 with e1
  subst e1
  exact h4 j r hj i hi
def hitA (m : Mk) (but : Int) (s : Sa) : Prop := (s.2.1 = m.1 ∧ s.2.2 = m.2) ∧ ¬ s.1 = but
instance (m : Mk) (but : Int) (s : Sa) : Decidable (hitA m but s) := inferInstanceAs (Decidable ((_ ∧ _) ∧ _))
def cntA (Ls : List Sa) (m : Mk) (but : Int) : Nat := Ls.countP fun s => decide (hitA m but s)
theorem cntA_yes {Ls : List Sa} {m : Mk} {but : Int} {k C : Nat} {s : Sa} (hk : Ls[k]? = some s) (hC : cntA (Ls.take k) m but = C) (h : hitA m but s) : cntA (Ls.take (k + 1)) m but = C + 1 := by
  unfold cntA at *
  rw [List.take_add_one, hk, List.countP_append, hC]
  show C + List.countP _ [s] = _
  rw [List.countP_singleton, if_pos (decide_eq_true h)]
theorem cntA_no {Ls : List Sa} {m : Mk} {but : Int} {k C : Nat} {s : Sa} (hk : Ls[k]? = some s) (hC : cntA (Ls.take k) m but = C) (h : ¬ hitA m but s) : cntA (Ls.take (k + 1)) m but = C := by
  unfold cntA at *
  rw [List.take_add_one, hk, List.countP_append, hC]
  show C + List.countP _ [s] = _
  rw [List.countP_singleton, if_neg (by rw [decide_eq_false h]; decide), Nat.add_zero]
theorem cntA_le (Ls : List Sa) (m : Mk) (but : Int) : cntA Ls m but ≤ Ls.length := List.countP_le_length
theorem filter_take_succ {p : Sa → Bool} {Ls : List Sa} {k : Nat} {s : Sa} (hk : Ls[k]? = some s) : (Ls.take (k + 1)).filter p = (Ls.take k).filter p ++ (if p s = true then [s] else []) := by
  rw [List.take_add_one, hk, List.filter_append]
  congr 1
  show List.filter p [s] = _
  cases h : p s
  · rw [if_neg (by decide), List.filter_cons_of_neg (by rw [h]; decide)]; rfl
  · rw [if_pos rfl, List.filter_cons_of_pos h]; rfl
theorem filter_take_b {p : Sa → Bool} {Ls : List Sa} {k : Nat} {s : Sa} (hk : Ls[k]? = some s) {b : Bool} (hb : p s = b) : (Ls.take (k + 1)).filter p = (Ls.take k).filter p ++ (if b = true then [s] else []) := by
  subst hb; exact filter_take_succ hk
set_option maxHeartbeats 16000000 in
theorem RCount_calls {w : World} {rb : Nat} {v : Value} {Ls : List Sa} (h : IsRd w rb v Ls) (m : Mk) (but n : Int) (hn : (cntA Ls m but : Int) = n) :
    Calls Try.prog 18 #[.pointer (some ⟨rb, 0, none⟩), .int .u32 m.1, .int .u64 m.2, .int .i64 but] w fun e w' => e = .returned (.int .i64 n) ∧ w = w' := by
  obtain ⟨va, vc, hv⟩ := h.own.slice
  subst hv
  obtain ⟨L, hL⟩ : ∃ L, Ls.length = L := ⟨_, rfl⟩
  have HL := hid hL
  rw [hL] at h
  have q0 := h.blk.cell 0
  simp only [List.getElem?_cons_zero] at q0
  have hl1 : (L : Int) ≤ 1000 := by have := h.few; omega
  have hl0 : (0 : Int) ≤ (L : Int) := by omega
  have HO := hid h.own; have HFR := hid h.fr
  have HNN := hid hn
  obtain ⟨ms, mr⟩ := m
  clear h hn
  go_enter Try.func18, Try.ntmps18
  go_wp2
  go_loopw [9, 10] (fun nv kv wr => ∃ k : Nat, k ≤ L ∧ nv = .int .i64 (cntA (Ls.take k) (ms, mr) but) ∧ kv = .int .i64 k ∧ w = wr) (fun _ kv _ => L - (intOf kv).toNat)
  case atStart => exact ⟨0, by omega, rfl, rfl, rfl⟩
  case round =>
    obtain ⟨k, hk, rfl, rfl, rfl⟩ := hrel
    obtain ⟨C, hC⟩ : ∃ C, cntA (Ls.take k) (ms, mr) but = C := ⟨_, rfl⟩
    have HC := hid hC
    have hcb : (C : Int) ≤ 1000 := by have h1 := cntA_le (Ls.take k) (ms, mr) but; rw [hC, List.length_take] at h1; have := HL.out; omega
    have hcb0 : (0 : Int) ≤ (C : Int) := by omega
    rw [hC]
    clear hC
    by_cases hlt : k < L
    · obtain ⟨⟨fr, s1, s2⟩, hx⟩ : ∃ x, Ls[k]? = some x := ⟨_, List.getElem?_eq_getElem (by rw [HL.out]; exact hlt)⟩
      obtain ⟨g, c, hv, hgc, hgm, _⟩ := HO.out.at_ (by rw [HL.out]; omega)
      injection hv with e1 e2 e3
      subst e1 e3
      have c0 := HO.out.cells k _ hx 0 (by decide); have c1 := HO.out.cells k _ hx 1 (by decide); have c2 := HO.out.cells k _ hx 2 (by decide)
      simp only [saC, List.getElem?_cons_succ, List.getElem?_cons_zero, Nat.add_zero] at c0 c1 c2
      rw [HL.out] at hgc
      have HX := hid hx; have HLT := hid hlt
      obtain ⟨hf0, hf3⟩ : 0 ≤ fr ∧ fr < 4 := HFR.out _ (List.mem_of_getElem? hx)
      have hkl : (k : Int) < (L : Int) := by omega
      have hk0 : (0 : Int) ≤ (k : Int) := by omega
      clear hx hlt e2 hk
      obtain ⟨z, hz⟩ : ∃ z, (s1 == ms && s2 == mr) = z := ⟨_, rfl⟩
      have heq := fun w => eqMk w s1 s2 ms mr z hz
      have HZ := hid hz
      clear hz
      cases z
      · have HN := hid (cntA_no HX.out HC.out (fun h => by have h1 := HZ.out; rw [show s1 = ms from h.1.1, show s2 = mr from h.1.2, beq_self_eq_true, beq_self_eq_true] at h1; exact absurd h1 (by decide)))
        go_wp2
        go_roundw
        case rel => exact ⟨k + 1, by have := HLT.out; omega, by first | (rw [HN.out]; done) | (rw [HN.out]; go_num), by first | rfl | go_num, by first | rfl | trivial⟩
        case measure => have := HLT.out; simp [intOf]; omega
      · by_cases hb : fr = but
        · have e2 : (fr == but) = true := beq_iff_eq.2 hb
          have e3 : (fr != but) = false := by rw [bne, e2]; rfl
          have HN := hid (cntA_no HX.out HC.out (fun h => h.2 hb))
          clear hb
          go_wp2
          go_roundw
          case rel => exact ⟨k + 1, by have := HLT.out; omega, by first | (rw [HN.out]; done) | (rw [HN.out]; go_num), by first | rfl | go_num, by first | rfl | trivial⟩
          case measure => have := HLT.out; simp [intOf]; omega
        · have e2 : (fr == but) = false := beq_eq_false_iff_ne.2 hb
          have e3 : (fr != but) = true := by rw [bne, e2]; rfl
          have HN := hid (cntA_yes HX.out HC.out ⟨by have h1 := HZ.out; rw [Bool.and_eq_true] at h1; exact ⟨beq_iff_eq.1 h1.1, beq_iff_eq.1 h1.2⟩, hb⟩)
          clear hb
          go_wp2
          go_roundw
          case rel => exact ⟨k + 1, by have := HLT.out; omega, by first | (rw [HN.out]; done) | (rw [HN.out]; go_num), by first | rfl | go_num, by first | rfl | trivial⟩
          case measure => have := HLT.out; simp [intOf]; omega
    · have hke : k = L := by omega
      subst hke
      have HE := hid (show (C : Int) = n by rw [← HNN.out, ← HC.out, List.take_of_length_le (by rw [HL.out]; exact Nat.le_refl _)])
      clear hk hlt
      go_wp2
      go_ret
      exact ⟨ret_int HE.out, by first | rfl | trivial⟩
/-- The greatest place of a replica, so far. -/
def topF (F : Int) (a : Int) (s : Sa) : Int := if s.1 = F then max a s.2.1 else a
def topA (Ls : List Sa) (F : Int) : Int := Ls.foldl (topF F) 0
theorem topA_succ {Ls : List Sa} {F : Int} {k : Nat} {s : Sa} (hk : Ls[k]? = some s) : topA (Ls.take (k + 1)) F = topF F (topA (Ls.take k) F) s := by
  unfold topA; rw [List.take_add_one, hk, List.foldl_append]; rfl
set_option maxHeartbeats 16000000 in
theorem RTop_calls {w : World} {rb : Nat} {v : Value} {Ls : List Sa} (h : IsRd w rb v Ls) (F n : Int) (hn : topA Ls F = n) :
    Calls Try.prog 20 #[.pointer (some ⟨rb, 0, none⟩), .int .u8 F] w fun e w' => e = .returned (.int .u32 n) ∧ w = w' := by
  obtain ⟨va, vc, hv⟩ := h.own.slice
  subst hv
  obtain ⟨L, hL⟩ : ∃ L, Ls.length = L := ⟨_, rfl⟩
  have HL := hid hL
  rw [hL] at h
  have q0 := h.blk.cell 0
  simp only [List.getElem?_cons_zero] at q0
  have hl1 : (L : Int) ≤ 1000 := by have := h.few; omega
  have hl0 : (0 : Int) ≤ (L : Int) := by omega
  have HO := hid h.own; have HFR := hid h.fr
  have HNN := hid hn
  clear h hn
  go_enter Try.func20, Try.ntmps20
  go_wp2
  go_loopw [5, 6] (fun nv kv wr => ∃ k : Nat, k ≤ L ∧ nv = .int .u32 (topA (Ls.take k) F) ∧ kv = .int .i64 k ∧ w = wr) (fun _ kv _ => L - (intOf kv).toNat)
  case atStart => exact ⟨0, by omega, rfl, rfl, rfl⟩
  case round =>
    obtain ⟨k, hk, rfl, rfl, rfl⟩ := hrel
    obtain ⟨C, hC⟩ : ∃ C, topA (Ls.take k) F = C := ⟨_, rfl⟩
    have HC := hid hC
    rw [hC]
    clear hC
    by_cases hlt : k < L
    · obtain ⟨⟨fr, s1, s2⟩, hx⟩ : ∃ x, Ls[k]? = some x := ⟨_, List.getElem?_eq_getElem (by rw [HL.out]; exact hlt)⟩
      obtain ⟨g, c, hv, hgc, hgm, _⟩ := HO.out.at_ (by rw [HL.out]; omega)
      injection hv with e1 e2 e3
      subst e1 e3
      have c0 := HO.out.cells k _ hx 0 (by decide); have c1 := HO.out.cells k _ hx 1 (by decide); have c2 := HO.out.cells k _ hx 2 (by decide)
      simp only [saC, List.getElem?_cons_succ, List.getElem?_cons_zero, Nat.add_zero] at c0 c1 c2
      rw [HL.out] at hgc
      have HX := hid hx; have HLT := hid hlt
      obtain ⟨hf0, hf3⟩ : 0 ≤ fr ∧ fr < 4 := HFR.out _ (List.mem_of_getElem? hx)
      have hkl : (k : Int) < (L : Int) := by omega
      have hk0 : (0 : Int) ≤ (k : Int) := by omega
      clear hx hlt e2 hk
      by_cases hb : fr = F
      · subst hb
        by_cases hm : C < s1
        · have HN := hid (show topA (Ls.take (k + 1)) fr = s1 by rw [topA_succ HX.out, HC.out]; show (if fr = fr then max C s1 else C) = s1; rw [if_pos rfl]; exact Int.max_eq_right (by omega))
          go_wp2
          go_roundw
          case rel => exact ⟨k + 1, by have := HLT.out; omega, by first | (rw [HN.out]; done) | (rw [HN.out]; go_num), by first | rfl | go_num, by first | rfl | trivial⟩
          case measure => have := HLT.out; simp [intOf]; omega
        · have HN := hid (show topA (Ls.take (k + 1)) fr = C by rw [topA_succ HX.out, HC.out]; show (if fr = fr then max C s1 else C) = C; rw [if_pos rfl]; exact Int.max_eq_left (by omega))
          go_wp2
          go_roundw
          case rel => exact ⟨k + 1, by have := HLT.out; omega, by first | (rw [HN.out]; done) | (rw [HN.out]; go_num), by first | rfl | go_num, by first | rfl | trivial⟩
          case measure => have := HLT.out; simp [intOf]; omega
      · have e2 : (fr == F) = false := beq_eq_false_iff_ne.2 hb
        have HN := hid (show topA (Ls.take (k + 1)) F = C by rw [topA_succ HX.out, HC.out]; exact if_neg hb)
        go_wp2
        go_roundw
        case rel => exact ⟨k + 1, by have := HLT.out; omega, by first | (rw [HN.out]; done) | (rw [HN.out]; go_num), by first | rfl | go_num, by first | rfl | trivial⟩
        case measure => have := HLT.out; simp [intOf]; omega
    · have hke : k = L := by omega
      subst hke
      have HE := hid (show C = n by rw [← HNN.out, ← HC.out, List.take_of_length_le (by rw [HL.out]; exact Nat.le_refl _)])
      clear hk hlt
      go_wp2
      go_ret
      exact ⟨ret_int HE.out, by first | rfl | trivial⟩
theorem RLen_calls {w : World} {rb : Nat} {v : Value} {Ls : List Sa} (h : IsRd w rb v Ls) (n : Int) (hn : (Ls.length : Int) = n) : Calls Try.prog 22 #[.pointer (some ⟨rb, 0, none⟩)] w fun e w' => e = .returned (.int .i64 n) ∧ w = w' := by
  obtain ⟨va, vc, hv⟩ := h.own.slice
  subst hv
  obtain ⟨L, hL⟩ : ∃ L, Ls.length = L := ⟨_, rfl⟩
  have HL := hid hL
  rw [hL] at h
  have q0 := h.blk.cell 0
  simp only [List.getElem?_cons_zero] at q0
  have hl1 : (L : Int) ≤ 1000 := by have := h.few; omega
  have hl0 : (0 : Int) ≤ (L : Int) := by omega
  have HO := hid h.own; have HFR := hid h.fr
  have HNN := hid (show (L : Int) = n from hL ▸ hn)
  clear h hn hL
  go_enter Try.func22, Try.ntmps22
  go_wp2
  go_ret
  exact ⟨ret_int HNN.out, by first | rfl | trivial⟩
set_option maxHeartbeats 16000000 in
theorem RDrop_calls {w : World} {rb : Nat} {v : Value} {Ls : List Sa} (h : IsRd w rb v Ls) (low : Int) :
    Calls Try.prog 14 #[.pointer (some ⟨rb, 0, none⟩), .int .u32 low] w fun e w' => e = .returned (.tuple #[]) ∧ (∃ v', IsRd w' rb v' (Ls.filter (fun s : Sa => decide (low ≤ s.2.1)))) ∧ Frm (· = rb) w w' := by
  have HRL := hid h.blk.lt
  obtain ⟨va, vc, hv⟩ := h.own.slice
  subst hv
  obtain ⟨L, hL⟩ : ∃ L, Ls.length = L := ⟨_, rfl⟩
  have HL := hid hL
  rw [hL] at h
  have q0 := h.blk.cell 0
  simp only [List.getElem?_cons_zero] at q0
  have hl1 : (L : Int) ≤ 1000 := by have := h.few; omega
  have hl0 : (0 : Int) ≤ (L : Int) := by omega
  have HO := hid h.own; have HFR := hid h.fr
  have HBK := hid h.blk; have hz0 := h.blk.free 0
  have HSM := hid (show ∀ w', OwnA w' (fun k => k ≤ rb) (.slice va L vc) Ls → OwnA w' (fun k => k ≤ rb) (.slice va L vc) Ls from fun _ h => h)
  clear h hL
  go_enter Try.func14, Try.ntmps14
  go_wp2
  go_loopw [4, 5] (fun ov kv wr => ∃ k : Nat, k ≤ L ∧ OwnA wr (fun k => k < w.heap.size) ov ((Ls.take k).filter (fun s : Sa => decide (low ≤ s.2.1))) ∧ kv = .int .i64 k ∧ Frm (fun _ => False) w wr) (fun _ kv _ => L - (intOf kv).toNat)
  case atStart => exact ⟨0, by omega, OwnA.nil _ _, rfl, Frm.refl _ _⟩
  case round =>
    clear q0 hz0
    obtain ⟨k, hk, ho, rfl, hf⟩ := hrel
    have HF := hid hf
    obtain ⟨oa, oc, hov⟩ := ho.slice
    subst hov
    have HOO := hid ho
    have q0 := (HBK.out.frm hf (fun h => h)).cell 0; have hz0 := (HBK.out.frm hf (fun h => h)).free 0
    simp only [List.getElem?_cons_zero] at q0
    clear ho hf
    by_cases hlt : k < L
    · have HO2 := hid (HO.out.quiet HF.out)
      obtain ⟨⟨fr, s1, s2⟩, hx⟩ : ∃ x, Ls[k]? = some x := ⟨_, List.getElem?_eq_getElem (by rw [HL.out]; exact hlt)⟩
      obtain ⟨g, c, hv, hgc, hgm, _⟩ := HO2.out.at_ (by rw [HL.out]; omega)
      injection hv with e1 e2 e3
      subst e1 e3
      have c0 := HO2.out.cells k _ hx 0 (by decide); have c1 := HO2.out.cells k _ hx 1 (by decide); have c2 := HO2.out.cells k _ hx 2 (by decide)
      simp only [saC, List.getElem?_cons_succ, List.getElem?_cons_zero, Nat.add_zero] at c0 c1 c2
      rw [HL.out] at hgc
      have HX := hid hx; have HLT := hid hlt
      obtain ⟨hf0, hf3⟩ : 0 ≤ fr ∧ fr < 4 := HFR.out _ (List.mem_of_getElem? hx)
      have hkl : (k : Int) < (L : Int) := by omega
      have hk0 : (0 : Int) ≤ (k : Int) := by omega
      clear hx hlt e2 hk
      have HQ := hid (show ∀ b : Bool, (fun s : Sa => decide (low ≤ s.2.1)) (fr, s1, s2) = b → (Ls.take (k + 1)).filter (fun s : Sa => decide (low ≤ s.2.1)) = (Ls.take k).filter (fun s : Sa => decide (low ≤ s.2.1)) ++ (if b = true then [(fr, s1, s2)] else []) from fun b hb => filter_take_b HX.out hb)
      have HLN := hid (show ((Ls.take k).filter (fun s : Sa => decide (low ≤ s.2.1))).length ≤ 100000 from Nat.le_trans (List.length_filter_le _ _) (by rw [List.length_take, HL.out]; have : (L : Int) ≤ 1000 := hl1; omega))
      by_cases hb : low ≤ s1
      · have HKP := hid (show decide (low ≤ s1) = true from decide_eq_true hb)
        have HNX := hid (HQ.out true HKP.out)
        go_wp2_with (at_builtin; refine wpList_moreA (fr, s1, s2) rfl _ _ rfl rfl (HOO.out.quiet (mbox _ _)) (fun k hk => by have h1 := HF.out.size; simp; omega) (Blk.new _ (saC (fr, s1, s2)) TSa) HLN.out rfl rfl ?_; intro v' w5 ho' hf' hat'; have HO5 := hid ho'; have HFX := hid hf'; clear ho' hf' hat')
        go_roundw
        case rel => exact ⟨k + 1, by have := HLT.out; omega, by rw [HNX.out]; exact HO5.out, by first | rfl | go_num, (HF.out.trans (mbox _ _)).trans' HFX.out (fun q hq e => absurd hq (HOO.out.off q e))⟩
        case measure => have := HLT.out; simp [intOf]; omega
      · have HKP := hid (show decide (low ≤ s1) = false from decide_eq_false hb)
        have HNX := hid ((HQ.out false HKP.out).trans (by rw [if_neg (by decide), List.append_nil]))
        go_wp2
        go_roundw
        case rel => exact ⟨k + 1, by have := HLT.out; omega, by rw [HNX.out]; exact HOO.out, by first | rfl | go_num, HF.out⟩
        case measure => have := HLT.out; simp [intOf]; omega
    · have hke : k = L := by omega
      subst hke
      have htk : Ls.take k = Ls := List.take_of_length_le (by rw [HL.out]; exact Nat.le_refl _)
      rw [htk] at HOO ⊢
      clear hk hlt htk
      go_wp2
      go_end0
      refine ⟨rfl, ⟨_, ((HBK.out.frm HF.out (fun h => h)).setCell 0 _), ⟨(HOO.out.frm ((Frm.refl (· = rb) _).setCell ⟨rb, 0, none⟩ _ (.inr rfl)) (fun k hk e => HOO.out.off k hk (by rw [e]; exact HRL.out))).own, fun k hk e => HOO.out.off k hk (Nat.lt_of_le_of_lt e HRL.out)⟩, Nat.le_trans (List.length_filter_le _ _) (by rw [HL.out]; omega), fun s hs => HFR.out s (List.mem_filter.1 hs).1⟩, (HF.out.mono (S' := (· = rb)) (fun _ _ h => h.elim)).setCell _ _ (.inr rfl)⟩
set_option maxHeartbeats 16000000 in
theorem RForget_calls {w : World} {rb : Nat} {v : Value} {Ls : List Sa} (h : IsRd w rb v Ls) (F : Int) :
    Calls Try.prog 16 #[.pointer (some ⟨rb, 0, none⟩), .int .u8 F] w fun e w' => e = .returned (.tuple #[]) ∧ (∃ v', IsRd w' rb v' (Ls.filter (fun s : Sa => !decide (s.1 = F)))) ∧ Frm (· = rb) w w' := by
  have HRL := hid h.blk.lt
  obtain ⟨va, vc, hv⟩ := h.own.slice
  subst hv
  obtain ⟨L, hL⟩ : ∃ L, Ls.length = L := ⟨_, rfl⟩
  have HL := hid hL
  rw [hL] at h
  have q0 := h.blk.cell 0
  simp only [List.getElem?_cons_zero] at q0
  have hl1 : (L : Int) ≤ 1000 := by have := h.few; omega
  have hl0 : (0 : Int) ≤ (L : Int) := by omega
  have HO := hid h.own; have HFR := hid h.fr
  have HBK := hid h.blk; have hz0 := h.blk.free 0
  have HSM := hid (show ∀ w', OwnA w' (fun k => k ≤ rb) (.slice va L vc) Ls → OwnA w' (fun k => k ≤ rb) (.slice va L vc) Ls from fun _ h => h)
  clear h hL
  go_enter Try.func16, Try.ntmps16
  go_wp2
  go_loopw [4, 5] (fun ov kv wr => ∃ k : Nat, k ≤ L ∧ OwnA wr (fun k => k < w.heap.size) ov ((Ls.take k).filter (fun s : Sa => !decide (s.1 = F))) ∧ kv = .int .i64 k ∧ Frm (fun _ => False) w wr) (fun _ kv _ => L - (intOf kv).toNat)
  case atStart => exact ⟨0, by omega, OwnA.nil _ _, rfl, Frm.refl _ _⟩
  case round =>
    clear q0 hz0
    obtain ⟨k, hk, ho, rfl, hf⟩ := hrel
    have HF := hid hf
    obtain ⟨oa, oc, hov⟩ := ho.slice
    subst hov
    have HOO := hid ho
    have q0 := (HBK.out.frm hf (fun h => h)).cell 0; have hz0 := (HBK.out.frm hf (fun h => h)).free 0
    simp only [List.getElem?_cons_zero] at q0
    clear ho hf
    by_cases hlt : k < L
    · have HO2 := hid (HO.out.quiet HF.out)
      obtain ⟨⟨fr, s1, s2⟩, hx⟩ : ∃ x, Ls[k]? = some x := ⟨_, List.getElem?_eq_getElem (by rw [HL.out]; exact hlt)⟩
      obtain ⟨g, c, hv, hgc, hgm, _⟩ := HO2.out.at_ (by rw [HL.out]; omega)
      injection hv with e1 e2 e3
      subst e1 e3
      have c0 := HO2.out.cells k _ hx 0 (by decide); have c1 := HO2.out.cells k _ hx 1 (by decide); have c2 := HO2.out.cells k _ hx 2 (by decide)
      simp only [saC, List.getElem?_cons_succ, List.getElem?_cons_zero, Nat.add_zero] at c0 c1 c2
      rw [HL.out] at hgc
      have HX := hid hx; have HLT := hid hlt
      obtain ⟨hf0, hf3⟩ : 0 ≤ fr ∧ fr < 4 := HFR.out _ (List.mem_of_getElem? hx)
      have hkl : (k : Int) < (L : Int) := by omega
      have hk0 : (0 : Int) ≤ (k : Int) := by omega
      clear hx hlt e2 hk
      have HQ := hid (show ∀ b : Bool, (fun s : Sa => !decide (s.1 = F)) (fr, s1, s2) = b → (Ls.take (k + 1)).filter (fun s : Sa => !decide (s.1 = F)) = (Ls.take k).filter (fun s : Sa => !decide (s.1 = F)) ++ (if b = true then [(fr, s1, s2)] else []) from fun b hb => filter_take_b HX.out hb)
      have HLN := hid (show ((Ls.take k).filter (fun s : Sa => !decide (s.1 = F))).length ≤ 100000 from Nat.le_trans (List.length_filter_le _ _) (by rw [List.length_take, HL.out]; have : (L : Int) ≤ 1000 := hl1; omega))
      by_cases hb : fr = F
      · subst hb
        have HKP := hid (show (!decide (fr = fr)) = false by rw [decide_eq_true rfl]; rfl)
        have HNX := hid ((HQ.out false HKP.out).trans (by rw [if_neg (by decide), List.append_nil]))
        go_wp2
        go_roundw
        case rel => exact ⟨k + 1, by have := HLT.out; omega, by rw [HNX.out]; exact HOO.out, by first | rfl | go_num, HF.out⟩
        case measure => have := HLT.out; simp [intOf]; omega
      · have HKP := hid (show (!decide (fr = F)) = true by rw [decide_eq_false hb]; rfl)
        have e2 : (fr == F) = false := beq_eq_false_iff_ne.2 hb
        have e3 : (fr != F) = true := by rw [bne, e2]; rfl
        clear hb
        have HNX := hid (HQ.out true HKP.out)
        go_wp2_with (at_builtin; refine wpList_moreA (fr, s1, s2) rfl _ _ rfl rfl (HOO.out.quiet (mbox _ _)) (fun k hk => by have h1 := HF.out.size; simp; omega) (Blk.new _ (saC (fr, s1, s2)) TSa) HLN.out rfl rfl ?_; intro v' w5 ho' hf' hat'; have HO5 := hid ho'; have HFX := hid hf'; clear ho' hf' hat')
        go_roundw
        case rel => exact ⟨k + 1, by have := HLT.out; omega, by rw [HNX.out]; exact HO5.out, by first | rfl | go_num, (HF.out.trans (mbox _ _)).trans' HFX.out (fun q hq e => absurd hq (HOO.out.off q e))⟩
        case measure => have := HLT.out; simp [intOf]; omega
    · have hke : k = L := by omega
      subst hke
      have htk : Ls.take k = Ls := List.take_of_length_le (by rw [HL.out]; exact Nat.le_refl _)
      rw [htk] at HOO ⊢
      clear hk hlt htk
      go_wp2
      go_end0
      refine ⟨rfl, ⟨_, ((HBK.out.frm HF.out (fun h => h)).setCell 0 _), ⟨(HOO.out.frm ((Frm.refl (· = rb) _).setCell ⟨rb, 0, none⟩ _ (.inr rfl)) (fun k hk e => HOO.out.off k hk (by rw [e]; exact HRL.out))).own, fun k hk e => HOO.out.off k hk (Nat.lt_of_le_of_lt e HRL.out)⟩, Nat.le_trans (List.length_filter_le _ _) (by rw [HL.out]; omega), fun s hs => HFR.out s (List.mem_filter.1 hs).1⟩, (HF.out.mono (S' := (· = rb)) (fun _ _ h => h.elim)).setCell _ _ (.inr rfl)⟩
end Go.Proofs.Ytiffhkhmkigolaa
