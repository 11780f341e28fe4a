/- few; the document's At, Right. -/
import Derived.Test.YtljfbaakgjmmfaaChkKnown
import Derived.Test.YtljfbaakgjmmfaaRMap
namespace Go.Proofs.Ytljfbaakgjmmfaa
open Go.RowKit Go.ChangeShapes
set_option linter.unusedVariables false
set_option linter.unusedSimpArgs false
set_option maxRecDepth 100000
def fewL (l : List Dn) : Bool := l.all fun d => decide (d.s ≤ 2000)
def fewQ (ls : List (List Dn)) : Bool := ls.all fun l => decide (l.length ≤ 60) && fewL l
def fewF (ls : List (List Dn)) : Bool := fewQ ls && decide (ls.length ≤ 6)
theorem few_drop {ls : List (List Dn)} {i : Nat} {l : List Dn} (h : ls[i]? = some l) : fewQ (ls.drop i) = ((decide (l.length ≤ 60) && fewL l) && fewQ (ls.drop (i + 1))) := by
  rw [drop_cons h]; rfl
theorem fewL_drop {l : List Dn} {i : Nat} {d : Dn} (h : l[i]? = some d) : fewL (l.drop i) = (decide (d.s ≤ 2000) && fewL (l.drop (i + 1))) := by
  rw [drop_cons h]; rfl
set_option maxHeartbeats 8000000 in
theorem few_calls {w : World} {a : Option Addr} {ca N : Nat} {ls : List (List Dn)} (h : IsDss w a ca ls) (hN : ls.length = N) (z : Bool) (hz : fewF ls = z) :
    Calls Try.prog 15 #[.slice a N ca] w fun e w' => e = .returned (.bool z) ∧ w = w' := by
  have hle := h.le
  have hsm := h.small
  rw [hN] at hle
  have H0 := hid h; have HN := hid hN
  have HZ := hid (show (fewQ ls && decide (N ≤ 6)) = z from hN ▸ hz)
  clear h hz hN
  go_enter Try.func15, Try.ntmps15
  go_wp2
  go_loopw [3] (fun iv wr => ∃ i : Nat, i ≤ N ∧ iv = .int .i64 i ∧ (fewQ (ls.drop i) && decide (N ≤ 6)) = z ∧ w = wr) (fun iv _ => N - (intOf iv).toNat)
  case atStart => exact ⟨0, Nat.zero_le _, rfl, HZ.out, rfl⟩
  case round =>
    obtain ⟨i, hi, rfl, hrz, hww⟩ := hrel
    subst hww
    have HRZ := hid hrz
    clear hrz
    by_cases hlt : i < N
    · obtain ⟨ga, oa, rfl, hga, hca⟩ := H0.out.at_ (by rw [HN.out]; omega)
      obtain ⟨l, hl⟩ : ∃ l, ls[i]? = some l := ⟨ls[i]'(by rw [HN.out]; exact hlt), List.getElem?_eq_getElem _⟩
      obtain ⟨aj, cj, q0, hd⟩ := hca i l hl
      have hRZ := HRZ.out
      rw [few_drop hl] at hRZ
      obtain ⟨n, hn⟩ : ∃ n, l.length = n := ⟨_, rfl⟩
      have hdle := hd.le
      have hdsm := hd.small
      rw [hn] at q0 hdle hRZ
      have HL := hid hd; have HNL := hid hn
      have hil : (i : Int) < (N : Int) := by omega
      have HLT := hid hlt
      clear hca hl hn hd hi hlt HRZ hga
      by_cases hn60 : 60 < n
      · have hn60i : (60 : Int) < (n : Int) := by omega
        have HZF := hid (show false = z by rw [← hRZ, decide_eq_false (by omega)]; rfl)
        clear hRZ hn60
        go_wp2
        go_ret
        exact ⟨ret_bool HZF.out, by first | rfl | trivial⟩
      · have hn60i : (n : Int) ≤ 60 := by omega
        have HRZ := hid (show ((fewL l && fewQ (ls.drop (i + 1))) && decide (N ≤ 6)) = z by rw [← hRZ, decide_eq_true (show n ≤ 60 by omega), Bool.true_and])
        clear hRZ hn60
        go_wp2
        go_loopw [4] (fun kv wr => ∃ k : Nat, k ≤ n ∧ kv = .int .i64 k ∧ ((fewL (l.drop k) && fewQ (ls.drop (i + 1))) && decide (N ≤ 6)) = z ∧ w = wr) (fun kv _ => n - (intOf kv).toNat)
        case atStart => exact ⟨0, Nat.zero_le _, rfl, HRZ.out, by first | rfl | trivial⟩
        case round =>
          clear HRZ
          obtain ⟨k, hk, rfl, hrz, hww⟩ := hrel
          subst hww
          by_cases hkn : k < n
          · obtain ⟨gb, ob, rfl, hgb, hcb⟩ := HL.out.at_ (by rw [HNL.out]; omega)
            obtain ⟨d, hd⟩ : ∃ d, l[k]? = some d := ⟨l[k]'(by rw [HNL.out]; exact hkn), List.getElem?_eq_getElem _⟩
            have r0 := hcb k d hd 0 (by decide)
            simp only [dnC, List.getElem?_cons_zero, Nat.add_zero] at r0
            rw [fewL_drop hd] at hrz
            generalize d.s = s at r0 hrz
            have hki : (k : Int) < (n : Int) := by omega
            have HKN := hid hkn
            clear hcb hgb hd hkn hk
            by_cases hs : 2000 < s
            · have HZF := hid (show false = z by rw [← hrz, decide_eq_false (by omega)]; rfl)
              clear hrz
              go_wp2
              go_ret
              exact ⟨ret_bool HZF.out, by first | rfl | trivial⟩
            · have HRZ := hid (show ((fewL (l.drop (k + 1)) && fewQ (ls.drop (i + 1))) && decide (N ≤ 6)) = z by rw [← hrz, decide_eq_true (show s ≤ 2000 by omega), Bool.true_and])
              have hs2 : s ≤ 2000 := by omega
              clear hrz hs
              go_wp2
              go_roundw
              case rel => exact ⟨k + 1, by have := HKN.out; omega, by go_num, HRZ.out, by first | rfl | trivial⟩
              case measure => simp [intOf]; have := HKN.out; omega
          · have hki : (n : Int) ≤ (k : Int) := by omega
            have HRZ := hid (show (fewQ (ls.drop (i + 1)) && decide (N ≤ 6)) = z by rw [← hrz, List.drop_eq_nil_of_le (show l.length ≤ k by rw [HNL.out]; omega)]; rfl)
            clear hrz hkn
            go_wp2
            go_roundw
            case rel => exact ⟨i + 1, by have := HLT.out; omega, by go_num, HRZ.out, by first | rfl | trivial⟩
            case measure => simp [intOf]; have := HLT.out; omega
    · have hil : (N : Int) ≤ (i : Int) := by omega
      have HZF := hid (show decide (N ≤ 6) = z by rw [← HRZ.out, List.drop_eq_nil_of_le (by rw [HN.out]; omega)]; rfl)
      clear hlt HRZ
      by_cases h6 : N ≤ 6
      · have h6i : (N : Int) ≤ 6 := by omega
        have HZ2 := hid (show true = z by rw [← HZF.out, decide_eq_true h6])
        clear h6
        go_wp2
        go_ret
        exact ⟨ret_bool HZ2.out, by first | rfl | trivial⟩
      · have h6i : (6 : Int) < (N : Int) := by omega
        have HZ2 := hid (show false = z by rw [← HZF.out, decide_eq_false h6])
        clear h6
        go_wp2
        go_ret
        exact ⟨ret_bool ((decide_eq_false (show ¬ (N : Int) ≤ 6 by omega)).trans HZ2.out), by first | rfl | trivial⟩
theorem zeroRM (w : World) : (zeroValue TRM).run Try.prog w = .ok (.agg (rcells V0 C0).toArray) w := by kernel_rfl
theorem RM_new (w : World) : IsRM (w.alloc (.cells (rcells V0 C0).toArray TRM)) w.heap.size V0 C0 := ⟨Blk.new w (rcells V0 C0) TRM, by decide, by decide, by decide, by decide⟩
theorem IsRM.n0 {w : World} {b : Nat} {vs cs : List Int} (h : IsRM w b vs cs) : b < w.heap.size := h.blk.lt
theorem setC_0 {cs : List Int} (h : cs.getD 0 0 = 0) (i t r : Int) : (setC cs i t r).getD 0 0 = 0 := by
  unfold setC
  split
  · rw [List.getD_eq_getElem?_getD, List.getElem?_set_ne (by omega), List.getElem?_set_ne (by omega), ← List.getD_eq_getElem?_getD]
    exact h
  · exact h
theorem applyM_0 {vs cs : List Int} {c t k y v X : Int} {ok : Bool} {vs2 cs2 : List Int} (h : applyM vs cs c t k y v = (X, ok, vs2, cs2)) (h0 : cs.getD 0 0 = 0) : cs2.getD 0 0 = 0 := by
  have e : cs2 = (applyM vs cs c t k y v).2.2.2 := by rw [h]
  rw [e]
  unfold applyM
  split
  · split
    · exact setC_0 h0 _ _ _
    · split <;> exact h0
  · exact h0
theorem play_0 (l : List Rq) : ∀ (vs cs : List Int), cs.getD 0 0 = 0 → (playM vs cs l).2.getD 0 0 = 0 := by
  induction l with
  | nil => exact fun vs cs h => h
  | cons r l ih => exact fun vs cs h => ih _ _ (applyM_0 (X := (applyM vs cs r.c r.t r.k r.y r.v).1) (ok := (applyM vs cs r.c r.t r.k r.y r.v).2.1) (vs2 := (applyM vs cs r.c r.t r.k r.y r.v).2.2.1) rfl h)
theorem take_drop_cons {l : List Rq} {k m : Nat} {r : Rq} (h : l[k]? = some r) (hm : k < m) : (l.take m).drop k = r :: (l.take m).drop (k + 1) := drop_cons (by rw [List.getElem?_take, if_pos hm]; exact h)
set_option maxHeartbeats 8000000 in
theorem RAt_calls {w : World} {a : Option Addr} {ca N : Nat} {l : List Rq} (h : IsRqs w a ca l) (hN : l.length = N) (hlen : N ≤ 2000) (m : Nat) (M : Int) (hM : M = (m : Int)) (vs' cs' : List Int) (hz : playM V0 C0 (l.take m) = (vs', cs')) :
    Calls Try.prog 17 #[.slice a N ca, .int .u32 M] w fun e w' => ∃ rb, e = .returned (.pointer (some ⟨rb, 0, none⟩)) ∧ IsRM w' rb vs' cs' ∧ w.heap.size ≤ rb ∧ Below w.heap.size w w' := by
  subst hM
  have hle := h.le
  have hsm := h.small
  rw [hN] at hle
  have H0 := hid h; have HN := hid hN; have HZ := hid hz
  have HLN := hid hlen
  have hN2 : (N : Int) ≤ 2000 := by omega
  obtain ⟨ZV, hZV⟩ : ∃ Z, (rcells V0 C0).toArray = Z := ⟨_, rfl⟩
  have hz0 := zeroRM
  rw [hZV] at hz0
  have HR0 := hid (show IsRM (w.alloc (.cells ZV TRM)) w.heap.size V0 C0 from hZV ▸ RM_new w)
  clear h hz hN hZV hlen
  go_enter Try.func17, Try.ntmps17
  go_wp2
  have HF0 := hid ((Below.refl w.heap.size w).alloc (Nat.le_refl _) (.cells ZV TRM))
  obtain ⟨rb, hrb⟩ : ∃ rb, w.heap.size = rb := ⟨_, rfl⟩
  have HRB := hid (show w.heap.size ≤ rb by omega)
  rw [hrb]
  rw [hrb] at HR0
  clear hrb
  go_loopw [6] (fun kv wr => ∃ (k : Nat) (vs cs : List Int), k ≤ N ∧ kv = .int .i64 k ∧ playM vs cs ((l.take m).drop k) = (vs', cs') ∧ IsRM wr rb vs cs ∧ Below w.heap.size w wr) (fun kv _ => N - (intOf kv).toNat)
  case atStart => exact ⟨0, _, _, Nat.zero_le _, rfl, HZ.out, HR0.out, HF0.out⟩
  case round =>
    clear HR0 HF0
    obtain ⟨k, vs, cs, hk, rfl, hrz, hr, hf⟩ := hrel
    have HRZ := hid hrz; have HR := hid hr; have HF := hid hf
    clear hrz hr hf
    have e32 : IntKind.u32.wrap (k : Int) = (k : Int) := by simp [IntKind.wrap, IntKind.bits, IntKind.signed]; omega
    by_cases hkm : k < N ∧ k < m
    · obtain ⟨hlt, hkm⟩ := hkm
      have hki : (k : Int) < (N : Int) := by omega
      have hkmi : (k : Int) < (m : Int) := by omega
      obtain ⟨ga, oa, rfl, hga, hca⟩ := H0.out.at_ (by rw [HN.out]; omega)
      obtain ⟨r, hr⟩ : ∃ r, l[k]? = some r := ⟨l[k]'(by rw [HN.out]; exact hlt), List.getElem?_eq_getElem _⟩
      have hok := H0.out.ok r (List.mem_of_getElem? hr)
      have q0 := hca k r hr 0 (by decide); have q1 := hca k r hr 1 (by decide); have q2 := hca k r hr 2 (by decide); have q3 := hca k r hr 3 (by decide); have q4 := hca k r hr 4 (by decide)
      have hs := HRZ.out
      rw [take_drop_cons hr hkm, playM] at hs
      have HS := hid hs
      clear hs HRZ hr
      obtain ⟨c, t, kk, y, v⟩ := r
      obtain ⟨hc0, ht0, hk0, hy0, hv0⟩ := hok
      dsimp only at hc0 ht0 hk0 hy0 hv0
      simp only [rqC, List.getElem?_cons_succ, List.getElem?_cons_zero] at q0 q1 q2 q3 q4
      have HC0 := hid q0; have HC1 := hid q1; have HC2 := hid q2; have HC3 := hid q3; have HC4 := hid q4
      have HGA := hid hga
      clear q0 q1 q2 q3 q4 hca
      have q0 := (HF.out.cell (p := ⟨ga, oa + k * 5 + 0, none⟩) HGA.out).trans HC0.out; have q1 := (HF.out.cell (p := ⟨ga, oa + k * 5 + 1, none⟩) HGA.out).trans HC1.out; have q2 := (HF.out.cell (p := ⟨ga, oa + k * 5 + 2, none⟩) HGA.out).trans HC2.out; have q3 := (HF.out.cell (p := ⟨ga, oa + k * 5 + 3, none⟩) HGA.out).trans HC3.out; have q4 := (HF.out.cell (p := ⟨ga, oa + k * 5 + 4, none⟩) HGA.out).trans HC4.out; (simp only [Nat.add_zero] at q0)
      obtain ⟨X, ok, vs2, cs2, hX⟩ : ∃ X ok vs2 cs2, applyM vs cs c t kk y v = (X, ok, vs2, cs2) := ⟨_, _, _, _, rfl⟩
      have HCC := hid hc0; have HTT := hid ht0; have HYY := hid hy0; have HVV := hid hv0; have HX := hid hX
      have HS2 := hid (show playM vs2 cs2 ((l.take m).drop (k + 1)) = (vs', cs') by have h := HS.out; dsimp only at h; rw [HX.out] at h; exact h)
      have HLT := hid hlt
      clear HS hlt hkm hc0 ht0 hk0 hy0 hv0 hX hga hk
      go_wp2_with (first
        | (go_at_call 26; (with_reducible refine (RApply_any HR.out c t kk y v HCC.out.1 HTT.out HYY.out.1 HVV.out X ok vs2 cs2 HX.out).mono ?_); rintro e w4 ⟨rfl, h', f'⟩; clear q0 q1 q2 q3 q4; have n0_ := hid (below_frm1 HF.out f' HRB.out); clear HF; have HF := n0_; clear n0_; clear HR; have HR := hid h'; clear h' f'))
      go_roundw
      case rel => exact ⟨k + 1, vs2, cs2, by have := HLT.out; omega, by go_num, HS2.out, HR.out, HF.out⟩
      case measure => simp [intOf]; have := HLT.out; omega
    · have HZF := hid (show (vs, cs) = (vs', cs') from by have h := HRZ.out; rw [List.drop_eq_nil_of_le (by rw [List.length_take, HN.out]; omega)] at h; exact h)
      have h1 := congrArg Prod.fst HZF.out
      have h2 := congrArg Prod.snd HZF.out
      dsimp only at h1 h2
      rw [h1, h2] at HR
      clear h1 h2 HZF HRZ
      by_cases hkN : k < N
      · have hki : (k : Int) < (N : Int) := by omega
        have hkmi : (m : Int) ≤ (k : Int) := by omega
        clear hkm hkN
        go_wp2
        go_ret
        exact ⟨rb, rfl, HR.out, HRB.out, HF.out⟩
      · have hki : (N : Int) ≤ (k : Int) := by omega
        clear hkm hkN
        go_wp2
        go_ret
        exact ⟨rb, rfl, HR.out, HRB.out, HF.out⟩
theorem apply_newok {vs cs : List Int} {c t k y v X : Int} {ok : Bool} {vs2 cs2 : List Int} (h : applyM vs cs c t k y v = (X, ok, vs2, cs2)) (hn : isNew cs c t k y v = true) : ok = true := by
  rw [isNew, Bool.and_eq_true] at hn
  rw [applyM, if_pos hn.1, if_pos (of_decide_eq_true hn.2)] at h
  injection h with h1 h2
  injection h2 with h2 h3
  exact h2.symm
set_option maxHeartbeats 32000000 in
theorem RRight_calls {w : World} {a b : Option Addr} {ca cb N A : Nat} {l : List Rq} {an : List (Rq × Int)} (h : IsRqs w a ca l) (hN : l.length = N) (h' : IsAns w b cb an) (hA : an.length = A) (z : Bool) (hz : rightsF l an = z) :
    Calls Try.prog 20 #[.slice a N ca, .slice b A cb] w fun e w' => e = .returned (.bool z) ∧ Below w.heap.size w w' := by
  have hle := h.le
  have hsm := h.small
  have hle' := h'.le
  have hsm' := h'.small
  rw [hN] at hle
  rw [hA] at hle'
  have H0 := hid h; have HN := hid hN; have H1 := hid h'; have HA := hid hA; have HZ := hid hz
  obtain ⟨ZV, hZV⟩ : ∃ Z, (rcells V0 C0).toArray = Z := ⟨_, rfl⟩
  have hz0 := zeroRM
  rw [hZV] at hz0
  have HRN := hid (show ∀ w, IsRM (w.alloc (.cells ZV TRM)) w.heap.size V0 C0 from fun w => hZV ▸ RM_new w)
  clear h h' hz hN hA hZV
  go_enter Try.func20, Try.ntmps20
  go_wp2
  go_loopw [5] (fun iv wr => ∃ (j : Nat), j ≤ A ∧ iv = .int .i64 j ∧ rightsF l (an.drop j) = z ∧ Below w.heap.size w wr) (fun iv _ => A - (intOf iv).toNat)
  case atStart => exact ⟨0, Nat.zero_le _, rfl, HZ.out, Below.refl _ _⟩
  case round =>
    generalize wr = wx at *
    obtain ⟨j, hj, rfl, hrz, hf⟩ := hrel
    have HRZ := hid hrz; have HFX := hid hf
    clear hrz hf
    by_cases hjl : j < A
    · have hji : (j : Int) < (A : Int) := by omega
      obtain ⟨gb, ob, rfl, hgb, hcb⟩ := H1.out.at_ (by rw [HA.out]; omega)
      obtain ⟨r, hr⟩ : ∃ r, an[j]? = some r := ⟨an[j]'(by rw [HA.out]; exact hjl), List.getElem?_eq_getElem _⟩
      have p0 := hcb j r hr 0 (by decide); have p1 := hcb j r hr 1 (by decide); have p2 := hcb j r hr 2 (by decide); have p3 := hcb j r hr 3 (by decide); have p4 := hcb j r hr 4 (by decide); have p5 := hcb j r hr 5 (by decide)
      have hs := HRZ.out
      rw [drop_cons hr, rightsF] at hs
      obtain ⟨⟨c', t', k', y', v'⟩, x⟩ := r
      dsimp only at hs
      simp only [anC, List.getElem?_cons_succ, List.getElem?_cons_zero] at p0 p1 p2 p3 p4 p5
      have HA0 := hid p0; have HA1 := hid p1; have HA2 := hid p2; have HA3 := hid p3; have HA4 := hid p4; have HA5 := hid p5
      have HGB := hid hgb
      obtain ⟨e, he⟩ : ∃ e, rightF ⟨c', t', k', y', v'⟩ x V0 C0 l = e := ⟨_, rfl⟩
      rw [he] at hs
      have HE := hid he; have HS := hid hs; have HJL := hid hjl
      clear hs he HRZ hr hcb hgb hjl hj p0 p1 p2 p3 p4 p5
      go_wp2
      have HR0 := hid (HRN.out wx)
      have HF0 := hid (HFX.out.alloc HFX.out.size (.cells ZV TRM))
      obtain ⟨rb, hrb⟩ : ∃ rb, wx.heap.size = rb := ⟨_, rfl⟩
      have HRB := hid (show w.heap.size ≤ rb from hrb ▸ HFX.out.size)
      rw [hrb]
      rw [hrb] at HR0
      clear hrb HFX
      go_loopw [7, 8] (fun bv kv wy => ∃ (k : Nat) (vs cs : List Int), k ≤ N ∧ bv = .bool false ∧ kv = .int .i64 k ∧ rightF ⟨c', t', k', y', v'⟩ x vs cs (l.drop k) = e ∧ IsRM wy rb vs cs ∧ Below w.heap.size w wy) (fun _ kv _ => N - (intOf kv).toNat)
      case atStart => exact ⟨0, _, _, Nat.zero_le _, rfl, rfl, HE.out, HR0.out, HF0.out⟩
      case round =>
        clear HR0 HF0
        obtain ⟨k, vs, cs, hk, rfl, rfl, hrz, hr, hf⟩ := hrel
        have HRZ := hid hrz; have HR := hid hr; have HF := hid hf
        clear hrz hr hf
        by_cases hlt : k < N
        · have hki : (k : Int) < (N : Int) := by omega
          obtain ⟨ga, oa, rfl, hga, hca⟩ := H0.out.at_ (by rw [HN.out]; omega)
          obtain ⟨r, hr⟩ : ∃ r, l[k]? = some r := ⟨l[k]'(by rw [HN.out]; exact hlt), List.getElem?_eq_getElem _⟩
          have hok := H0.out.ok r (List.mem_of_getElem? hr)
          have q0 := hca k r hr 0 (by decide); have q1 := hca k r hr 1 (by decide); have q2 := hca k r hr 2 (by decide); have q3 := hca k r hr 3 (by decide); have q4 := hca k r hr 4 (by decide)
          have hs := HRZ.out
          rw [drop_cons hr, rightF] at hs
          have HS1 := hid hs
          clear hs HRZ hr
          obtain ⟨c, t, kk, y, v⟩ := r
          obtain ⟨hc0, ht0, hk0, hy0, hv0⟩ := hok
          dsimp only at hc0 ht0 hk0 hy0 hv0
          simp only [rqC, List.getElem?_cons_succ, List.getElem?_cons_zero] at q0 q1 q2 q3 q4
          have HC0 := hid q0; have HC1 := hid q1; have HC2 := hid q2; have HC3 := hid q3; have HC4 := hid q4
          have HGA := hid hga
          clear q0 q1 q2 q3 q4 hca
          have q0 := (HF.out.cell (p := ⟨ga, oa + k * 5 + 0, none⟩) HGA.out).trans HC0.out; have q1 := (HF.out.cell (p := ⟨ga, oa + k * 5 + 1, none⟩) HGA.out).trans HC1.out; have q2 := (HF.out.cell (p := ⟨ga, oa + k * 5 + 2, none⟩) HGA.out).trans HC2.out; have q3 := (HF.out.cell (p := ⟨ga, oa + k * 5 + 3, none⟩) HGA.out).trans HC3.out; have q4 := (HF.out.cell (p := ⟨ga, oa + k * 5 + 4, none⟩) HGA.out).trans HC4.out; (simp only [Nat.add_zero] at q0)
          obtain ⟨X, ok, vs2, cs2, hX⟩ : ∃ X ok vs2 cs2, applyM vs cs c t kk y v = (X, ok, vs2, cs2) := ⟨_, _, _, _, rfl⟩
          have HCC := hid hc0; have HTT := hid ht0; have HYY := hid hy0; have HVV := hid hv0; have HX := hid hX
          have p0 := (HF.out.cell (p := ⟨gb, ob + j * 6 + 0, none⟩) HGB.out).trans HA0.out; have p1 := (HF.out.cell (p := ⟨gb, ob + j * 6 + 1, none⟩) HGB.out).trans HA1.out; have p2 := (HF.out.cell (p := ⟨gb, ob + j * 6 + 2, none⟩) HGB.out).trans HA2.out; have p3 := (HF.out.cell (p := ⟨gb, ob + j * 6 + 3, none⟩) HGB.out).trans HA3.out; have p4 := (HF.out.cell (p := ⟨gb, ob + j * 6 + 4, none⟩) HGB.out).trans HA4.out; have p5 := (HF.out.cell (p := ⟨gb, ob + j * 6 + 5, none⟩) HGB.out).trans HA5.out; (simp only [Nat.add_zero] at p0)
          obtain ⟨qe, hqe⟩ : ∃ qe, (c == c' && (t == t' && (kk == k' && (y == y' && v == v')))) = qe := ⟨_, rfl⟩
          have hqr := fun w => eqlRq w c t kk y v c' t' k' y' v' qe hqe
          obtain ⟨nw, hnw⟩ : ∃ nw, isNew cs c t kk y v = nw := ⟨_, rfl⟩
          have HNW := hid hnw
          have HS2 := hid (show (if qe = true then nw && X == x else rightF ⟨c', t', k', y', v'⟩ x vs2 cs2 (l.drop (k + 1))) = e by have h := HS1.out; dsimp only at h; rw [HX.out, HNW.out] at h; rw [← hqe]; exact h)
          have HNK := hid (show nw = true → ok = true from fun h => apply_newok HX.out (by rw [HNW.out]; exact h))
          have HLT := hid hlt
          have hl1 : ga < w.heap.size := HGA.out
          clear HS1 hlt hc0 ht0 hk0 hy0 hv0 hX hga hk hqe hnw
          cases qe
          · have HZF := hid (show rightF ⟨c', t', k', y', v'⟩ x vs2 cs2 (l.drop (k + 1)) = e from (if_neg (by decide)).symm.trans HS2.out)
            clear HS2
            go_wp2_with (first
              | (go_at_call 33; (with_reducible refine (RNew_any HR.out c t kk y v HCC.out.1 nw HNW.out).mono ?_); rintro e w3 ⟨rfl, f'⟩; clear q0 q1 q2 q3 q4; clear p0 p1 p2 p3 p4 p5; have n0_ := hid (HR.out.frm f' (fun h => h)); have n1_ := hid (below_frm0 HF.out f'); clear HR HF; have HR := n0_; clear n0_; have HF := n1_; clear n1_; clear f'; have q0 := (HF.out.cell (p := ⟨ga, oa + k * 5 + 0, none⟩) HGA.out).trans HC0.out; have q1 := (HF.out.cell (p := ⟨ga, oa + k * 5 + 1, none⟩) HGA.out).trans HC1.out; have q2 := (HF.out.cell (p := ⟨ga, oa + k * 5 + 2, none⟩) HGA.out).trans HC2.out; have q3 := (HF.out.cell (p := ⟨ga, oa + k * 5 + 3, none⟩) HGA.out).trans HC3.out; have q4 := (HF.out.cell (p := ⟨ga, oa + k * 5 + 4, none⟩) HGA.out).trans HC4.out; (simp only [Nat.add_zero] at q0); have p0 := (HF.out.cell (p := ⟨gb, ob + j * 6 + 0, none⟩) HGB.out).trans HA0.out; have p1 := (HF.out.cell (p := ⟨gb, ob + j * 6 + 1, none⟩) HGB.out).trans HA1.out; have p2 := (HF.out.cell (p := ⟨gb, ob + j * 6 + 2, none⟩) HGB.out).trans HA2.out; have p3 := (HF.out.cell (p := ⟨gb, ob + j * 6 + 3, none⟩) HGB.out).trans HA3.out; have p4 := (HF.out.cell (p := ⟨gb, ob + j * 6 + 4, none⟩) HGB.out).trans HA4.out; have p5 := (HF.out.cell (p := ⟨gb, ob + j * 6 + 5, none⟩) HGB.out).trans HA5.out; (simp only [Nat.add_zero] at p0))
              | (go_at_call 26; (with_reducible refine (RApply_any HR.out c t kk y v HCC.out.1 HTT.out HYY.out.1 HVV.out X ok vs2 cs2 HX.out).mono ?_); rintro e w4 ⟨rfl, h', f'⟩; clear q0 q1 q2 q3 q4; clear p0 p1 p2 p3 p4 p5; have n0_ := hid (below_frm1 HF.out f' HRB.out); clear HF; have HF := n0_; clear n0_; clear HR; have HR := hid h'; clear h' f'; have q0 := (HF.out.cell (p := ⟨ga, oa + k * 5 + 0, none⟩) HGA.out).trans HC0.out; have q1 := (HF.out.cell (p := ⟨ga, oa + k * 5 + 1, none⟩) HGA.out).trans HC1.out; have q2 := (HF.out.cell (p := ⟨ga, oa + k * 5 + 2, none⟩) HGA.out).trans HC2.out; have q3 := (HF.out.cell (p := ⟨ga, oa + k * 5 + 3, none⟩) HGA.out).trans HC3.out; have q4 := (HF.out.cell (p := ⟨ga, oa + k * 5 + 4, none⟩) HGA.out).trans HC4.out; (simp only [Nat.add_zero] at q0); have p0 := (HF.out.cell (p := ⟨gb, ob + j * 6 + 0, none⟩) HGB.out).trans HA0.out; have p1 := (HF.out.cell (p := ⟨gb, ob + j * 6 + 1, none⟩) HGB.out).trans HA1.out; have p2 := (HF.out.cell (p := ⟨gb, ob + j * 6 + 2, none⟩) HGB.out).trans HA2.out; have p3 := (HF.out.cell (p := ⟨gb, ob + j * 6 + 3, none⟩) HGB.out).trans HA3.out; have p4 := (HF.out.cell (p := ⟨gb, ob + j * 6 + 4, none⟩) HGB.out).trans HA4.out; have p5 := (HF.out.cell (p := ⟨gb, ob + j * 6 + 5, none⟩) HGB.out).trans HA5.out; (simp only [Nat.add_zero] at p0)))
            have HF2 := hid (bdrew HF.out)
            have HR2 := hid HR.out.drew
            clear HF HR q0 q1 q2 q3 q4 p0 p1 p2 p3 p4 p5
            have HF := HF2
            have HR := HR2
            clear HF2 HR2
            have q0 := (HF.out.cell (p := ⟨ga, oa + k * 5 + 0, none⟩) HGA.out).trans HC0.out
            have q1 := (HF.out.cell (p := ⟨ga, oa + k * 5 + 1, none⟩) HGA.out).trans HC1.out
            have q2 := (HF.out.cell (p := ⟨ga, oa + k * 5 + 2, none⟩) HGA.out).trans HC2.out
            have q3 := (HF.out.cell (p := ⟨ga, oa + k * 5 + 3, none⟩) HGA.out).trans HC3.out
            have q4 := (HF.out.cell (p := ⟨ga, oa + k * 5 + 4, none⟩) HGA.out).trans HC4.out
            (simp only [Nat.add_zero] at q0)
            have p0 := (HF.out.cell (p := ⟨gb, ob + j * 6 + 0, none⟩) HGB.out).trans HA0.out
            have p1 := (HF.out.cell (p := ⟨gb, ob + j * 6 + 1, none⟩) HGB.out).trans HA1.out
            have p2 := (HF.out.cell (p := ⟨gb, ob + j * 6 + 2, none⟩) HGB.out).trans HA2.out
            have p3 := (HF.out.cell (p := ⟨gb, ob + j * 6 + 3, none⟩) HGB.out).trans HA3.out
            have p4 := (HF.out.cell (p := ⟨gb, ob + j * 6 + 4, none⟩) HGB.out).trans HA4.out
            have p5 := (HF.out.cell (p := ⟨gb, ob + j * 6 + 5, none⟩) HGB.out).trans HA5.out
            (simp only [Nat.add_zero] at p0)
            go_region_held3 (fun wx => wx.cell? ⟨ga, oa + k * 5, none⟩ = some (.int .u8 c) ∧ wx.cell? ⟨ga, oa + k * 5 + 1, none⟩ = some (.int .u32 t) ∧ wx.cell? ⟨ga, oa + k * 5 + 2, none⟩ = some (.int .u8 kk) ∧ wx.cell? ⟨ga, oa + k * 5 + 3, none⟩ = some (.int .u8 y) ∧ wx.cell? ⟨ga, oa + k * 5 + 4, none⟩ = some (.int .u16 v) ∧ wx.cell? ⟨gb, ob + j * 6, none⟩ = some (.int .u8 c') ∧ wx.cell? ⟨gb, ob + j * 6 + 1, none⟩ = some (.int .u32 t') ∧ wx.cell? ⟨gb, ob + j * 6 + 2, none⟩ = some (.int .u8 k') ∧ wx.cell? ⟨gb, ob + j * 6 + 3, none⟩ = some (.int .u8 y') ∧ wx.cell? ⟨gb, ob + j * 6 + 4, none⟩ = some (.int .u16 v')) (first | go_keep | exact ⟨q0, q1, q2, q3, q4, p0, p1, p2, p3, p4⟩) (fail)
            go_wp2
            go_roundw
            case rel => exact ⟨k + 1, vs2, cs2, by have := HLT.out; omega, rfl, by go_num, HZF.out, HR.out, HF.out⟩
            case measure => simp [intOf]; have := HLT.out; omega
          · have HZF := hid (show (nw && X == x) = e from (if_pos rfl).symm.trans HS2.out)
            clear HS2
            cases nw
            · have HZ2 := hid (show false = z from by have h := HS.out; rw [← HZF.out, Bool.false_and, Bool.false_and] at h; exact h)
              go_wp2_with (first
                | (go_at_call 33; (with_reducible refine (RNew_any HR.out c t kk y v HCC.out.1 false HNW.out).mono ?_); rintro e w3 ⟨rfl, f'⟩; clear q0 q1 q2 q3 q4; clear p0 p1 p2 p3 p4 p5; have n0_ := hid (HR.out.frm f' (fun h => h)); have n1_ := hid (below_frm0 HF.out f'); clear HR HF; have HR := n0_; clear n0_; have HF := n1_; clear n1_; clear f'; have q0 := (HF.out.cell (p := ⟨ga, oa + k * 5 + 0, none⟩) HGA.out).trans HC0.out; have q1 := (HF.out.cell (p := ⟨ga, oa + k * 5 + 1, none⟩) HGA.out).trans HC1.out; have q2 := (HF.out.cell (p := ⟨ga, oa + k * 5 + 2, none⟩) HGA.out).trans HC2.out; have q3 := (HF.out.cell (p := ⟨ga, oa + k * 5 + 3, none⟩) HGA.out).trans HC3.out; have q4 := (HF.out.cell (p := ⟨ga, oa + k * 5 + 4, none⟩) HGA.out).trans HC4.out; (simp only [Nat.add_zero] at q0); have p0 := (HF.out.cell (p := ⟨gb, ob + j * 6 + 0, none⟩) HGB.out).trans HA0.out; have p1 := (HF.out.cell (p := ⟨gb, ob + j * 6 + 1, none⟩) HGB.out).trans HA1.out; have p2 := (HF.out.cell (p := ⟨gb, ob + j * 6 + 2, none⟩) HGB.out).trans HA2.out; have p3 := (HF.out.cell (p := ⟨gb, ob + j * 6 + 3, none⟩) HGB.out).trans HA3.out; have p4 := (HF.out.cell (p := ⟨gb, ob + j * 6 + 4, none⟩) HGB.out).trans HA4.out; have p5 := (HF.out.cell (p := ⟨gb, ob + j * 6 + 5, none⟩) HGB.out).trans HA5.out; (simp only [Nat.add_zero] at p0))
                | (go_at_call 26; (with_reducible refine (RApply_any HR.out c t kk y v HCC.out.1 HTT.out HYY.out.1 HVV.out X ok vs2 cs2 HX.out).mono ?_); rintro e w4 ⟨rfl, h', f'⟩; clear q0 q1 q2 q3 q4; clear p0 p1 p2 p3 p4 p5; have n0_ := hid (below_frm1 HF.out f' HRB.out); clear HF; have HF := n0_; clear n0_; clear HR; have HR := hid h'; clear h' f'; have q0 := (HF.out.cell (p := ⟨ga, oa + k * 5 + 0, none⟩) HGA.out).trans HC0.out; have q1 := (HF.out.cell (p := ⟨ga, oa + k * 5 + 1, none⟩) HGA.out).trans HC1.out; have q2 := (HF.out.cell (p := ⟨ga, oa + k * 5 + 2, none⟩) HGA.out).trans HC2.out; have q3 := (HF.out.cell (p := ⟨ga, oa + k * 5 + 3, none⟩) HGA.out).trans HC3.out; have q4 := (HF.out.cell (p := ⟨ga, oa + k * 5 + 4, none⟩) HGA.out).trans HC4.out; (simp only [Nat.add_zero] at q0); have p0 := (HF.out.cell (p := ⟨gb, ob + j * 6 + 0, none⟩) HGB.out).trans HA0.out; have p1 := (HF.out.cell (p := ⟨gb, ob + j * 6 + 1, none⟩) HGB.out).trans HA1.out; have p2 := (HF.out.cell (p := ⟨gb, ob + j * 6 + 2, none⟩) HGB.out).trans HA2.out; have p3 := (HF.out.cell (p := ⟨gb, ob + j * 6 + 3, none⟩) HGB.out).trans HA3.out; have p4 := (HF.out.cell (p := ⟨gb, ob + j * 6 + 4, none⟩) HGB.out).trans HA4.out; have p5 := (HF.out.cell (p := ⟨gb, ob + j * 6 + 5, none⟩) HGB.out).trans HA5.out; (simp only [Nat.add_zero] at p0)))
              have HF2 := hid (bdrew HF.out)
              have HR2 := hid HR.out.drew
              clear HF HR q0 q1 q2 q3 q4 p0 p1 p2 p3 p4 p5
              have HF := HF2
              have HR := HR2
              clear HF2 HR2
              have q0 := (HF.out.cell (p := ⟨ga, oa + k * 5 + 0, none⟩) HGA.out).trans HC0.out
              have q1 := (HF.out.cell (p := ⟨ga, oa + k * 5 + 1, none⟩) HGA.out).trans HC1.out
              have q2 := (HF.out.cell (p := ⟨ga, oa + k * 5 + 2, none⟩) HGA.out).trans HC2.out
              have q3 := (HF.out.cell (p := ⟨ga, oa + k * 5 + 3, none⟩) HGA.out).trans HC3.out
              have q4 := (HF.out.cell (p := ⟨ga, oa + k * 5 + 4, none⟩) HGA.out).trans HC4.out
              (simp only [Nat.add_zero] at q0)
              have p0 := (HF.out.cell (p := ⟨gb, ob + j * 6 + 0, none⟩) HGB.out).trans HA0.out
              have p1 := (HF.out.cell (p := ⟨gb, ob + j * 6 + 1, none⟩) HGB.out).trans HA1.out
              have p2 := (HF.out.cell (p := ⟨gb, ob + j * 6 + 2, none⟩) HGB.out).trans HA2.out
              have p3 := (HF.out.cell (p := ⟨gb, ob + j * 6 + 3, none⟩) HGB.out).trans HA3.out
              have p4 := (HF.out.cell (p := ⟨gb, ob + j * 6 + 4, none⟩) HGB.out).trans HA4.out
              have p5 := (HF.out.cell (p := ⟨gb, ob + j * 6 + 5, none⟩) HGB.out).trans HA5.out
              (simp only [Nat.add_zero] at p0)
              go_region_held3 (fun wx => wx.cell? ⟨ga, oa + k * 5, none⟩ = some (.int .u8 c) ∧ wx.cell? ⟨ga, oa + k * 5 + 1, none⟩ = some (.int .u32 t) ∧ wx.cell? ⟨ga, oa + k * 5 + 2, none⟩ = some (.int .u8 kk) ∧ wx.cell? ⟨ga, oa + k * 5 + 3, none⟩ = some (.int .u8 y) ∧ wx.cell? ⟨ga, oa + k * 5 + 4, none⟩ = some (.int .u16 v) ∧ wx.cell? ⟨gb, ob + j * 6, none⟩ = some (.int .u8 c') ∧ wx.cell? ⟨gb, ob + j * 6 + 1, none⟩ = some (.int .u32 t') ∧ wx.cell? ⟨gb, ob + j * 6 + 2, none⟩ = some (.int .u8 k') ∧ wx.cell? ⟨gb, ob + j * 6 + 3, none⟩ = some (.int .u8 y') ∧ wx.cell? ⟨gb, ob + j * 6 + 4, none⟩ = some (.int .u16 v')) (first | go_keep | exact ⟨q0, q1, q2, q3, q4, p0, p1, p2, p3, p4⟩) (fail)
              go_wp2
              go_ret
              exact ⟨ret_bool HZ2.out, HF.out⟩
            · have hok1 := HNK.out rfl
              subst hok1
              by_cases hXx : X = x
              · have hXx2 : (X == x) = true := beq_iff_eq.2 hXx
                have HZ2 := hid (show rightsF l (an.drop (j + 1)) = z from by have h := HS.out; rw [← HZF.out, hXx2] at h; exact h)
                go_wp2_with (first
                  | (go_at_call 33; (with_reducible refine (RNew_any HR.out c t kk y v HCC.out.1 true HNW.out).mono ?_); rintro e w3 ⟨rfl, f'⟩; clear q0 q1 q2 q3 q4; clear p0 p1 p2 p3 p4 p5; have n0_ := hid (HR.out.frm f' (fun h => h)); have n1_ := hid (below_frm0 HF.out f'); clear HR HF; have HR := n0_; clear n0_; have HF := n1_; clear n1_; clear f'; have q0 := (HF.out.cell (p := ⟨ga, oa + k * 5 + 0, none⟩) HGA.out).trans HC0.out; have q1 := (HF.out.cell (p := ⟨ga, oa + k * 5 + 1, none⟩) HGA.out).trans HC1.out; have q2 := (HF.out.cell (p := ⟨ga, oa + k * 5 + 2, none⟩) HGA.out).trans HC2.out; have q3 := (HF.out.cell (p := ⟨ga, oa + k * 5 + 3, none⟩) HGA.out).trans HC3.out; have q4 := (HF.out.cell (p := ⟨ga, oa + k * 5 + 4, none⟩) HGA.out).trans HC4.out; (simp only [Nat.add_zero] at q0); have p0 := (HF.out.cell (p := ⟨gb, ob + j * 6 + 0, none⟩) HGB.out).trans HA0.out; have p1 := (HF.out.cell (p := ⟨gb, ob + j * 6 + 1, none⟩) HGB.out).trans HA1.out; have p2 := (HF.out.cell (p := ⟨gb, ob + j * 6 + 2, none⟩) HGB.out).trans HA2.out; have p3 := (HF.out.cell (p := ⟨gb, ob + j * 6 + 3, none⟩) HGB.out).trans HA3.out; have p4 := (HF.out.cell (p := ⟨gb, ob + j * 6 + 4, none⟩) HGB.out).trans HA4.out; have p5 := (HF.out.cell (p := ⟨gb, ob + j * 6 + 5, none⟩) HGB.out).trans HA5.out; (simp only [Nat.add_zero] at p0))
                  | (go_at_call 26; (with_reducible refine (RApply_any HR.out c t kk y v HCC.out.1 HTT.out HYY.out.1 HVV.out X true vs2 cs2 HX.out).mono ?_); rintro e w4 ⟨rfl, h', f'⟩; clear q0 q1 q2 q3 q4; clear p0 p1 p2 p3 p4 p5; have n0_ := hid (below_frm1 HF.out f' HRB.out); clear HF; have HF := n0_; clear n0_; clear HR; have HR := hid h'; clear h' f'; have q0 := (HF.out.cell (p := ⟨ga, oa + k * 5 + 0, none⟩) HGA.out).trans HC0.out; have q1 := (HF.out.cell (p := ⟨ga, oa + k * 5 + 1, none⟩) HGA.out).trans HC1.out; have q2 := (HF.out.cell (p := ⟨ga, oa + k * 5 + 2, none⟩) HGA.out).trans HC2.out; have q3 := (HF.out.cell (p := ⟨ga, oa + k * 5 + 3, none⟩) HGA.out).trans HC3.out; have q4 := (HF.out.cell (p := ⟨ga, oa + k * 5 + 4, none⟩) HGA.out).trans HC4.out; (simp only [Nat.add_zero] at q0); have p0 := (HF.out.cell (p := ⟨gb, ob + j * 6 + 0, none⟩) HGB.out).trans HA0.out; have p1 := (HF.out.cell (p := ⟨gb, ob + j * 6 + 1, none⟩) HGB.out).trans HA1.out; have p2 := (HF.out.cell (p := ⟨gb, ob + j * 6 + 2, none⟩) HGB.out).trans HA2.out; have p3 := (HF.out.cell (p := ⟨gb, ob + j * 6 + 3, none⟩) HGB.out).trans HA3.out; have p4 := (HF.out.cell (p := ⟨gb, ob + j * 6 + 4, none⟩) HGB.out).trans HA4.out; have p5 := (HF.out.cell (p := ⟨gb, ob + j * 6 + 5, none⟩) HGB.out).trans HA5.out; (simp only [Nat.add_zero] at p0)))
                have HF2 := hid (bdrew HF.out)
                have HR2 := hid HR.out.drew
                clear HF HR q0 q1 q2 q3 q4 p0 p1 p2 p3 p4 p5
                have HF := HF2
                have HR := HR2
                clear HF2 HR2
                have q0 := (HF.out.cell (p := ⟨ga, oa + k * 5 + 0, none⟩) HGA.out).trans HC0.out
                have q1 := (HF.out.cell (p := ⟨ga, oa + k * 5 + 1, none⟩) HGA.out).trans HC1.out
                have q2 := (HF.out.cell (p := ⟨ga, oa + k * 5 + 2, none⟩) HGA.out).trans HC2.out
                have q3 := (HF.out.cell (p := ⟨ga, oa + k * 5 + 3, none⟩) HGA.out).trans HC3.out
                have q4 := (HF.out.cell (p := ⟨ga, oa + k * 5 + 4, none⟩) HGA.out).trans HC4.out
                (simp only [Nat.add_zero] at q0)
                have p0 := (HF.out.cell (p := ⟨gb, ob + j * 6 + 0, none⟩) HGB.out).trans HA0.out
                have p1 := (HF.out.cell (p := ⟨gb, ob + j * 6 + 1, none⟩) HGB.out).trans HA1.out
                have p2 := (HF.out.cell (p := ⟨gb, ob + j * 6 + 2, none⟩) HGB.out).trans HA2.out
                have p3 := (HF.out.cell (p := ⟨gb, ob + j * 6 + 3, none⟩) HGB.out).trans HA3.out
                have p4 := (HF.out.cell (p := ⟨gb, ob + j * 6 + 4, none⟩) HGB.out).trans HA4.out
                have p5 := (HF.out.cell (p := ⟨gb, ob + j * 6 + 5, none⟩) HGB.out).trans HA5.out
                (simp only [Nat.add_zero] at p0)
                go_region_held3 (fun wx => wx.cell? ⟨ga, oa + k * 5, none⟩ = some (.int .u8 c) ∧ wx.cell? ⟨ga, oa + k * 5 + 1, none⟩ = some (.int .u32 t) ∧ wx.cell? ⟨ga, oa + k * 5 + 2, none⟩ = some (.int .u8 kk) ∧ wx.cell? ⟨ga, oa + k * 5 + 3, none⟩ = some (.int .u8 y) ∧ wx.cell? ⟨ga, oa + k * 5 + 4, none⟩ = some (.int .u16 v) ∧ wx.cell? ⟨gb, ob + j * 6, none⟩ = some (.int .u8 c') ∧ wx.cell? ⟨gb, ob + j * 6 + 1, none⟩ = some (.int .u32 t') ∧ wx.cell? ⟨gb, ob + j * 6 + 2, none⟩ = some (.int .u8 k') ∧ wx.cell? ⟨gb, ob + j * 6 + 3, none⟩ = some (.int .u8 y') ∧ wx.cell? ⟨gb, ob + j * 6 + 4, none⟩ = some (.int .u16 v')) (first | go_keep | exact ⟨q0, q1, q2, q3, q4, p0, p1, p2, p3, p4⟩) (fail)
                go_wp2
                go_roundw
                case rel => exact ⟨j + 1, by have := HJL.out; omega, by go_num, HZ2.out, HF.out⟩
                case measure => simp [intOf]; have := HJL.out; omega
              · have hXx2 : (X == x) = false := beq_eq_false_iff_ne.2 hXx
                have HZ2 := hid (show false = z from by have h := HS.out; rw [← HZF.out, hXx2] at h; exact h)
                go_wp2_with (first
                  | (go_at_call 33; (with_reducible refine (RNew_any HR.out c t kk y v HCC.out.1 true HNW.out).mono ?_); rintro e w3 ⟨rfl, f'⟩; clear q0 q1 q2 q3 q4; clear p0 p1 p2 p3 p4 p5; have n0_ := hid (HR.out.frm f' (fun h => h)); have n1_ := hid (below_frm0 HF.out f'); clear HR HF; have HR := n0_; clear n0_; have HF := n1_; clear n1_; clear f'; have q0 := (HF.out.cell (p := ⟨ga, oa + k * 5 + 0, none⟩) HGA.out).trans HC0.out; have q1 := (HF.out.cell (p := ⟨ga, oa + k * 5 + 1, none⟩) HGA.out).trans HC1.out; have q2 := (HF.out.cell (p := ⟨ga, oa + k * 5 + 2, none⟩) HGA.out).trans HC2.out; have q3 := (HF.out.cell (p := ⟨ga, oa + k * 5 + 3, none⟩) HGA.out).trans HC3.out; have q4 := (HF.out.cell (p := ⟨ga, oa + k * 5 + 4, none⟩) HGA.out).trans HC4.out; (simp only [Nat.add_zero] at q0); have p0 := (HF.out.cell (p := ⟨gb, ob + j * 6 + 0, none⟩) HGB.out).trans HA0.out; have p1 := (HF.out.cell (p := ⟨gb, ob + j * 6 + 1, none⟩) HGB.out).trans HA1.out; have p2 := (HF.out.cell (p := ⟨gb, ob + j * 6 + 2, none⟩) HGB.out).trans HA2.out; have p3 := (HF.out.cell (p := ⟨gb, ob + j * 6 + 3, none⟩) HGB.out).trans HA3.out; have p4 := (HF.out.cell (p := ⟨gb, ob + j * 6 + 4, none⟩) HGB.out).trans HA4.out; have p5 := (HF.out.cell (p := ⟨gb, ob + j * 6 + 5, none⟩) HGB.out).trans HA5.out; (simp only [Nat.add_zero] at p0))
                  | (go_at_call 26; (with_reducible refine (RApply_any HR.out c t kk y v HCC.out.1 HTT.out HYY.out.1 HVV.out X true vs2 cs2 HX.out).mono ?_); rintro e w4 ⟨rfl, h', f'⟩; clear q0 q1 q2 q3 q4; clear p0 p1 p2 p3 p4 p5; have n0_ := hid (below_frm1 HF.out f' HRB.out); clear HF; have HF := n0_; clear n0_; clear HR; have HR := hid h'; clear h' f'; have q0 := (HF.out.cell (p := ⟨ga, oa + k * 5 + 0, none⟩) HGA.out).trans HC0.out; have q1 := (HF.out.cell (p := ⟨ga, oa + k * 5 + 1, none⟩) HGA.out).trans HC1.out; have q2 := (HF.out.cell (p := ⟨ga, oa + k * 5 + 2, none⟩) HGA.out).trans HC2.out; have q3 := (HF.out.cell (p := ⟨ga, oa + k * 5 + 3, none⟩) HGA.out).trans HC3.out; have q4 := (HF.out.cell (p := ⟨ga, oa + k * 5 + 4, none⟩) HGA.out).trans HC4.out; (simp only [Nat.add_zero] at q0); have p0 := (HF.out.cell (p := ⟨gb, ob + j * 6 + 0, none⟩) HGB.out).trans HA0.out; have p1 := (HF.out.cell (p := ⟨gb, ob + j * 6 + 1, none⟩) HGB.out).trans HA1.out; have p2 := (HF.out.cell (p := ⟨gb, ob + j * 6 + 2, none⟩) HGB.out).trans HA2.out; have p3 := (HF.out.cell (p := ⟨gb, ob + j * 6 + 3, none⟩) HGB.out).trans HA3.out; have p4 := (HF.out.cell (p := ⟨gb, ob + j * 6 + 4, none⟩) HGB.out).trans HA4.out; have p5 := (HF.out.cell (p := ⟨gb, ob + j * 6 + 5, none⟩) HGB.out).trans HA5.out; (simp only [Nat.add_zero] at p0)))
                have HF2 := hid (bdrew HF.out)
                have HR2 := hid HR.out.drew
                clear HF HR q0 q1 q2 q3 q4 p0 p1 p2 p3 p4 p5
                have HF := HF2
                have HR := HR2
                clear HF2 HR2
                have q0 := (HF.out.cell (p := ⟨ga, oa + k * 5 + 0, none⟩) HGA.out).trans HC0.out
                have q1 := (HF.out.cell (p := ⟨ga, oa + k * 5 + 1, none⟩) HGA.out).trans HC1.out
                have q2 := (HF.out.cell (p := ⟨ga, oa + k * 5 + 2, none⟩) HGA.out).trans HC2.out
                have q3 := (HF.out.cell (p := ⟨ga, oa + k * 5 + 3, none⟩) HGA.out).trans HC3.out
                have q4 := (HF.out.cell (p := ⟨ga, oa + k * 5 + 4, none⟩) HGA.out).trans HC4.out
                (simp only [Nat.add_zero] at q0)
                have p0 := (HF.out.cell (p := ⟨gb, ob + j * 6 + 0, none⟩) HGB.out).trans HA0.out
                have p1 := (HF.out.cell (p := ⟨gb, ob + j * 6 + 1, none⟩) HGB.out).trans HA1.out
                have p2 := (HF.out.cell (p := ⟨gb, ob + j * 6 + 2, none⟩) HGB.out).trans HA2.out
                have p3 := (HF.out.cell (p := ⟨gb, ob + j * 6 + 3, none⟩) HGB.out).trans HA3.out
                have p4 := (HF.out.cell (p := ⟨gb, ob + j * 6 + 4, none⟩) HGB.out).trans HA4.out
                have p5 := (HF.out.cell (p := ⟨gb, ob + j * 6 + 5, none⟩) HGB.out).trans HA5.out
                (simp only [Nat.add_zero] at p0)
                go_region_held3 (fun wx => wx.cell? ⟨ga, oa + k * 5, none⟩ = some (.int .u8 c) ∧ wx.cell? ⟨ga, oa + k * 5 + 1, none⟩ = some (.int .u32 t) ∧ wx.cell? ⟨ga, oa + k * 5 + 2, none⟩ = some (.int .u8 kk) ∧ wx.cell? ⟨ga, oa + k * 5 + 3, none⟩ = some (.int .u8 y) ∧ wx.cell? ⟨ga, oa + k * 5 + 4, none⟩ = some (.int .u16 v) ∧ wx.cell? ⟨gb, ob + j * 6, none⟩ = some (.int .u8 c') ∧ wx.cell? ⟨gb, ob + j * 6 + 1, none⟩ = some (.int .u32 t') ∧ wx.cell? ⟨gb, ob + j * 6 + 2, none⟩ = some (.int .u8 k') ∧ wx.cell? ⟨gb, ob + j * 6 + 3, none⟩ = some (.int .u8 y') ∧ wx.cell? ⟨gb, ob + j * 6 + 4, none⟩ = some (.int .u16 v')) (first | go_keep | exact ⟨q0, q1, q2, q3, q4, p0, p1, p2, p3, p4⟩) (fail)
                go_wp2
                go_ret
                exact ⟨ret_bool HZ2.out, HF.out⟩
        · have hki : (N : Int) ≤ (k : Int) := by omega
          have HZF := hid (show false = e from by have h := HRZ.out; rw [List.drop_eq_nil_of_le (by rw [HN.out]; omega)] at h; exact h)
          have HZ2 := hid (show false = z from by have h := HS.out; rw [← HZF.out, Bool.false_and] at h; exact h)
          clear hlt hk HRZ
          go_wp2
          go_ret
          exact ⟨ret_bool HZ2.out, HF.out⟩
    · have hji : (A : Int) ≤ (j : Int) := by omega
      have HZF := hid (show true = z from by have h := HRZ.out; rw [List.drop_eq_nil_of_le (by rw [HA.out]; omega)] at h; exact h)
      clear hjl hj HRZ
      go_wp2
      go_ret
      exact ⟨ret_bool HZF.out, HFX.out⟩
end Go.Proofs.Ytljfbaakgjmmfaa
