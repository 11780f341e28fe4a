/- ServiceReads, walked: reading a key changes no value; what is told is what was put last. -/
import Derived.Test.YtaeonidjfmlbiaaSvcPure
namespace Go.Proofs.Ytaeonidjfmlbiaa
open Go.RowKit Go.ChangeShapes
set_option linter.unusedVariables false
set_option linter.unusedSimpArgs false
/-- At the loop's head. -/
structure Sr (w0 w : World) (b : Nat) (vs cs : List Int) (y want : Int) (k : Nat) : Prop where
  map : IsMap w b vs cs
  bel : Below w0.heap.size w0 w
  val : getV vs y = want
  t1 : getT cs 1 = k
  t2 : getT cs 2 = k
  hb : w0.heap.size ≤ b
theorem swrap32 (n : Int) : IntKind.u32.wrap n = n % 4294967296 := by simp [IntKind.wrap, IntKind.bits, IntKind.signed]
theorem setC_len {cs : List Int} (h : cs.length = 10) (i t r : Int) : (setC cs i t r).length = 10 := by
  unfold setC; split
  · rw [List.length_set, List.length_set]; exact h
  · exact h
theorem putV_len {vs : List Int} (h : vs.length = 64) (k v : Int) : (putV vs k v).length = 64 := by
  unfold putV; split
  · rw [List.length_set]; exact h
  · exact h
set_option maxRecDepth 100000 in
set_option maxHeartbeats 8000000 in
theorem ServiceReads_walk (a0 : Option Addr) (c0 : Nat) (z0 : List Int) (a1 : Option Addr) (c1 : Nat) (z1 : List Int) (key : Int) (w : World) (h0 : IsInts .u8 w a0 c0 z0) (h1 : IsInts .u16 w a1 c1 z1) (w2 : (Lit.int .u8 key).wf = true) :
    Calls Try.prog 3 #[.slice a0 z0.length c0, .slice a1 z1.length c1, .int .u8 key] w fun e w' => e = .returned (.bool true) ∧ Below w.heap.size w w' := by
  have hkey := bounds_u8 w2
  clear w2
  have hle := h0.le
  have hsm := h0.small
  have hle1 := h1.le
  have hsm1 := h1.small
  by_cases hlen : z0.length > 40
  · go_enter Try.func3, Try.ntmps3
    go_wp2_with (go_at_call 8; (with_reducible refine (known_calls _).mono ?_); rintro e w' ⟨rfl, f1⟩)
    go_ret
    exact ⟨rfl, f1⟩
  by_cases hlen1 : z1.length < z0.length
  · go_enter Try.func3, Try.ntmps3
    go_wp2_with (go_at_call 8; (with_reducible refine (known_calls _).mono ?_); rintro e w' ⟨rfl, f1⟩)
    go_ret
    exact ⟨rfl, f1⟩
  have H0 := hid h0; have H1 := hid h1; clear h0 h1
  have hy0 : 0 ≤ (key % 64) := by omega
  have hy1 : (key % 64) < 64 := by omega
  have HY0 := hid hy0
  go_enter Try.func3, Try.ntmps3
  go_wp2_with (first
    | (go_at_call 8; (with_reducible refine (known_calls _).mono ?_); rintro e w1 ⟨rfl, f1⟩; have HF := hid f1; clear f1)
    | (go_at_call 9; (with_reducible refine (PNew_calls _).mono ?_); rintro e w2 ⟨rfl, h', f'⟩; have HB := hid HF.out.size; have HM := hid h'; have n0_ := hid (below_next HF.out f'); clear HF; have HF := n0_; clear n0_; clear f' h'))
  have st0 : Sr w w2 w1.heap.size (List.replicate 64 0) (List.replicate 10 0) (key % 64) 0 0 := ⟨HM.out, HF.out, getV_zero _ _, getT_zero _ _, getT_zero _ _, HB.out⟩
  clear HM HF HB
  generalize w1.heap.size = b at *
  go_loopw [8, 10, 11] (fun wa ts i wr => ∃ (k : Nat) (vs cs : List Int) (want : Int), k ≤ z0.length ∧ wa = .int .u16 want ∧ ts = .int .u32 k ∧ i = .int .i64 k ∧ Sr w wr b vs cs (key % 64) want k) (fun _ _ i _ => z0.length - (intOf i).toNat)
  case atStart => exact ⟨0, _, _, 0, by omega, rfl, rfl, rfl, st0⟩
  case round =>
    clear st0
    obtain ⟨k, vs, cs, want, hk, rfl, rfl, rfl, hS⟩ := hrel
    have HS := hid hS; clear hS
    have hwb := getV_bd HS.out.map.bv (key % 64)
    rw [HS.out.val] at hwb
    by_cases hlt : k < z0.length
    · obtain ⟨ga, off, rfl, hga, hc⟩ := H0.out.at_ (by omega)
      obtain ⟨gc, ofc, rfl, hgc, hd⟩ := H1.out.at_ (by omega)
      have hcx := hc k hlt
      have hdx := hd k (by omega)
      have hwf : (Lit.int .u8 (z0.getD k 0)).wf = true := H0.out.wf _ (by rw [List.getD_eq_getElem?_getD, List.getElem?_eq_getElem hlt]; exact List.getElem_mem hlt)
      have hl1 : k < z1.length := by omega
      have hwf1 : (Lit.int .u16 (z1.getD k 0)).wf = true := H1.out.wf _ (by rw [List.getD_eq_getElem?_getD, List.getElem?_eq_getElem hl1]; exact List.getElem_mem hl1)
      generalize z0.getD k 0 = x0 at hcx hwf
      generalize z1.getD k 0 = v at hdx hwf1
      have hx0 := bounds_u8 hwf
      have hvb := bounds_u16 hwf1
      clear hc hd hwf hwf1
      obtain ⟨x, hx'⟩ : ∃ x, x0 % 64 = x := ⟨_, rfl⟩
      have hx0' : 0 ≤ x := by omega
      have hx1' : x < 64 := by omega
      have HX0 := hid hx0'
      have hkl : (k : Int) < (z0.length : Int) := by omega
      have hkl1 : (k : Int) < (z1.length : Int) := by omega
      have hk40 : (k : Int) ≤ 40 := by omega
      have HC0 := hid (fun (w' : World) (f : Below w.heap.size w w') => (f.cell (p := ⟨ga, off + k, none⟩) hga).trans hcx)
      have HC1 := hid (fun (w' : World) (f : Below w.heap.size w w') => (f.cell (p := ⟨gc, ofc + k, none⟩) hgc).trans hdx)
      clear hcx hdx
      have HM := hid HS.out.map
      have HF := hid HS.out.bel
      have HB := hid HS.out.hb
      have q0 := HC0.out _ HF.out
      have q1 := HC1.out _ HF.out
      obtain ⟨od, hod⟩ : ∃ od, getV vs x = od := ⟨_, rfl⟩
      have hodb := getV_bd HS.out.map.bv x
      rw [hod] at hodb
      have HG := hid hod
      have HVB := hid (show 0 ≤ v ∧ v ≤ 65535 from hvb)
      have HTB := hid (show 0 ≤ (k : Int) + 1 ∧ (k : Int) + 1 ≤ 4294967295 by omega)
      have e1 : IntKind.u32.wrap od = od := by rw [swrap32]; omega
      have e2 : IntKind.u32.wrap ((k : Int) + 1) = (k : Int) + 1 := by rw [swrap32]; omega
      have HN1 := hid (isNew_of (cs := cs) (c := 1) (t := (k : Int) + 1) (k := 1) (y := x) (v := v) (decide_eq_true (by omega)) (by rw [HS.out.t1]; omega))
      have HR1 := hid (show doesR 1 (getV vs x) v = od by rw [doesR_put, hod])
      have HZ1 := hid (show doesV 1 (getV vs x) v = v from doesV_put _ _)
      have HL := hid HS.out.map.lv
      have HLC := hid HS.out.map.lc
      obtain ⟨nw, hnw⟩ : ∃ nw, getV (putV vs x v) (key % 64) = nw := ⟨_, rfl⟩
      have HN2 := hid (isNew_of (cs := setC cs 1 ((k : Int) + 1) od) (c := 2) (t := (k : Int) + 1) (k := 2) (y := (key % 64)) (v := 0) (decide_eq_true (by omega)) (by rw [getT_set_ne (by decide) (by decide) (by decide), HS.out.t2]; omega))
      have HR2 := hid (show doesR 2 (getV (putV vs x v) (key % 64)) 0 = nw by rw [doesR_get, hnw])
      have HZ2 := hid (show doesV 2 (getV (putV vs x v) (key % 64)) 0 = nw by rw [doesV_get, hnw])
      have HE := hid (show getV (putV (putV vs x v) (key % 64) nw) (key % 64) = nw from getV_put_eq (putV_len HL.out _ _) hy0 hy1 nw)
      have HT1 := hid (show getT (setC (setC cs 1 ((k : Int) + 1) od) 2 ((k : Int) + 1) nw) 1 = ((k + 1 : Nat) : Int) by rw [getT_set_ne (by decide) (by decide) (by decide), getT_set_eq HLC.out (by decide) (by decide)]; omega)
      have HT2 := hid (show getT (setC (setC cs 1 ((k : Int) + 1) od) 2 ((k : Int) + 1) nw) 2 = ((k + 1 : Nat) : Int) by rw [getT_set_eq (setC_len HLC.out _ _ _) (by decide) (by decide)]; omega)
      by_cases hxy : x = (key % 64)
      · have hn : nw = v := by rw [← hnw, hxy]; exact getV_put_eq HL.out hy0 hy1 v
        clear hnw
        have qxy : (x == (key % 64)) = true := beq_iff_eq.2 hxy
        clear hxy
        subst hn
        have e3 : IntKind.u32.wrap nw = nw := by rw [swrap32]; omega
        clear hod
        go_wp2_with (first
          | (go_at_call 10; (with_reducible refine (PGet_calls HM.out x HX0.out od HG.out).mono ?_); rintro e w' ⟨rfl, rfl⟩; skip)
          | (go_at_call 11; (with_reducible refine (Apply_new HM.out 1 ((k : Int) + 1) 1 x _ (by decide) HTB.out HX0.out HVB.out HN1.out od _ HR1.out HZ1.out).mono ?_); rintro e w' ⟨rfl, h', f'⟩; have n0_ := hid (h'); have n1_ := hid (below_frm1 HF.out f' HB.out); clear HM HF; have HM := n0_; clear n0_; have HF := n1_; clear n1_; clear f' h' q0 q1; have q0 := HC0.out _ HF.out; have q1 := HC1.out _ HF.out)
          | (go_at_call 11; (with_reducible refine (Apply_new HM.out 2 ((k : Int) + 1) 2 _ 0 (by decide) HTB.out HY0.out (by decide) HN2.out nw nw HR2.out HZ2.out).mono ?_); rintro e w' ⟨rfl, h', f'⟩; have n0_ := hid (h'); have n1_ := hid (below_frm1 HF.out f' HB.out); clear HM HF; have HM := n0_; clear n0_; have HF := n1_; clear n1_; clear f' h' q0 q1; have q0 := HC0.out _ HF.out; have q1 := HC1.out _ HF.out))
        go_roundw
        case rel => exact ⟨k + 1, _, _, nw, by omega, rfl, by go_num, by go_num, ⟨HM.out, HF.out, HE.out, HT1.out, HT2.out, HB.out⟩⟩
        case measure => simp [intOf]; omega
      · have hn : nw = want := by rw [← hnw, getV_put_ne hx0' hy0 hxy]; exact HS.out.val
        have qxy : (x == (key % 64)) = false := beq_eq_false_iff_ne.2 hxy
        clear hnw hod
        subst hn
        have e3 : IntKind.u32.wrap nw = nw := by rw [swrap32]; omega
        go_wp2_with (first
          | (go_at_call 10; (with_reducible refine (PGet_calls HM.out x HX0.out od HG.out).mono ?_); rintro e w' ⟨rfl, rfl⟩; skip)
          | (go_at_call 11; (with_reducible refine (Apply_new HM.out 1 ((k : Int) + 1) 1 x _ (by decide) HTB.out HX0.out HVB.out HN1.out od _ HR1.out HZ1.out).mono ?_); rintro e w' ⟨rfl, h', f'⟩; have n0_ := hid (h'); have n1_ := hid (below_frm1 HF.out f' HB.out); clear HM HF; have HM := n0_; clear n0_; have HF := n1_; clear n1_; clear f' h' q0 q1; have q0 := HC0.out _ HF.out; have q1 := HC1.out _ HF.out)
          | (go_at_call 11; (with_reducible refine (Apply_new HM.out 2 ((k : Int) + 1) 2 _ 0 (by decide) HTB.out HY0.out (by decide) HN2.out nw nw HR2.out HZ2.out).mono ?_); rintro e w' ⟨rfl, h', f'⟩; have n0_ := hid (h'); have n1_ := hid (below_frm1 HF.out f' HB.out); clear HM HF; have HM := n0_; clear n0_; have HF := n1_; clear n1_; clear f' h' q0 q1; have q0 := HC0.out _ HF.out; have q1 := HC1.out _ HF.out))
        go_roundw
        case rel => exact ⟨k + 1, _, _, nw, by omega, rfl, by go_num, by go_num, ⟨HM.out, HF.out, HE.out, HT1.out, HT2.out, HB.out⟩⟩
        case measure => simp [intOf]; omega
    · have HM := hid HS.out.map
      have HF := hid HS.out.bel
      have HG := hid HS.out.val
      have HNN := hid (show isNew cs 3 1 2 (key % 64) 1 = false by rw [isNew, show isReal 3 1 2 (key % 64) 1 = false from decide_eq_false (by omega)]; rfl)
      have HSS := hid (show ¬ (isReal 3 1 2 (key % 64) 1 = true ∧ getT cs 3 = 1) by rw [show isReal 3 1 2 (key % 64) 1 = false from decide_eq_false (by omega)]; simp)
      go_wp2_with (first
        | (go_at_call 11; (with_reducible refine (Apply_none HM.out 3 1 2 (key % 64) 1 (by decide) HNN.out HSS.out).mono ?_); rintro e w' ⟨rfl, f'⟩; have n0_ := hid (HM.out.frm f' (fun h => h)); have n1_ := hid (below_frm0 HF.out f'); clear HM HF; have HM := n0_; clear n0_; have HF := n1_; clear n1_; clear f')
        | (go_at_call 10; (with_reducible refine (PGet_calls HM.out (key % 64) HY0.out want HG.out).mono ?_); rintro e w' ⟨rfl, rfl⟩; skip))
      go_ret
      exact ⟨rfl, HF.out⟩
end Go.Proofs.Ytaeonidjfmlbiaa
