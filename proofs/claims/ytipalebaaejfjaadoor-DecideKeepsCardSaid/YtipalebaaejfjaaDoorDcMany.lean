/- How many votes are so. -/
import Derived.Test.YtipalebaaejfjaaDoorDcVts
import Derived.Deep.QuietTactic
namespace Go.Proofs.YtipalebaaejfjaaDoor
open Go.RowKit Go.ChangeShapes
set_option linter.unusedVariables false
set_option linter.unusedSimpArgs false
set_option maxRecDepth 100000
/-- How many are so. -/
def cnt (p : Vm → Bool) (l : List Vm) : Nat := (l.filter p).length
theorem cnt_take (p : Vm → Bool) {l : List Vm} {j : Nat} {x : Vm} (hx : l[j]? = some x) : cnt p (l.take (j + 1)) = cnt p (l.take j) + (if p x = true then 1 else 0) := by
  unfold cnt
  rw [List.take_add_one, hx, List.filter_append, List.length_append]
  by_cases e : p x = true
  · simp [e]
  · simp [e]
theorem cnt_le (p : Vm → Bool) (l : List Vm) : cnt p l ≤ l.length := List.length_filter_le _ _
set_option maxHeartbeats 8000000 in
theorem many_calls {w : World} {a : Option Addr} {cap : Nat} {l : List Vm} (h : IsRow 7 vmC w a cap l) (g : Nat) (hg : ∀ (vs : Array Value) (w' : World), Sem.run Tryd.prog (callFunc g vs) w' = .ok (.enter g vs) w') (c : Value) (p : Vm → Bool) (hc : ∀ (w' : World) (x : Vm), Frm (fun _ => False) w w' → x ∈ l → Calls Tryd.prog g #[.agg #[.int .u8 x.f, .int .u8 x.e, .int .u32 x.v, .int .u32 x.l, .slice x.ma x.ms.length x.mc, .slice x.pa x.p.length x.pc, .slice x.qa x.q.length x.qc], c] w' fun e w'' => e = .returned (.bool (p x)) ∧ Frm (fun _ => False) w' w'') (k : Int) (hk : (cnt p l : Int) = k) :
    Calls Tryd.prog 22 #[.slice a l.length cap, .func (.func g) #[] #[c]] w fun e w' => e = .returned (.int .i64 k) ∧ Frm (fun _ => False) w w' := by
  obtain ⟨L, hL⟩ : ∃ L, l.length = L := ⟨_, rfl⟩
  have HL := hid hL; have HK := hid hk; have HR := hid h; have HC := hid hc; have HG := hid hg
  have hlc : L ≤ cap := hL ▸ h.le
  have hcs := h.small
  rw [hL]
  clear h hk hc hL hg
  go_enter Tryd.func22, Tryd.ntmps22
  go_wp2
  go_loopw [5, 10] (fun nv jv wr => ∃ j : Nat, j ≤ L ∧ jv = .int .i64 j ∧ nv = .int .i64 (cnt p (l.take j) : Nat) ∧ Frm (fun _ => False) w wr) (fun _ jv _ => L - (intOf jv).toNat)
  case atStart => exact ⟨0, by omega, rfl, rfl, Frm.refl _ _⟩
  case round =>
    obtain ⟨j, hj, rfl, rfl, hf⟩ := hrel
    have HFw := hid hf
    clear hf
    obtain ⟨n, hn⟩ : ∃ n, cnt p (l.take j) = n := ⟨_, rfl⟩
    have HN := hid hn
    rw [hn]
    clear hn
    by_cases hlt : j < L
    · obtain ⟨gb, o, rfl, hg, hc⟩ := (HR.out.quiet HFw.out).at_ (by rw [HL.out]; omega)
      obtain ⟨x, hx⟩ : ∃ x, l[j]? = some x := ⟨_, List.getElem?_eq_getElem (by rw [HL.out]; exact hlt)⟩
      have HXM := hid (List.mem_of_getElem? hx)
      have c0 := hc j _ hx 0 (by decide); have c1 := hc j _ hx 1 (by decide); have c2 := hc j _ hx 2 (by decide); have c3 := hc j _ hx 3 (by decide); have c4 := hc j _ hx 4 (by decide); have c5 := hc j _ hx 5 (by decide); have c6 := hc j _ hx 6 (by decide)
      simp only [vmC, List.getElem?_cons_succ, List.getElem?_cons_zero, Nat.add_zero] at c0 c1 c2 c3 c4 c5 c6
      have HX := hid hx; have HLT := hid hlt
      have hjl : (j : Int) < (L : Int) := by omega
      have hj0 : (0 : Int) ≤ (j : Int) := by omega
      have hnj : n ≤ j := by have := cnt_le p (l.take j); rw [HN.out, List.length_take] at this; omega
      have hn0 : (0 : Int) ≤ (n : Int) := by omega
      have hnw : IntKind.i64.wrap ((n : Int) + 1) = ((n + 1 : Nat) : Int) := by simp [IntKind.wrap, IntKind.bits, IntKind.signed]; omega
      clear hx hlt hj hc hnj
      obtain ⟨z, hz⟩ : ∃ z, p x = z := ⟨_, rfl⟩
      have HZ := hid hz
      clear hz
      cases z
      · go_wp2
        rw [HG.out]
        unfold Oper.upon
        dsimp only
        with_reducible refine (HC.out _ x (HFw.out.trans (dbox _ _)) HXM.out).mono ?_
        rintro e w5 ⟨rfl, f'⟩
        have HF := hid ((HFw.out.trans (dbox _ _)).trans f')
        clear f'
        rw [HZ.out]
        go_wp2
        go_roundw
        case rel => exact ⟨j + 1, by have := HLT.out; omega, by first | rfl | go_num, by rw [cnt_take p HX.out, HN.out, HZ.out]; rfl, HF.out⟩
        case measure => have := HLT.out; simp [intOf]; omega
      · go_wp2
        rw [HG.out]
        unfold Oper.upon
        dsimp only
        with_reducible refine (HC.out _ x (HFw.out.trans (dbox _ _)) HXM.out).mono ?_
        rintro e w5 ⟨rfl, f'⟩
        have HF := hid ((HFw.out.trans (dbox _ _)).trans f')
        clear f'
        rw [HZ.out]
        go_wp2
        go_roundw
        case rel => exact ⟨j + 1, by have := HLT.out; omega, by first | rfl | go_num, by rw [cnt_take p HX.out, HN.out, HZ.out]; first | rfl | exact congrArg _ hnw, HF.out⟩
        case measure => have := HLT.out; simp [intOf]; omega
    · have hje : j = L := by omega
      subst hje
      have HT := hid (show (n : Int) = k by rw [← HK.out, ← HN.out, ← HL.out, List.take_length])
      clear hlt hj
      go_wp2
      go_ret
      exact ⟨ret_int HT.out, HFw.out⟩
theorem frm_drewN (w : World) (n : Nat) : Frm (fun _ => False) w (w.drewN n) := (Frm.refl _ _).drewN n
abbrev DMk : Nat := 32
theorem eql_dm (w : World) (s r s' r' : Int) (z : Bool) (hz : (s == s' && r == r') = z) : (binOp .eql DMk (.agg #[.int .u32 s, .int .u64 r]) (.agg #[.int .u32 s', .int .u64 r'])).run Tryd.prog w = .ok (.bool z) w := by
  subst hz
  go_simp
  repeat' split
  all_goals simp_all
/-- Is this mark there? -/
def hasB (s r : Int) (l : List Mk) : Bool := l.any fun k => s == k.1 && r == k.2
theorem hasB_yes {s r : Int} {l : List Mk} {j : Nat} {x : Mk} (hx : l[j]? = some x) (hz : (s == x.1 && r == x.2) = true) : hasB s r l = true := List.any_eq_true.2 ⟨x, List.mem_of_getElem? hx, hz⟩
theorem hasB_no {s r : Int} {l : List Mk} (h : ∀ i m, i < l.length → l[i]? = some m → (s == m.1 && r == m.2) = false) : hasB s r l = false := by
  refine Bool.eq_false_iff.2 fun e => ?_
  obtain ⟨m, hm, h2⟩ := List.any_eq_true.1 e
  obtain ⟨j, hj⟩ := List.mem_iff_getElem?.1 hm
  rw [h j m (List.getElem?_eq_some_iff.1 hj).1 hj] at h2
  exact absurd h2 (by decide)
set_option maxHeartbeats 8000000 in
theorem IdxM_calls {w : World} {a : Option Addr} {cap : Nat} {l : List Mk} (h : IsRow 2 mkC w a cap l) (s r : Int) :
    Calls Tryd.prog 37 #[.slice a l.length cap, .agg #[.int .u32 s, .int .u64 r]] w fun e w' => (∃ z : Int, e = .returned (.int .i64 z) ∧ decide (0 ≤ z) = hasB s r l) ∧ Frm (fun _ => False) w w' := by
  obtain ⟨L, hL⟩ : ∃ L, l.length = L := ⟨_, rfl⟩
  have HL := hid hL; have HR := hid h
  have hlc : L ≤ cap := hL ▸ h.le
  have hcs := h.small
  rw [hL]
  obtain ⟨nb, hnb⟩ : ∃ nb, w.heap.size = nb := ⟨_, rfl⟩
  have HNB := hid hnb
  obtain ⟨w0, hw0⟩ : ∃ w0, w.alloc (.cells #[.int .u32 s, .int .u64 r] DMk) = w0 := ⟨_, rfl⟩
  have HB := hid (show Blk w0 nb [.int .u32 s, .int .u64 r] DMk by rw [← hw0, ← hnb]; exact Blk.new w [.int .u32 s, .int .u64 r] DMk)
  have HF0 := hid (show Frm (fun _ => False) w w0 by rw [← hw0]; exact dbox _ _)
  clear h hL
  go_enter Tryd.func37, Tryd.ntmps37
  go_wp2
  try rw [hw0, hnb]
  clear hw0 hnb
  go_loopw [8] (fun jv wr => ∃ j : Nat, j ≤ L ∧ jv = .int .i64 j ∧ (∀ i m, i < j → l[i]? = some m → (s == m.1 && r == m.2) = false) ∧ Frm (fun _ => False) w0 wr) (fun jv _ => L - (intOf jv).toNat)
  case atStart => exact ⟨0, by omega, rfl, fun i m h => by omega, Frm.refl _ _⟩
  case round =>
    obtain ⟨j, hj, rfl, hp, hf⟩ := hrel
    have HP := hid hp; have HF := hid hf
    clear hp hf
    by_cases hlt : j < L
    · obtain ⟨g, o, rfl, hg, hc⟩ := (HR.out.quiet (HF0.out.trans HF.out)).at_ (by rw [HL.out]; omega)
      obtain ⟨x, hx⟩ : ∃ x, l[j]? = some x := ⟨_, List.getElem?_eq_getElem (by rw [HL.out]; exact hlt)⟩
      have c0 := hc j _ hx 0 (by decide); have c1 := hc j _ hx 1 (by decide)
      have b0 := (HB.out.frm HF.out (fun h => h)).cell 0; have b1 := (HB.out.frm HF.out (fun h => h)).cell 1
      simp only [mkC, List.getElem?_cons_succ, List.getElem?_cons_zero, Nat.add_zero] at c0 c1 b0 b1
      have HX := hid hx; have HLT := hid hlt
      have hjl : (j : Int) < (L : Int) := by omega
      have hj0 : (0 : Int) ≤ (j : Int) := by omega
      obtain ⟨xs, xr⟩ := x
      dsimp only at c0 c1
      obtain ⟨z, hz⟩ : ∃ z, (s == xs && r == xr) = z := ⟨_, rfl⟩
      have HZ := hid hz
      have heq := fun w => eql_dm w s r xs xr z hz
      clear hx hlt hc hj hz
      cases z
      · go_wp2
        go_quiet (fail)
        go_wp2
        go_roundw
        case rel => exact ⟨j + 1, by have := HLT.out; omega, by first | rfl | go_num, fun i m hi hm => by
          by_cases e : i = j
          · rw [e, HX.out] at hm; obtain rfl := Option.some.inj hm; exact HZ.out
          · exact HP.out i m (by omega) hm, HF.out.trans (frm_drewN _ _)⟩
        case measure => have := HLT.out; simp [intOf]; omega
      · go_wp2
        go_quiet (fail)
        go_wp2
        go_ret
        exact ⟨⟨_, rfl, by rw [hasB_yes HX.out HZ.out]; exact decide_eq_true hj0⟩, HF0.out.trans (HF.out.trans (frm_drewN _ _))⟩
    · have HNO := hid (hasB_no (l := l) fun i m hi hm => HP.out i m (by rw [HL.out] at hi; omega) hm)
      have hjl : ¬ (j : Int) < (L : Int) := by omega
      clear hlt hj
      go_wp2
      go_ret
      exact ⟨⟨_, rfl, by rw [HNO.out]; rfl⟩, HF0.out.trans HF.out⟩
end Go.Proofs.YtipalebaaejfjaaDoor
