/- Entries: who has something against them; what is empty. -/
import Derived.Test.YtipalebaaejfjaaDoorDcSaw
namespace Go.Proofs.YtipalebaaejfjaaDoor
open Go.RowKit Go.ChangeShapes
set_option linter.unusedVariables false
set_option linter.unusedSimpArgs false
set_option maxRecDepth 100000
/-- Does the one stand against the other? -/
def clash (e p : En) : Bool := p.s == e.s && (decide (e.v ≤ p.v) && !enE p e)
def alwB (x : Vm) (e : En) : Bool := decide (x.l < e.s) && !x.p.any (clash e)
set_option maxHeartbeats 16000000 in
theorem Alw_calls {w : World} {x : Vm} (hok : VmOk w x) (b : En) (z : Bool) (hz : alwB x b = z) :
    Calls Tryd.prog 27 #[.agg #[.int .u8 x.f, .int .u8 x.e, .int .u32 x.v, .int .u32 x.l, .slice x.ma x.ms.length x.mc, .slice x.pa x.p.length x.pc, .slice x.qa x.q.length x.qc], .agg #[.int .u32 b.s, .int .u32 b.v, .int .u8 b.c, .int .u32 b.t, .int .u8 b.k, .int .u8 b.y, .int .u16 b.x]] w fun e w' => e = .returned (.bool z) ∧ Frm (fun _ => False) w w' := by
  obtain ⟨f, ep, v, lo, ma, mc, ms, pa, pcc, p, qa, qc, q⟩ := x
  dsimp only
  have HP := hid hok.p
  obtain ⟨n, hn⟩ : ∃ n, p.length = n := ⟨_, rfl⟩
  have HN := hid hn
  have hnc : n ≤ pcc := hn ▸ hok.p.le
  have hpcs := hok.p.small
  rw [hn]
  obtain ⟨w2, hw2⟩ : ∃ w2, (w.alloc (.cells #[.int .u8 f, .int .u8 ep, .int .u32 v, .int .u32 lo, .slice ma ms.length mc, .slice pa n pcc, .slice qa q.length qc] TVo)).alloc (.cells (#[.int .u32 b.s, .int .u32 b.v, .int .u8 b.c, .int .u32 b.t, .int .u8 b.k, .int .u8 b.y, .int .u16 b.x]) TEn) = w2 := ⟨_, rfl⟩
  obtain ⟨vb, hvb⟩ : ∃ vb, w.heap.size = vb := ⟨_, rfl⟩
  obtain ⟨eb, heb⟩ : ∃ eb, w.heap.size + 1 = eb := ⟨_, rfl⟩
  have HF2 := hid (show Frm (fun _ => False) w w2 by rw [← hw2]; exact (dbox _ _).trans (dbox _ _))
  have HB2 := hid (show Blk w2 eb (enC b) TEn by rw [← hw2, ← heb]; exact two_boxes w [.int .u8 f, .int .u8 ep, .int .u32 v, .int .u32 lo, .slice ma ms.length mc, .slice pa n pcc, .slice qa q.length qc] (enC b) TVo TEn)
  have HW2 := hid hw2; have HVB := hid hvb; have HEB := hid heb
  clear hok hn hw2 hvb heb
  by_cases h1 : lo < b.s
  · have HZ := hid (show (!p.any (clash b)) = z by rw [← hz]; unfold alwB; rw [decide_eq_true h1]; rfl)
    clear hz
    go_enter Tryd.func27, Tryd.ntmps27
    go_wp2
    rw [HW2.out, HEB.out, HVB.out]
    clear HW2 HEB HVB
    go_loopw [15] (fun jv wr => ∃ j : Nat, j ≤ n ∧ jv = .int .i64 j ∧ (∀ i m, i < j → p[i]? = some m → clash b m = false) ∧ Frm (fun _ => False) w2 wr) (fun jv _ => n - (intOf jv).toNat)
    case atStart => exact ⟨0, by omega, rfl, fun i m h => by omega, Frm.refl _ _⟩
    case round =>
      obtain ⟨j, hj, rfl, hp, hf⟩ := hrel
      have HPR := hid hp; have HF := hid hf
      clear hp hf
      by_cases hlt : j < n
      · obtain ⟨gb, o, rfl, hgb, hc⟩ := (HP.out.quiet (HF2.out.trans HF.out)).at_ (by rw [HN.out]; omega)
        obtain ⟨x, hx⟩ : ∃ x, p[j]? = some x := ⟨_, List.getElem?_eq_getElem (by rw [HN.out]; exact hlt)⟩
        have HXM := hid (List.mem_of_getElem? hx)
        have c0 := hc j _ hx 0 (by decide); have c1 := hc j _ hx 1 (by decide); have c2 := hc j _ hx 2 (by decide); have c3 := hc j _ hx 3 (by decide); have c4 := hc j _ hx 4 (by decide); have c5 := hc j _ hx 5 (by decide); have c6 := hc j _ hx 6 (by decide)
        have HB := hid (HB2.out.frm HF.out (fun h => h))
        have b0 := HB.out.cell 0; have b1 := HB.out.cell 1; have b2 := HB.out.cell 2; have b3 := HB.out.cell 3; have b4 := HB.out.cell 4; have b5 := HB.out.cell 5; have b6 := HB.out.cell 6; have hbl := HB.out.lt
        simp only [enC, List.getElem?_cons_succ, List.getElem?_cons_zero, Nat.add_zero] at c0 c1 c2 c3 c4 c5 c6 b0 b1 b2 b3 b4 b5 b6
        have HX := hid hx; have HLT := hid hlt
        have hjl : (j : Int) < (n : Int) := by omega
        have hj0 : (0 : Int) ≤ (j : Int) := by omega
        clear hx hlt hc hj
        by_cases h2 : x.s = b.s
        · have e2 : (x.s == b.s) = true := beq_iff_eq.2 h2
          by_cases h3 : b.v ≤ x.v
          · cases hq : enE x b
            · have hnq := fun w => neq_en w x b false hq
              have HS := hid (show clash b x = true by unfold clash; rw [e2, decide_eq_true h3, hq]; rfl)
              clear hq h2
              have HT := hid (show false = z by rw [← HZ.out, List.any_eq_true.2 ⟨x, HXM.out, HS.out⟩]; rfl)
              go_wp2
              go_ret
              exact ⟨ret_bool HT.out, HF2.out.trans (HF.out.trans (dbox _ _))⟩
            · have hnq := fun w => neq_en w x b true hq
              have HT := hid (show clash b x = false by unfold clash; rw [hq, Bool.not_true, Bool.and_false, Bool.and_false])
              clear hq h2
              go_wp2
              go_roundw
              case rel => exact ⟨j + 1, by have := HLT.out; omega, by first | rfl | go_num, fun i m hi hm => by
                by_cases e : i = j
                · rw [e, HX.out] at hm; obtain rfl := Option.some.inj hm; exact HT.out
                · exact HPR.out i m (by omega) hm, HF.out.trans (dbox _ _)⟩
              case measure => have := HLT.out; simp [intOf]; omega
          · have HT := hid (show clash b x = false by unfold clash; rw [decide_eq_false h3, Bool.false_and, Bool.and_false])
            clear h2
            go_wp2
            go_roundw
            case rel => exact ⟨j + 1, by have := HLT.out; omega, by first | rfl | go_num, fun i m hi hm => by
              by_cases e : i = j
              · rw [e, HX.out] at hm; obtain rfl := Option.some.inj hm; exact HT.out
              · exact HPR.out i m (by omega) hm, HF.out.trans (dbox _ _)⟩
            case measure => have := HLT.out; simp [intOf]; omega
        · have e2 : (x.s == b.s) = false := beq_eq_false_iff_ne.2 h2
          have HT := hid (show clash b x = false by unfold clash; rw [e2, Bool.false_and])
          clear h2
          go_wp2
          go_roundw
          case rel => exact ⟨j + 1, by have := HLT.out; omega, by first | rfl | go_num, fun i m hi hm => by
            by_cases e : i = j
            · rw [e, HX.out] at hm; obtain rfl := Option.some.inj hm; exact HT.out
            · exact HPR.out i m (by omega) hm, HF.out.trans (dbox _ _)⟩
          case measure => have := HLT.out; simp [intOf]; omega
      · have HNO := hid (show p.any (clash b) = false from Bool.eq_false_iff.2 fun e => by
          obtain ⟨m, hm, h2⟩ := List.any_eq_true.1 e
          obtain ⟨i, hi⟩ := List.mem_iff_getElem?.1 hm
          have := (List.getElem?_eq_some_iff.1 hi).1
          rw [HPR.out i m (by rw [HN.out] at this; omega) hi] at h2
          exact absurd h2 (by decide))
        have HT := hid (show true = z by rw [← HZ.out, HNO.out]; rfl)
        have hjl : ¬ (j : Int) < (n : Int) := by omega
        clear hlt hj
        go_wp2
        go_ret
        exact ⟨ret_bool HT.out, HF2.out.trans HF.out⟩
  · have HT := hid (show false = z by rw [← hz]; unfold alwB; rw [decide_eq_false h1]; rfl)
    clear hz
    go_enter Tryd.func27, Tryd.ntmps27
    go_wp2
    go_ret
    exact ⟨ret_bool HT.out, (dbox _ _).trans (dbox _ _)⟩
theorem P1_calls {w : World} {x : Vm} (hok : VmOk w x) {eb : Nat} {b : En} (hb : Blk w eb (enC b) TEn) :
    Calls Tryd.prog 26 #[.agg #[.int .u8 x.f, .int .u8 x.e, .int .u32 x.v, .int .u32 x.l, .slice x.ma x.ms.length x.mc, .slice x.pa x.p.length x.pc, .slice x.qa x.q.length x.qc], .pointer (some ⟨eb, 0, none⟩)] w fun e w' => e = .returned (.bool (alwB x b)) ∧ Frm (fun _ => False) w w' := by
  have HR := hid hok
  have b0 := hb.cell 0; have b1 := hb.cell 1; have b2 := hb.cell 2; have b3 := hb.cell 3; have b4 := hb.cell 4; have b5 := hb.cell 5; have b6 := hb.cell 6; have hbl := hb.lt
  simp only [enC, List.getElem?_cons_succ, List.getElem?_cons_zero] at b0 b1 b2 b3 b4 b5 b6
  clear hok hb
  go_enter Tryd.func26, Tryd.ntmps26
  go_wp2_with (go_at_call 27; (with_reducible refine (Alw_calls (x := x) (HR.out.quiet (dbox _ _)) b _ rfl).mono ?_); rintro e w5 ⟨rfl, f'⟩; have HF := hid f'; clear f')
  go_ret
  exact ⟨rfl, (dbox _ _).trans HF.out⟩
theorem P2_calls {w : World} {x : Vm} (hok : VmOk w x) {eb : Nat} {b : En} (hb : Blk w eb (enC b) TEn) :
    Calls Tryd.prog 28 #[.agg #[.int .u8 x.f, .int .u8 x.e, .int .u32 x.v, .int .u32 x.l, .slice x.ma x.ms.length x.mc, .slice x.pa x.p.length x.pc, .slice x.qa x.q.length x.qc], .pointer (some ⟨eb, 0, none⟩)] w fun e w' => e = .returned (.bool (x.q.any (sawE b))) ∧ Frm (fun _ => False) w w' := by
  have HR := hid hok
  have b0 := hb.cell 0; have b1 := hb.cell 1; have b2 := hb.cell 2; have b3 := hb.cell 3; have b4 := hb.cell 4; have b5 := hb.cell 5; have b6 := hb.cell 6; have hbl := hb.lt
  simp only [enC, List.getElem?_cons_succ, List.getElem?_cons_zero] at b0 b1 b2 b3 b4 b5 b6
  clear hok hb
  go_enter Tryd.func28, Tryd.ntmps28
  go_wp2_with (go_at_call 29; (with_reducible refine (Saw_calls (x := x) (HR.out.quiet (dbox _ _)) b _ rfl).mono ?_); rintro e w5 ⟨rfl, f'⟩; have HF := hid f'; clear f')
  go_ret
  exact ⟨rfl, (dbox _ _).trans HF.out⟩
theorem enter_p1 (vs : Array Value) (w : World) : Sem.run Tryd.prog (callFunc 26 vs) w = .ok (.enter 26 vs) w := by kernel_rfl
theorem enter_p2 (vs : Array Value) (w : World) : Sem.run Tryd.prog (callFunc 28 vs) w = .ok (.enter 28 vs) w := by kernel_rfl
/-- How many have nothing against an entry; how many saw it. -/
def alwC (l : List Vm) (e : En) : Nat := cnt (fun x => alwB x e) l
def sawC (l : List Vm) (e : En) : Nat := cnt (fun x => x.q.any (sawE e)) l
theorem alwM_calls {w : World} {a : Option Addr} {cap L : Nat} {l : List Vm} (h : IsRow 7 vmC w a cap l) (hL : l.length = L) (hok : ∀ x ∈ l, VmOk w x) {eb : Nat} {b : En} (hb : Blk w eb (enC b) TEn) (k : Int) (hk : (alwC l b : Int) = k) :
    Calls Tryd.prog 22 #[.slice a L cap, .func (.func 26) #[] #[.pointer (some ⟨eb, 0, none⟩)]] w fun e w' => e = .returned (.int .i64 k) ∧ Frm (fun _ => False) w w' := by
  subst hL
  exact many_calls h _ enter_p1 _ (fun x => alwB x b) (fun w' x f hx => P1_calls ((hok x hx).quiet f) (hb.frm f (fun h => h))) k hk
theorem sawM_calls {w : World} {a : Option Addr} {cap L : Nat} {l : List Vm} (h : IsRow 7 vmC w a cap l) (hL : l.length = L) (hok : ∀ x ∈ l, VmOk w x) {eb : Nat} {b : En} (hb : Blk w eb (enC b) TEn) (k : Int) (hk : (sawC l b : Int) = k) :
    Calls Tryd.prog 22 #[.slice a L cap, .func (.func 28) #[] #[.pointer (some ⟨eb, 0, none⟩)]] w fun e w' => e = .returned (.int .i64 k) ∧ Frm (fun _ => False) w w' := by
  subst hL
  exact many_calls h _ enter_p2 _ (fun x => x.q.any (sawE b)) (fun w' x f hx => P2_calls ((hok x hx).quiet f) (hb.frm f (fun h => h))) k hk
/-- An int of one's own. -/
theorem E11_calls {w : World} {x : En} {sb : Nat} {s : Int} (hb : Blk w sb [.int .u32 s] 22) :
    Calls Tryd.prog 36 #[.agg #[.int .u32 x.s, .int .u32 x.v, .int .u8 x.c, .int .u32 x.t, .int .u8 x.k, .int .u8 x.y, .int .u16 x.x], .pointer (some ⟨sb, 0, none⟩)] w fun e w' => e = .returned (.bool (x.s == s)) ∧ Frm (fun _ => False) w w' := by
  have b0 := hb.cell 0; have hbl := hb.lt
  simp only [List.getElem?_cons_zero] at b0
  clear hb
  obtain ⟨z, hz⟩ : ∃ z, (x.s == s) = z := ⟨_, rfl⟩
  have HZ := hid hz
  go_enter Tryd.func36, Tryd.ntmps36
  go_wp2
  go_ret
  exact ⟨by first | rfl | exact ret_bool HZ.out.symm, dbox _ _⟩
theorem enter_e11 (vs : Array Value) (w : World) : Sem.run Tryd.prog (callFunc 36 vs) w = .ok (.enter 36 vs) w := by kernel_rfl
/-- Has a vote nothing at a place? -/
def empB (s : Int) (x : Vm) : Bool := decide (x.l < s) && !x.p.any (fun e => e.s == s)
theorem E1_calls {w : World} {x : Vm} (hok : VmOk w x) {sb : Nat} {s : Int} (hb : Blk w sb [.int .u32 s] 22) :
    Calls Tryd.prog 34 #[.agg #[.int .u8 x.f, .int .u8 x.e, .int .u32 x.v, .int .u32 x.l, .slice x.ma x.ms.length x.mc, .slice x.pa x.p.length x.pc, .slice x.qa x.q.length x.qc], .pointer (some ⟨sb, 0, none⟩)] w fun e w' => e = .returned (.bool (empB s x)) ∧ Frm (fun _ => False) w w' := by
  have HR := hid hok; have HB := hid hb
  have b0 := hb.cell 0; have hbl := hb.lt
  simp only [List.getElem?_cons_zero] at b0
  clear hok hb
  by_cases h1 : x.l < s
  · obtain ⟨z, hz⟩ : ∃ z, x.p.any (fun e => e.s == s) = z := ⟨_, rfl⟩
    have HZ := hid hz
    have HT := hid (show (!z) = empB s x by unfold empB; rw [decide_eq_true h1, hz]; rfl)
    clear hz
    go_enter Tryd.func34, Tryd.ntmps34
    go_wp2_with (go_at_call 35; (with_reducible refine (ConE_calls (l := x.p) (HR.out.p.quiet (dbox _ _)) _ enter_e11 _ (fun e => e.s == s) (fun w' y f _ => E11_calls ((HB.out.frm (dbox _ _) (fun h => h)).frm f (fun h => h))) z HZ.out).mono ?_); rintro e w5 ⟨rfl, f'⟩; have HF := hid f'; clear f')
    go_ret
    exact ⟨ret_bool HT.out, (dbox _ _).trans HF.out⟩
  · have HT := hid (show false = empB s x by unfold empB; rw [decide_eq_false h1]; rfl)
    go_enter Tryd.func34, Tryd.ntmps34
    go_wp2
    go_ret
    exact ⟨ret_bool HT.out, dbox _ _⟩
theorem enter_e1 (vs : Array Value) (w : World) : Sem.run Tryd.prog (callFunc 34 vs) w = .ok (.enter 34 vs) w := by kernel_rfl
def emptyR (l : List Vm) (s : Int) : Bool := decide (3 ≤ cnt (empB s) l)
theorem empM_calls {w : World} {a : Option Addr} {cap L : Nat} {l : List Vm} (h : IsRow 7 vmC w a cap l) (hL : l.length = L) (hok : ∀ x ∈ l, VmOk w x) {sb : Nat} {s : Int} (hb : Blk w sb [.int .u32 s] 22) (k : Int) (hk : (cnt (empB s) l : Int) = k) :
    Calls Tryd.prog 22 #[.slice a L cap, .func (.func 34) #[] #[.pointer (some ⟨sb, 0, none⟩)]] w fun e w' => e = .returned (.int .i64 k) ∧ Frm (fun _ => False) w w' := by
  subst hL
  exact many_calls h _ enter_e1 _ (empB s) (fun w' x f hx => E1_calls ((hok x hx).quiet f) (hb.frm f (fun h => h))) k hk
theorem Empty_calls {w : World} {a : Option Addr} {cap L : Nat} {l : List Vm} (h : IsRow 7 vmC w a cap l) (hL : l.length = L) (hok : ∀ x ∈ l, VmOk w x) (s : Int) (z : Bool) (hz : emptyR l s = z) :
    Calls Tryd.prog 19 #[.slice a L cap, .int .u32 s] w fun e w' => e = .returned (.bool z) ∧ Frm (fun _ => False) w w' := by
  have HR := hid h; have HL := hid hL; have HOK := hid hok
  have HB := hid (show Blk (w.alloc (.cells #[.int .u32 s] 22)) w.heap.size [.int .u32 s] 22 from Blk.new w [.int .u32 s] 22)
  obtain ⟨k, hk⟩ : ∃ k : Int, (cnt (empB s) l : Int) = k := ⟨_, rfl⟩
  have HK := hid hk
  by_cases h3 : k < 3
  · have HT := hid (show false = z by rw [← hz]; unfold emptyR; rw [decide_eq_false (by omega)])
    clear h hL hok hk hz
    go_enter Tryd.func19, Tryd.ntmps19
    go_wp2_with (go_at_call 22; (with_reducible refine (empM_calls (HR.out.quiet (dbox _ _)) HL.out (fun x hx => (HOK.out x hx).quiet (dbox _ _)) HB.out k HK.out).mono ?_); rintro e w5 ⟨rfl, f'⟩; have HF := hid f'; clear f')
    go_ret
    exact ⟨ret_bool (by first | exact HT.out | (rw [decide_eq_false (by omega)]; exact HT.out)), (dbox _ _).trans HF.out⟩
  · have HT := hid (show true = z by rw [← hz]; unfold emptyR; rw [decide_eq_true (by omega)])
    have h3' : 3 ≤ k := by omega
    clear h hL hok hk hz
    go_enter Tryd.func19, Tryd.ntmps19
    go_wp2_with (go_at_call 22; (with_reducible refine (empM_calls (HR.out.quiet (dbox _ _)) HL.out (fun x hx => (HOK.out x hx).quiet (dbox _ _)) HB.out k HK.out).mono ?_); rintro e w5 ⟨rfl, f'⟩; have HF := hid f'; clear f')
    go_ret
    exact ⟨ret_bool HT.out, (dbox _ _).trans HF.out⟩
end Go.Proofs.YtipalebaaejfjaaDoor
