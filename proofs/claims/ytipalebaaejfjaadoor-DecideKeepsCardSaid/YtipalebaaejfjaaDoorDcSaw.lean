/- Entries: who saw them. -/
import Derived.Test.YtipalebaaejfjaaDoorDcBase
namespace Go.Proofs.YtipalebaaejfjaaDoor
open Go.RowKit Go.ChangeShapes
set_option linter.unusedVariables false
set_option linter.unusedSimpArgs false
set_option maxRecDepth 100000
set_option maxHeartbeats 8000000 in
theorem IdxE_calls {w : World} {a : Option Addr} {cap : Nat} {l : List En} (h : IsRow 7 enC w a cap l) (g : Nat) (hg : ∀ (vs : Array Value) (w' : World), Sem.run Tryd.prog (callFunc g vs) w' = .ok (.enter g vs) w') (c : Value) (p : En → Bool) (hc : ∀ (w' : World) (x : En), Frm (fun _ => False) w w' → x ∈ l → Calls Tryd.prog g #[.agg #[.int .u32 x.s, .int .u32 x.v, .int .u8 x.c, .int .u32 x.t, .int .u8 x.k, .int .u8 x.y, .int .u16 x.x], c] w' fun e w'' => e = .returned (.bool (p x)) ∧ Frm (fun _ => False) w' w'') :
    Calls Tryd.prog 46 #[.slice a l.length cap, .func (.func g) #[] #[c]] w fun e w' => (∃ z : Int, e = .returned (.int .i64 z) ∧ decide (0 ≤ z) = l.any p) ∧ Frm (fun _ => False) w w' := by
  obtain ⟨L, hL⟩ : ∃ L, l.length = L := ⟨_, rfl⟩
  have HL := hid hL; have HR := hid h; have HC := hid hc; have HG := hid hg
  have hlc : L ≤ cap := hL ▸ h.le
  have hcs := h.small
  rw [hL]
  clear h hc hL hg
  go_enter Tryd.func46, Tryd.ntmps46
  go_wp2
  go_loopw [8] (fun jv wr => ∃ j : Nat, j ≤ L ∧ jv = .int .i64 j ∧ (∀ i m, i < j → l[i]? = some m → p m = false) ∧ Frm (fun _ => False) w wr) (fun jv _ => L - (intOf jv).toNat)
  case atStart => exact ⟨0, by omega, rfl, fun i m h => by omega, Frm.refl _ _⟩
  case round =>
    obtain ⟨j, hj, rfl, hp, hf⟩ := hrel
    have HP := hid hp; have HF := hid hf
    clear hp hf
    by_cases hlt : j < L
    · obtain ⟨gb, o, rfl, hgb, hc⟩ := (HR.out.quiet HF.out).at_ (by rw [HL.out]; omega)
      obtain ⟨x, hx⟩ : ∃ x, l[j]? = some x := ⟨_, List.getElem?_eq_getElem (by rw [HL.out]; exact hlt)⟩
      have HXM := hid (List.mem_of_getElem? hx)
      have c0 := hc j _ hx 0 (by decide); have c1 := hc j _ hx 1 (by decide); have c2 := hc j _ hx 2 (by decide); have c3 := hc j _ hx 3 (by decide); have c4 := hc j _ hx 4 (by decide); have c5 := hc j _ hx 5 (by decide); have c6 := hc j _ hx 6 (by decide)
      simp only [enC, List.getElem?_cons_succ, List.getElem?_cons_zero, Nat.add_zero] at c0 c1 c2 c3 c4 c5 c6
      have HX := hid hx; have HLT := hid hlt
      have hjl : (j : Int) < (L : Int) := by omega
      have hj0 : (0 : Int) ≤ (j : Int) := by omega
      clear hx hlt hc hj
      obtain ⟨z, hz⟩ : ∃ z, p x = z := ⟨_, rfl⟩
      have HZ := hid hz
      clear hz
      cases z
      · go_wp2
        rw [HG.out]
        unfold Oper.upon
        dsimp only
        with_reducible refine (HC.out _ x HF.out HXM.out).mono ?_
        rintro e w5 ⟨rfl, f'⟩
        have HF2 := hid (HF.out.trans f')
        clear f'
        rw [HZ.out]
        go_wp2
        go_roundw
        case rel => exact ⟨j + 1, by have := HLT.out; omega, by first | rfl | go_num, fun i m hi hm => by
          by_cases e : i = j
          · rw [e, HX.out] at hm; obtain rfl := Option.some.inj hm; exact HZ.out
          · exact HP.out i m (by omega) hm, HF2.out⟩
        case measure => have := HLT.out; simp [intOf]; omega
      · go_wp2
        rw [HG.out]
        unfold Oper.upon
        dsimp only
        with_reducible refine (HC.out _ x HF.out HXM.out).mono ?_
        rintro e w5 ⟨rfl, f'⟩
        have HF2 := hid (HF.out.trans f')
        clear f'
        rw [HZ.out]
        go_wp2
        go_ret
        exact ⟨⟨_, rfl, by rw [List.any_eq_true.2 ⟨x, HXM.out, HZ.out⟩]; exact decide_eq_true hj0⟩, HF2.out⟩
    · have HNO := hid (show l.any p = false from Bool.eq_false_iff.2 fun e => by
        obtain ⟨m, hm, h2⟩ := List.any_eq_true.1 e
        obtain ⟨i, hi⟩ := List.mem_iff_getElem?.1 hm
        have := (List.getElem?_eq_some_iff.1 hi).1
        rw [HP.out i m (by rw [HL.out] at this; omega) hi] at h2
        exact absurd h2 (by decide))
      have hjl : ¬ (j : Int) < (L : Int) := by omega
      clear hlt hj
      go_wp2
      go_ret
      exact ⟨⟨_, rfl, by rw [HNO.out]; rfl⟩, HF.out⟩
theorem ConE_calls {w : World} {a : Option Addr} {cap : Nat} {l : List En} (h : IsRow 7 enC w a cap l) (g : Nat) (hg : ∀ (vs : Array Value) (w' : World), Sem.run Tryd.prog (callFunc g vs) w' = .ok (.enter g vs) w') (c : Value) (p : En → Bool) (hc : ∀ (w' : World) (x : En), Frm (fun _ => False) w w' → x ∈ l → Calls Tryd.prog g #[.agg #[.int .u32 x.s, .int .u32 x.v, .int .u8 x.c, .int .u32 x.t, .int .u8 x.k, .int .u8 x.y, .int .u16 x.x], c] w' fun e w'' => e = .returned (.bool (p x)) ∧ Frm (fun _ => False) w' w'') (z : Bool) (hz : l.any p = z) :
    Calls Tryd.prog 35 #[.slice a l.length cap, .func (.func g) #[] #[c]] w fun e w' => e = .returned (.bool z) ∧ Frm (fun _ => False) w w' := by
  have HO := hid h; have HG := hid hg; have HC := hid hc; have HZ := hid hz
  clear h hg hc hz
  go_enter Tryd.func35, Tryd.ntmps35
  go_wp2_with (go_at_call 46; (with_reducible refine (IdxE_calls HO.out g HG.out c p HC.out).mono ?_); rintro e w5 ⟨⟨y, rfl, hy⟩, f'⟩; have HY := hid hy; have HF := hid f'; clear hy f')
  go_ret
  exact ⟨ret_bool (HY.out.trans HZ.out), HF.out⟩
abbrev TRe : Nat := 39
theorem eql_re (w : World) (c t k y v c' t' k' y' v' : Int) (z : Bool) (hz : (c == c' && (t == t' && (k == k' && (y == y' && v == v')))) = z) : (binOp .eql TRe (.agg #[.int .u8 c, .int .u32 t, .int .u8 k, .int .u8 y, .int .u16 v]) (.agg #[.int .u8 c', .int .u32 t', .int .u8 k', .int .u8 y', .int .u16 v'])).run Tryd.prog w = .ok (.bool z) w := by
  subst hz
  go_simp
  repeat' split
  all_goals simp_all
def reE (a b : En) : Bool := a.c == b.c && (a.t == b.t && (a.k == b.k && (a.y == b.y && a.x == b.x)))
def enE (a b : En) : Bool := a.s == b.s && (a.v == b.v && reE a b)
theorem neq_en (w : World) (a b : En) (z : Bool) (hz : enE a b = z) : (binOp .neq TEn (.agg #[.int .u32 a.s, .int .u32 a.v, .int .u8 a.c, .int .u32 a.t, .int .u8 a.k, .int .u8 a.y, .int .u16 a.x]) (.agg #[.int .u32 b.s, .int .u32 b.v, .int .u8 b.c, .int .u32 b.t, .int .u8 b.k, .int .u8 b.y, .int .u16 b.x])).run Tryd.prog w = .ok (.bool (!z)) w := by
  subst hz
  unfold enE reE
  go_simp
  repeat' split
  all_goals simp_all
/-- Has the one seen the other? -/
def sawE (e q : En) : Bool := q.s == e.s && (reE q e && decide (e.v ≤ q.v))
set_option maxHeartbeats 4000000 in
theorem saw1_calls {w : World} {x b : En} {eb : Nat} (hb : Blk w eb (enC b) TEn) :
    Calls Tryd.prog 38 #[.agg #[.int .u32 x.s, .int .u32 x.v, .int .u8 x.c, .int .u32 x.t, .int .u8 x.k, .int .u8 x.y, .int .u16 x.x], .pointer (some ⟨eb, 0, none⟩)] w fun e w' => e = .returned (.bool (sawE b x)) ∧ Frm (fun _ => False) w w' := by
  have b0 := hb.cell 0; have b1 := hb.cell 1; have b2 := hb.cell 2; have b3 := hb.cell 3; have b4 := hb.cell 4; have b5 := hb.cell 5; have b6 := hb.cell 6; have hbl := hb.lt
  simp only [enC, List.getElem?_cons_succ, List.getElem?_cons_zero] at b0 b1 b2 b3 b4 b5 b6
  clear hb
  by_cases h1 : x.s = b.s
  · have e1 : (x.s == b.s) = true := beq_iff_eq.2 h1
    cases hq : reE x b
    · have HT := hid (show false = sawE b x by unfold sawE; rw [e1, hq]; rfl)
      have heq := fun w => eql_re w x.c x.t x.k x.y x.x b.c b.t b.k b.y b.x false hq
      clear hq h1
      go_enter Tryd.func38, Tryd.ntmps38
      go_wp2
      go_ret
      exact ⟨ret_bool HT.out, dbox _ _⟩
    · have heq := fun w => eql_re w x.c x.t x.k x.y x.x b.c b.t b.k b.y b.x true hq
      by_cases h2 : b.v ≤ x.v
      · have HT := hid (show true = sawE b x by unfold sawE; rw [e1, hq, decide_eq_true h2]; rfl)
        clear hq h1
        go_enter Tryd.func38, Tryd.ntmps38
        go_wp2
        go_ret
        exact ⟨ret_bool HT.out, dbox _ _⟩
      · have HT := hid (show false = sawE b x by unfold sawE; rw [e1, hq, decide_eq_false h2]; rfl)
        clear hq h1
        go_enter Tryd.func38, Tryd.ntmps38
        go_wp2
        go_ret
        exact ⟨ret_bool HT.out, dbox _ _⟩
  · have e1 : (x.s == b.s) = false := beq_eq_false_iff_ne.2 h1
    have HT := hid (show false = sawE b x by unfold sawE; rw [e1]; rfl)
    clear h1
    go_enter Tryd.func38, Tryd.ntmps38
    go_wp2
    go_ret
    exact ⟨ret_bool HT.out, dbox _ _⟩
theorem enter_saw (vs : Array Value) (w : World) : Sem.run Tryd.prog (callFunc 38 vs) w = .ok (.enter 38 vs) w := by kernel_rfl
/-- Two boxes behind one another. -/
theorem two_boxes (w : World) (P Q : List Value) (S T : Nat) : Blk ((w.alloc (.cells P.toArray S)).alloc (.cells Q.toArray T)) (w.heap.size + 1) Q T := by
  have := Blk.new (w.alloc (.cells P.toArray S)) Q T
  rwa [World.size_alloc] at this
theorem Saw_calls {w : World} {x : Vm} (hok : VmOk w x) (b : En) (z : Bool) (hz : x.q.any (sawE b) = z) :
    Calls Tryd.prog 29 #[.agg #[.int .u8 x.f, .int .u8 x.e, .int .u32 x.v, .int .u32 x.l, .slice x.ma x.ms.length x.mc, .slice x.pa x.p.length x.pc, .slice x.qa x.q.length x.qc], .agg #[.int .u32 b.s, .int .u32 b.v, .int .u8 b.c, .int .u32 b.t, .int .u8 b.k, .int .u8 b.y, .int .u16 b.x]] w fun e w' => e = .returned (.bool z) ∧ Frm (fun _ => False) w w' := by
  have HOK := hid hok; have HZ := hid hz
  have HB := hid (show Blk ((w.alloc (.cells (#[.int .u8 x.f, .int .u8 x.e, .int .u32 x.v, .int .u32 x.l, .slice x.ma x.ms.length x.mc, .slice x.pa x.p.length x.pc, .slice x.qa x.q.length x.qc]) TVo)).alloc (.cells (#[.int .u32 b.s, .int .u32 b.v, .int .u8 b.c, .int .u32 b.t, .int .u8 b.k, .int .u8 b.y, .int .u16 b.x]) TEn)) (w.heap.size + 1) (enC b) TEn from two_boxes w (vmC x) (enC b) TVo TEn)
  clear hok hz
  go_enter Tryd.func29, Tryd.ntmps29
  go_wp2_with (go_at_call 35; (with_reducible refine (ConE_calls (HOK.out.q.quiet ((dbox _ _).trans (dbox _ _))) _ enter_saw _ (sawE b) (fun w' x f _ => saw1_calls (HB.out.frm f (fun h => h))) z HZ.out).mono ?_); rintro e w5 ⟨rfl, f'⟩; have HF := hid f'; clear f')
  go_ret
  exact ⟨rfl, ((dbox _ _).trans (dbox _ _)).trans HF.out⟩
end Go.Proofs.YtipalebaaejfjaaDoor
