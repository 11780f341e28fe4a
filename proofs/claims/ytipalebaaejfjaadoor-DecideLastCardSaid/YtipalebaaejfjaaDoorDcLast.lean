/- DecideLast, walked: of two requests that were prepared at one place in unlike views the younger one is picked, if two saw it. -/
import Derived.Test.YtipalebaaejfjaaDoorDcVmT
import Derived.Test.YtipalebaaejfjaaDoorDcLsP
import Derived.Test.YtipalebaaejfjaaDoorDcKnown
import Derived.Test.YtipalebaaejfjaaDoorRq
namespace Go.Proofs.YtipalebaaejfjaaDoor
open Go.RowKit Go.ChangeShapes
set_option linter.unusedVariables false
set_option linter.unusedSimpArgs false
theorem nS_le (S : Nat → Bool) (j : Nat) : nS S j ≤ j := by
  induction j with
  | zero => exact Nat.le_refl _
  | succ j ih => simp only [nS]; split <;> omega
theorem ls_app {x y : En} {vw : Int} {S : Nat → Bool} {l : List Vm} {j : Nat} {r : Vm} (h : ∀ i vm, l[i]? = some vm → LstV x y vw S i vm) (hl : l.length = j) (hr : LstV x y vw S j r) : ∀ i vm, (l ++ [r])[i]? = some vm → LstV x y vw S i vm := by
  intro i vm hi
  rcases Nat.lt_or_ge i l.length with h1 | h1
  · rw [List.getElem?_append_left h1] at hi; exact h i vm hi
  · rw [List.getElem?_append_right h1] at hi
    have h2 : i = j := by
      have := (List.getElem?_eq_some_iff.1 hi).1
      simp at this; omega
    subst h2
    rw [hl, Nat.sub_self] at hi
    simp at hi
    subst hi; exact hr
theorem vm_app {wr wx w6 : World} {A : Nat → Prop} {v : Value} {l : List Vm} {r : Vm} (hf : Frm (fun k => v.ownBlock = some k) wx w6) (hO : OwnE wr A v l) (h : ∀ vm ∈ l, VmT wr vm) (f : Frm (fun _ => False) wr wx) (hr : VmT wx r) : ∀ vm ∈ l ++ [r], VmT w6 vm := by
  intro vm hm
  rw [List.mem_append] at hm
  rcases hm with hm | hm
  · exact ((h vm hm).quiet f).app (hO.quiet f) hf
  · simp at hm; subst hm; exact hr.app (hO.quiet f) hf
theorem last_vos {x y : En} {vw : Int} {S : Nat → Bool} {l : List Vm} {w : World} {a : Option Addr} {cap : Nat} (hx : 0 ≤ x.s ∧ 0 ≤ x.v) (hy : 0 ≤ y.s ∧ 0 ≤ y.v) (hr : IsRow 7 vmC w a cap l) (hv : ∀ vm ∈ l, VmT w vm) (h : ∀ i vm, l[i]? = some vm → LstV x y vw S i vm) : IsVos w a cap l := by
  have H : ∀ vm ∈ l, ∃ i, LstV x y vw S i vm := fun vm hm => by
    obtain ⟨i, hi⟩ := List.getElem?_of_mem hm
    exact ⟨i, h i vm hi⟩
  refine ⟨hr, fun vm hm => (hv vm hm).ok, fun vm hm e he => ?_, fun vm hm e he => ?_, fun vm hm m he => ?_, fun vm hm => ?_⟩
  · obtain ⟨i, hi⟩ := H vm hm
    rw [hi.hp] at he; simp at he; subst he; split <;> assumption
  · obtain ⟨i, hi⟩ := H vm hm
    rw [hi.hq] at he; cases hS : S i
    · rw [hS] at he; simp at he
    · rw [hS] at he; simp at he; subst he; exact hy
  · obtain ⟨i, hi⟩ := H vm hm
    rw [hi.hms] at he; simp at he; subst he; exact Int.le_refl _
  · obtain ⟨i, hi⟩ := H vm hm
    rw [hi.hq]; cases S i <;> simp
def sB (n : Int) (k : Nat) : Bool := Go.bits .and .u8 (n / 2 ^ k) 1 == 1
set_option maxRecDepth 100000
set_option maxHeartbeats 64000000 in
theorem DecideLast_walk (a0 a1 : Int) (l2 : List Value) (x2 : Int × Int × (Int × Int × Int × Unit) × Unit) (l3 : List Value) (x3 : Int × Int × (Int × Int × Int × Unit) × Unit) (a4 : Int) (w : World) (h0 : (Lit.int .u32 a0).wf = true) (h1 : (Lit.int .u32 a1).wf = true) (h2 : c39.K w x2 l2) (h3 : c39.K w x3 l3) (h4 : (Lit.int .u8 a4).wf = true) :
    Calls Tryd.prog 6 #[.int .u32 a0, .int .u32 a1, .agg l2.toArray, .agg l3.toArray, .int .u8 a4] w fun e w' => e = .returned (.bool true) ∧ Below w.heap.size w w' := by
  obtain ⟨c, t, k, y, v, rfl, -, -, -, -, -⟩ := rq_of h2
  obtain ⟨c2, t2, k2, y2, v2, rfl, -, -, -, -, -⟩ := rq_of h3
  have hb0 := bnd32 h0; have hb1 := bnd32 h1
  have HA0 := hid ((Blk.new w [.int .u8 c, .int .u32 t, .int .u8 k, .int .u8 y, .int .u16 v] TRe).frm (dbox _ (.cells #[.int .u8 c2, .int .u32 t2, .int .u8 k2, .int .u8 y2, .int .u16 v2] TRe)) (fun h => h))
  have HB0 := hid (two_boxes w [.int .u8 c, .int .u32 t, .int .u8 k, .int .u8 y, .int .u16 v] [.int .u8 c2, .int .u32 t2, .int .u8 k2, .int .u8 y2, .int .u16 v2] TRe TRe)
  have HF0 := hid ((dbox w (.cells #[.int .u8 c, .int .u32 t, .int .u8 k, .int .u8 y, .int .u16 v] TRe)).trans (dbox _ (.cells #[.int .u8 c2, .int .u32 t2, .int .u8 k2, .int .u8 y2, .int .u16 v2] TRe)))
  obtain ⟨z, hz⟩ : ∃ z, (c == c2 && (t == t2 && (k == k2 && (y == y2 && v == v2)))) = z := ⟨_, rfl⟩
  have hqe := fun w => eql_re w c t k y v c2 t2 k2 y2 v2 z hz
  have HZ := hid hz
  clear h0 h1 h2 h3 h4 hz
  by_cases g1 : a1 ≤ a0
  · go_enter Tryd.func6, Tryd.ntmps6
    go_wp2_with (first
      | (go_at_call 9; (with_reducible refine (known_calls _).mono ?_); rintro e w1 ⟨rfl, f'⟩; have HA := hid (HA0.out.frm f' (fun h => h)); have HB := hid (HB0.out.frm f' (fun h => h)); have HF := hid (HF0.out.trans f'); clear HA0 HB0 HF0 f'; have q0 := HA.out.cell 0; have q1 := HA.out.cell 1; have q2 := HA.out.cell 2; have q3 := HA.out.cell 3; have q4 := HA.out.cell 4; (simp only [List.getElem?_cons_succ, List.getElem?_cons_zero] at q0 q1 q2 q3 q4); have s0 := HB.out.cell 0; have s1 := HB.out.cell 1; have s2 := HB.out.cell 2; have s3 := HB.out.cell 3; have s4 := HB.out.cell 4; (simp only [List.getElem?_cons_succ, List.getElem?_cons_zero] at s0 s1 s2 s3 s4)))
    go_ret
    exact ⟨rfl, HF.out.below (Nat.le_refl _) (fun _ _ h => h)⟩
  · by_cases g2 : 1048576 ≤ a1
    · go_enter Tryd.func6, Tryd.ntmps6
      go_wp2_with (first
        | (go_at_call 9; (with_reducible refine (known_calls _).mono ?_); rintro e w1 ⟨rfl, f'⟩; have HA := hid (HA0.out.frm f' (fun h => h)); have HB := hid (HB0.out.frm f' (fun h => h)); have HF := hid (HF0.out.trans f'); clear HA0 HB0 HF0 f'; have q0 := HA.out.cell 0; have q1 := HA.out.cell 1; have q2 := HA.out.cell 2; have q3 := HA.out.cell 3; have q4 := HA.out.cell 4; (simp only [List.getElem?_cons_succ, List.getElem?_cons_zero] at q0 q1 q2 q3 q4); have s0 := HB.out.cell 0; have s1 := HB.out.cell 1; have s2 := HB.out.cell 2; have s3 := HB.out.cell 3; have s4 := HB.out.cell 4; (simp only [List.getElem?_cons_succ, List.getElem?_cons_zero] at s0 s1 s2 s3 s4)))
      go_ret
      exact ⟨rfl, HF.out.below (Nat.le_refl _) (fun _ _ h => h)⟩
    · cases z
      · go_enter Tryd.func6, Tryd.ntmps6
        go_wp2_with (first
          | (go_at_call 9; (with_reducible refine (known_calls _).mono ?_); rintro e w1 ⟨rfl, f'⟩; have HA := hid (HA0.out.frm f' (fun h => h)); have HB := hid (HB0.out.frm f' (fun h => h)); have HF := hid (HF0.out.trans f'); clear HA0 HB0 HF0 f'; have q0 := HA.out.cell 0; have q1 := HA.out.cell 1; have q2 := HA.out.cell 2; have q3 := HA.out.cell 3; have q4 := HA.out.cell 4; (simp only [List.getElem?_cons_succ, List.getElem?_cons_zero] at q0 q1 q2 q3 q4); have s0 := HB.out.cell 0; have s1 := HB.out.cell 1; have s2 := HB.out.cell 2; have s3 := HB.out.cell 3; have s4 := HB.out.cell 4; (simp only [List.getElem?_cons_succ, List.getElem?_cons_zero] at s0 s1 s2 s3 s4)))
        have HM2 := hid (Blk.new w1 [.int .u32 0, .int .u64 3] DMk)
        have HA2 := hid (HA.out.frm (dbox w1 (.cells #[.int .u32 0, .int .u64 3] DMk)) (fun h => h)); have HB2 := hid (HB.out.frm (dbox w1 (.cells #[.int .u32 0, .int .u64 3] DMk)) (fun h => h)); have HF2 := hid (HF.out.trans (dbox w1 (.cells #[.int .u32 0, .int .u64 3] DMk)))
        clear HA HB HF q0 q1 q2 q3 q4 s0 s1 s2 s3 s4
        generalize w1.alloc (.cells #[.int .u32 0, .int .u64 3] DMk) = w2 at *
        generalize w1.heap.size = mb at *
        have q0 := HA2.out.cell 0; have q1 := HA2.out.cell 1; have q2 := HA2.out.cell 2; have q3 := HA2.out.cell 3; have q4 := HA2.out.cell 4; (simp only [List.getElem?_cons_succ, List.getElem?_cons_zero] at q0 q1 q2 q3 q4); have s0 := HB2.out.cell 0; have s1 := HB2.out.cell 1; have s2 := HB2.out.cell 2; have s3 := HB2.out.cell 3; have s4 := HB2.out.cell 4; (simp only [List.getElem?_cons_succ, List.getElem?_cons_zero] at s0 s1 s2 s3 s4)
        have l1 := HA2.out.lt; have l2 := HB2.out.lt
        go_region
        · have HX := hid (show Blk (((w2.alloc (.cells #[.int .u32 1, .int .u32 a0, .int .u8 c, .int .u32 t, .int .u8 k, .int .u8 y, .int .u16 v] TEn)).alloc (.cells #[.int .u32 1, .int .u32 a1, .int .u8 c2, .int .u32 t2, .int .u8 k2, .int .u8 y2, .int .u16 v2] TEn)).drew) w2.heap.size (enC (⟨1, a0, c, t, k, y, v⟩ : En)) TEn from ((Blk.new w2 (enC (⟨1, a0, c, t, k, y, v⟩ : En)) TEn).frm (dbox _ (.cells #[.int .u32 1, .int .u32 a1, .int .u8 c2, .int .u32 t2, .int .u8 k2, .int .u8 y2, .int .u16 v2] TEn)) (fun h => h)).drew); have HY := hid (show Blk (((w2.alloc (.cells #[.int .u32 1, .int .u32 a0, .int .u8 c, .int .u32 t, .int .u8 k, .int .u8 y, .int .u16 v] TEn)).alloc (.cells #[.int .u32 1, .int .u32 a1, .int .u8 c2, .int .u32 t2, .int .u8 k2, .int .u8 y2, .int .u16 v2] TEn)).drew) (w2.heap.size + 1) (enC (⟨1, a1, c2, t2, k2, y2, v2⟩ : En)) TEn from (two_boxes w2 (enC (⟨1, a0, c, t, k, y, v⟩ : En)) (enC (⟨1, a1, c2, t2, k2, y2, v2⟩ : En)) TEn TEn).drew)
          have HF3 := hid (show Frm (fun _ => False) w2 (((w2.alloc (.cells #[.int .u32 1, .int .u32 a0, .int .u8 c, .int .u32 t, .int .u8 k, .int .u8 y, .int .u16 v] TEn)).alloc (.cells #[.int .u32 1, .int .u32 a1, .int .u8 c2, .int .u32 t2, .int .u8 k2, .int .u8 y2, .int .u16 v2] TEn)).drew) from ((dbox w2 _).trans (dbox _ _)).drew)
          generalize ((w2.alloc (.cells #[.int .u32 1, .int .u32 a0, .int .u8 c, .int .u32 t, .int .u8 k, .int .u8 y, .int .u16 v] TEn)).alloc (.cells #[.int .u32 1, .int .u32 a1, .int .u8 c2, .int .u32 t2, .int .u8 k2, .int .u8 y2, .int .u16 v2] TEn)).drew = w3 at *
          have HXY := hid (show ¬ w2.heap.size = w2.heap.size + 1 by omega)
          generalize w2.heap.size + 1 = yb at *
          generalize w2.heap.size = xb at *
          have HA := hid (HA2.out.frm HF3.out (fun h => h)); have HB := hid (HB2.out.frm HF3.out (fun h => h)); have HM := hid (HM2.out.frm HF3.out (fun h => h)); have HF := hid (HF2.out.trans HF3.out)
          clear HA2 HB2 HM2 HF2 HF3 q0 q1 q2 q3 q4 s0 s1 s2 s3 s4 l1 l2
          have HF0 := hid (Frm.refl (fun _ => False) w3)
          have HO0 := hid (OwnE.nil w3 (fun k => k < w3.heap.size))
          go_wp2
          go_loopw [14, 15, 16] (fun lv nv iv wr => ∃ (j n : Nat) (l : List Vm), j ≤ 3 ∧ nv = .int .i64 n ∧ iv = .int .u8 j ∧ nS (sB a4) j = n ∧ l.length = j ∧ (∀ i vm, l[i]? = some vm → LstV (⟨1, a0, c, t, k, y, v⟩ : En) (⟨1, a1, c2, t2, k2, y2, v2⟩ : En) (a1 + 1) (sB a4) i vm) ∧ (∀ vm ∈ l, VmT wr vm) ∧ OwnE wr (fun k => k < w3.heap.size) lv l ∧ Frm (fun _ => False) w3 wr) (fun _ _ i _ => 3 - (intOf i).toNat)
          case atStart => exact ⟨0, 0, [], by omega, rfl, rfl, rfl, rfl, fun i v h => by simp at h, fun v h => by simp at h, HO0.out, HF0.out⟩
          case round =>
            clear HO0 HF0
            obtain ⟨j, n, l, hj, rfl, rfl, hn, hl, hls, hvm, ho, hf⟩ := hrel
            have HFw := hid hf; have HO := hid ho; have HVM := hid hvm; have HLS := hid hls; have HN := hid hn; have HLL := hid hl
            clear hf ho hvm hls hn hl
            have HXw := hid (HX.out.frm HFw.out (fun h => h)); have HYw := hid (HY.out.frm HFw.out (fun h => h))
            have p0 := HXw.out.cell 0; have p1 := HXw.out.cell 1; have p2 := HXw.out.cell 2; have p3 := HXw.out.cell 3; have p4 := HXw.out.cell 4; have p5 := HXw.out.cell 5; have p6 := HXw.out.cell 6; (simp only [enC, List.getElem?_cons_succ, List.getElem?_cons_zero] at p0 p1 p2 p3 p4 p5 p6); have r0 := HYw.out.cell 0; have r1 := HYw.out.cell 1; have r2 := HYw.out.cell 2; have r3 := HYw.out.cell 3; have r4 := HYw.out.cell 4; have r5 := HYw.out.cell 5; have r6 := HYw.out.cell 6; (simp only [enC, List.getElem?_cons_succ, List.getElem?_cons_zero] at r0 r1 r2 r3 r4 r5 r6)
            have lx := HXw.out.lt; have ly := HYw.out.lt
            have ew : IntKind.u32.wrap (a1 + 1) = a1 + 1 := by simp [IntKind.wrap, IntKind.bits, IntKind.signed]; omega
            rcases (show j = 0 ∨ j = 1 ∨ j = 2 ∨ j = 3 by omega) with rfl | rfl | rfl | rfl
            · clear hj
              obtain ⟨Xb, hXb⟩ : ∃ X, Go.bits .and .u8 a4 1 = X := ⟨_, rfl⟩
              have hS : sB a4 0 = (Xb == 1) := by rw [← hXb]; simp [sB]
              cases zX : (Xb == 1)
              · rw [zX] at hS
                have HS := hid hS
                clear hS
                go_wp2_with (first
                  | (at_builtin; refine wpList_moreE (Vm.mk 0 1 (a1 + 1) 0 (some ⟨mb, 0, none⟩) 1 [(0, 3)] (some ⟨wr.heap.size, 0, none⟩) 1 [(⟨1, a0, c, t, k, y, v⟩ : En)] none 0 []) rfl _ _ rfl rfl (HO.out.quiet (by repeat (first | exact Frm.refl _ _ | refine Frm.alloc ?_ _))) (fun k hk => by have := HFw.out.size; simp; omega) (blkn _ (wr.heap.size + 1 + 1) (by simp) (vmC (Vm.mk 0 1 (a1 + 1) 0 (some ⟨mb, 0, none⟩) 1 [(0, 3)] (some ⟨wr.heap.size, 0, none⟩) 1 [(⟨1, a0, c, t, k, y, v⟩ : En)] none 0 [])) TVm) (by rw [HLL.out]; decide) rfl rfl ?_; intro v' w6 ho' hf' hat'; have HO6 := hid ho'; have HF6 := hid ((HFw.out.trans (by repeat (first | exact Frm.refl _ _ | refine Frm.alloc ?_ _))).own hf' (fun k hk hn => HO.out.off k hk hn)); have HVM6 := hid (vm_app (r := (Vm.mk 0 1 (a1 + 1) 0 (some ⟨mb, 0, none⟩) 1 [(0, 3)] (some ⟨wr.heap.size, 0, none⟩) 1 [(⟨1, a0, c, t, k, y, v⟩ : En)] none 0 [])) hf' HO.out HVM.out (by repeat (first | exact Frm.refl _ _ | refine Frm.alloc ?_ _)) ⟨⟨row_one mkC_len ((HM.out.frm HFw.out (fun h => h)).frm (S := fun _ => False) (by repeat (first | exact Frm.refl _ _ | refine Frm.alloc ?_ _)) (fun h => h)), row_one enC_len ((Blk.new wr (enC (⟨1, a0, c, t, k, y, v⟩ : En)) TEn).frm (S := fun _ => False) (by repeat (first | exact Frm.refl _ _ | refine Frm.alloc ?_ _)) (fun h => h)), IsRow.nil _ _⟩, OffT.blk ((HM.out.frm HFw.out (fun h => h)).frm (S := fun _ => False) (by repeat (first | exact Frm.refl _ _ | refine Frm.alloc ?_ _)) (fun h => h)) (by decide), OffT.blk ((Blk.new wr (enC (⟨1, a0, c, t, k, y, v⟩ : En)) TEn).frm (S := fun _ => False) (by repeat (first | exact Frm.refl _ _ | refine Frm.alloc ?_ _)) (fun h => h)) (by decide), OffT.none _⟩); clear ho' hf' hat'))
                go_roundw
                case rel => exact ⟨0 + 1, n, _, by omega, by first | rfl | go_num, by first | rfl | go_num, by rw [nS, HN.out, HS.out]; rfl, by rw [List.length_append, HLL.out]; rfl, ls_app HLS.out HLL.out ⟨rfl, rfl, rfl, rfl, rfl, rfl, by rw [HS.out]; rfl⟩, HVM6.out, HO6.out, HF6.out⟩
                case measure => simp [intOf]
              · rw [zX] at hS
                have HS := hid hS
                clear hS
                have e64 : IntKind.i64.wrap ((n : Int) + 1) = (n : Int) + 1 := (by have h1 := HN.out; have h2 := nS_le (sB a4) 0; simp [IntKind.wrap, IntKind.bits, IntKind.signed]; omega)
                go_wp2_with (first
                  | (at_builtin; refine wpList_moreE (Vm.mk 0 1 (a1 + 1) 0 (some ⟨mb, 0, none⟩) 1 [(0, 3)] (some ⟨wr.heap.size, 0, none⟩) 1 [(⟨1, a0, c, t, k, y, v⟩ : En)] (some ⟨wr.heap.size + 1 + 1, 0, none⟩) 1 [(⟨1, a1, c2, t2, k2, y2, v2⟩ : En)]) rfl _ _ rfl rfl (HO.out.quiet (by repeat (first | exact Frm.refl _ _ | refine Frm.alloc ?_ _))) (fun k hk => by have := HFw.out.size; simp; omega) (blkn _ (wr.heap.size + 1 + 1 + 1) (by simp) (vmC (Vm.mk 0 1 (a1 + 1) 0 (some ⟨mb, 0, none⟩) 1 [(0, 3)] (some ⟨wr.heap.size, 0, none⟩) 1 [(⟨1, a0, c, t, k, y, v⟩ : En)] (some ⟨wr.heap.size + 1 + 1, 0, none⟩) 1 [(⟨1, a1, c2, t2, k2, y2, v2⟩ : En)])) TVm) (by rw [HLL.out]; decide) rfl rfl ?_; intro v' w6 ho' hf' hat'; have HO6 := hid ho'; have HF6 := hid ((HFw.out.trans (by repeat (first | exact Frm.refl _ _ | refine Frm.alloc ?_ _))).own hf' (fun k hk hn => HO.out.off k hk hn)); have HVM6 := hid (vm_app (r := (Vm.mk 0 1 (a1 + 1) 0 (some ⟨mb, 0, none⟩) 1 [(0, 3)] (some ⟨wr.heap.size, 0, none⟩) 1 [(⟨1, a0, c, t, k, y, v⟩ : En)] (some ⟨wr.heap.size + 1 + 1, 0, none⟩) 1 [(⟨1, a1, c2, t2, k2, y2, v2⟩ : En)])) hf' HO.out HVM.out (by repeat (first | exact Frm.refl _ _ | refine Frm.alloc ?_ _)) ⟨⟨row_one mkC_len ((HM.out.frm HFw.out (fun h => h)).frm (S := fun _ => False) (by repeat (first | exact Frm.refl _ _ | refine Frm.alloc ?_ _)) (fun h => h)), row_one enC_len ((Blk.new wr (enC (⟨1, a0, c, t, k, y, v⟩ : En)) TEn).frm (S := fun _ => False) (by repeat (first | exact Frm.refl _ _ | refine Frm.alloc ?_ _)) (fun h => h)), row_one enC_len ((blkn ((wr.alloc _).alloc _) (wr.heap.size + 1 + 1) (by simp) (enC (⟨1, a1, c2, t2, k2, y2, v2⟩ : En)) TEn).frm (S := fun _ => False) (by repeat (first | exact Frm.refl _ _ | refine Frm.alloc ?_ _)) (fun h => h))⟩, OffT.blk ((HM.out.frm HFw.out (fun h => h)).frm (S := fun _ => False) (by repeat (first | exact Frm.refl _ _ | refine Frm.alloc ?_ _)) (fun h => h)) (by decide), OffT.blk ((Blk.new wr (enC (⟨1, a0, c, t, k, y, v⟩ : En)) TEn).frm (S := fun _ => False) (by repeat (first | exact Frm.refl _ _ | refine Frm.alloc ?_ _)) (fun h => h)) (by decide), OffT.blk ((blkn ((wr.alloc _).alloc _) (wr.heap.size + 1 + 1) (by simp) (enC (⟨1, a1, c2, t2, k2, y2, v2⟩ : En)) TEn).frm (S := fun _ => False) (by repeat (first | exact Frm.refl _ _ | refine Frm.alloc ?_ _)) (fun h => h)) (by decide)⟩); clear ho' hf' hat'))
                go_roundw
                case rel => exact ⟨0 + 1, n + 1, _, by omega, by first | rfl | go_num, by first | rfl | go_num, by rw [nS, HN.out, HS.out]; rfl, by rw [List.length_append, HLL.out]; rfl, ls_app HLS.out HLL.out ⟨rfl, rfl, rfl, rfl, rfl, rfl, by rw [HS.out]; rfl⟩, HVM6.out, HO6.out, HF6.out⟩
                case measure => simp [intOf]
            · clear hj
              obtain ⟨Xb, hXb⟩ : ∃ X, Go.bits .and .u8 (a4 / 2) 1 = X := ⟨_, rfl⟩
              have hS : sB a4 1 = (Xb == 1) := by rw [← hXb]; simp [sB]
              cases zX : (Xb == 1)
              · rw [zX] at hS
                have HS := hid hS
                clear hS
                go_wp2_with (first
                  | (at_builtin; refine wpList_moreE (Vm.mk 1 1 (a1 + 1) 0 (some ⟨mb, 0, none⟩) 1 [(0, 3)] (some ⟨wr.heap.size, 0, none⟩) 1 [(⟨1, a0, c, t, k, y, v⟩ : En)] none 0 []) rfl _ _ rfl rfl (HO.out.quiet (by repeat (first | exact Frm.refl _ _ | refine Frm.alloc ?_ _))) (fun k hk => by have := HFw.out.size; simp; omega) (blkn _ (wr.heap.size + 1 + 1) (by simp) (vmC (Vm.mk 1 1 (a1 + 1) 0 (some ⟨mb, 0, none⟩) 1 [(0, 3)] (some ⟨wr.heap.size, 0, none⟩) 1 [(⟨1, a0, c, t, k, y, v⟩ : En)] none 0 [])) TVm) (by rw [HLL.out]; decide) rfl rfl ?_; intro v' w6 ho' hf' hat'; have HO6 := hid ho'; have HF6 := hid ((HFw.out.trans (by repeat (first | exact Frm.refl _ _ | refine Frm.alloc ?_ _))).own hf' (fun k hk hn => HO.out.off k hk hn)); have HVM6 := hid (vm_app (r := (Vm.mk 1 1 (a1 + 1) 0 (some ⟨mb, 0, none⟩) 1 [(0, 3)] (some ⟨wr.heap.size, 0, none⟩) 1 [(⟨1, a0, c, t, k, y, v⟩ : En)] none 0 [])) hf' HO.out HVM.out (by repeat (first | exact Frm.refl _ _ | refine Frm.alloc ?_ _)) ⟨⟨row_one mkC_len ((HM.out.frm HFw.out (fun h => h)).frm (S := fun _ => False) (by repeat (first | exact Frm.refl _ _ | refine Frm.alloc ?_ _)) (fun h => h)), row_one enC_len ((Blk.new wr (enC (⟨1, a0, c, t, k, y, v⟩ : En)) TEn).frm (S := fun _ => False) (by repeat (first | exact Frm.refl _ _ | refine Frm.alloc ?_ _)) (fun h => h)), IsRow.nil _ _⟩, OffT.blk ((HM.out.frm HFw.out (fun h => h)).frm (S := fun _ => False) (by repeat (first | exact Frm.refl _ _ | refine Frm.alloc ?_ _)) (fun h => h)) (by decide), OffT.blk ((Blk.new wr (enC (⟨1, a0, c, t, k, y, v⟩ : En)) TEn).frm (S := fun _ => False) (by repeat (first | exact Frm.refl _ _ | refine Frm.alloc ?_ _)) (fun h => h)) (by decide), OffT.none _⟩); clear ho' hf' hat'))
                go_roundw
                case rel => exact ⟨1 + 1, n, _, by omega, by first | rfl | go_num, by first | rfl | go_num, by rw [nS, HN.out, HS.out]; rfl, by rw [List.length_append, HLL.out]; rfl, ls_app HLS.out HLL.out ⟨rfl, rfl, rfl, rfl, rfl, rfl, by rw [HS.out]; rfl⟩, HVM6.out, HO6.out, HF6.out⟩
                case measure => simp [intOf]
              · rw [zX] at hS
                have HS := hid hS
                clear hS
                have e64 : IntKind.i64.wrap ((n : Int) + 1) = (n : Int) + 1 := (by have h1 := HN.out; have h2 := nS_le (sB a4) 1; simp [IntKind.wrap, IntKind.bits, IntKind.signed]; omega)
                go_wp2_with (first
                  | (at_builtin; refine wpList_moreE (Vm.mk 1 1 (a1 + 1) 0 (some ⟨mb, 0, none⟩) 1 [(0, 3)] (some ⟨wr.heap.size, 0, none⟩) 1 [(⟨1, a0, c, t, k, y, v⟩ : En)] (some ⟨wr.heap.size + 1 + 1, 0, none⟩) 1 [(⟨1, a1, c2, t2, k2, y2, v2⟩ : En)]) rfl _ _ rfl rfl (HO.out.quiet (by repeat (first | exact Frm.refl _ _ | refine Frm.alloc ?_ _))) (fun k hk => by have := HFw.out.size; simp; omega) (blkn _ (wr.heap.size + 1 + 1 + 1) (by simp) (vmC (Vm.mk 1 1 (a1 + 1) 0 (some ⟨mb, 0, none⟩) 1 [(0, 3)] (some ⟨wr.heap.size, 0, none⟩) 1 [(⟨1, a0, c, t, k, y, v⟩ : En)] (some ⟨wr.heap.size + 1 + 1, 0, none⟩) 1 [(⟨1, a1, c2, t2, k2, y2, v2⟩ : En)])) TVm) (by rw [HLL.out]; decide) rfl rfl ?_; intro v' w6 ho' hf' hat'; have HO6 := hid ho'; have HF6 := hid ((HFw.out.trans (by repeat (first | exact Frm.refl _ _ | refine Frm.alloc ?_ _))).own hf' (fun k hk hn => HO.out.off k hk hn)); have HVM6 := hid (vm_app (r := (Vm.mk 1 1 (a1 + 1) 0 (some ⟨mb, 0, none⟩) 1 [(0, 3)] (some ⟨wr.heap.size, 0, none⟩) 1 [(⟨1, a0, c, t, k, y, v⟩ : En)] (some ⟨wr.heap.size + 1 + 1, 0, none⟩) 1 [(⟨1, a1, c2, t2, k2, y2, v2⟩ : En)])) hf' HO.out HVM.out (by repeat (first | exact Frm.refl _ _ | refine Frm.alloc ?_ _)) ⟨⟨row_one mkC_len ((HM.out.frm HFw.out (fun h => h)).frm (S := fun _ => False) (by repeat (first | exact Frm.refl _ _ | refine Frm.alloc ?_ _)) (fun h => h)), row_one enC_len ((Blk.new wr (enC (⟨1, a0, c, t, k, y, v⟩ : En)) TEn).frm (S := fun _ => False) (by repeat (first | exact Frm.refl _ _ | refine Frm.alloc ?_ _)) (fun h => h)), row_one enC_len ((blkn ((wr.alloc _).alloc _) (wr.heap.size + 1 + 1) (by simp) (enC (⟨1, a1, c2, t2, k2, y2, v2⟩ : En)) TEn).frm (S := fun _ => False) (by repeat (first | exact Frm.refl _ _ | refine Frm.alloc ?_ _)) (fun h => h))⟩, OffT.blk ((HM.out.frm HFw.out (fun h => h)).frm (S := fun _ => False) (by repeat (first | exact Frm.refl _ _ | refine Frm.alloc ?_ _)) (fun h => h)) (by decide), OffT.blk ((Blk.new wr (enC (⟨1, a0, c, t, k, y, v⟩ : En)) TEn).frm (S := fun _ => False) (by repeat (first | exact Frm.refl _ _ | refine Frm.alloc ?_ _)) (fun h => h)) (by decide), OffT.blk ((blkn ((wr.alloc _).alloc _) (wr.heap.size + 1 + 1) (by simp) (enC (⟨1, a1, c2, t2, k2, y2, v2⟩ : En)) TEn).frm (S := fun _ => False) (by repeat (first | exact Frm.refl _ _ | refine Frm.alloc ?_ _)) (fun h => h)) (by decide)⟩); clear ho' hf' hat'))
                go_roundw
                case rel => exact ⟨1 + 1, n + 1, _, by omega, by first | rfl | go_num, by first | rfl | go_num, by rw [nS, HN.out, HS.out]; rfl, by rw [List.length_append, HLL.out]; rfl, ls_app HLS.out HLL.out ⟨rfl, rfl, rfl, rfl, rfl, rfl, by rw [HS.out]; rfl⟩, HVM6.out, HO6.out, HF6.out⟩
                case measure => simp [intOf]
            · clear hj
              obtain ⟨Xb, hXb⟩ : ∃ X, Go.bits .and .u8 (a4 / 4) 1 = X := ⟨_, rfl⟩
              have hS : sB a4 2 = (Xb == 1) := by rw [← hXb]; simp [sB]
              cases zX : (Xb == 1)
              · rw [zX] at hS
                have HS := hid hS
                clear hS
                go_wp2_with (first
                  | (at_builtin; refine wpList_moreE (Vm.mk 2 1 (a1 + 1) 0 (some ⟨mb, 0, none⟩) 1 [(0, 3)] (some ⟨wr.heap.size + 1 + 1, 0, none⟩) 1 [(⟨1, a1, c2, t2, k2, y2, v2⟩ : En)] none 0 []) rfl _ _ rfl rfl (HO.out.quiet (by repeat (first | exact Frm.refl _ _ | refine Frm.alloc ?_ _))) (fun k hk => by have := HFw.out.size; simp; omega) (blkn _ (wr.heap.size + 1 + 1 + 1) (by simp) (vmC (Vm.mk 2 1 (a1 + 1) 0 (some ⟨mb, 0, none⟩) 1 [(0, 3)] (some ⟨wr.heap.size + 1 + 1, 0, none⟩) 1 [(⟨1, a1, c2, t2, k2, y2, v2⟩ : En)] none 0 [])) TVm) (by rw [HLL.out]; decide) rfl rfl ?_; intro v' w6 ho' hf' hat'; have HO6 := hid ho'; have HF6 := hid ((HFw.out.trans (by repeat (first | exact Frm.refl _ _ | refine Frm.alloc ?_ _))).own hf' (fun k hk hn => HO.out.off k hk hn)); have HVM6 := hid (vm_app (r := (Vm.mk 2 1 (a1 + 1) 0 (some ⟨mb, 0, none⟩) 1 [(0, 3)] (some ⟨wr.heap.size + 1 + 1, 0, none⟩) 1 [(⟨1, a1, c2, t2, k2, y2, v2⟩ : En)] none 0 [])) hf' HO.out HVM.out (by repeat (first | exact Frm.refl _ _ | refine Frm.alloc ?_ _)) ⟨⟨row_one mkC_len ((HM.out.frm HFw.out (fun h => h)).frm (S := fun _ => False) (by repeat (first | exact Frm.refl _ _ | refine Frm.alloc ?_ _)) (fun h => h)), row_one enC_len ((blkn ((wr.alloc _).alloc _) (wr.heap.size + 1 + 1) (by simp) (enC (⟨1, a1, c2, t2, k2, y2, v2⟩ : En)) TEn).frm (S := fun _ => False) (by repeat (first | exact Frm.refl _ _ | refine Frm.alloc ?_ _)) (fun h => h)), IsRow.nil _ _⟩, OffT.blk ((HM.out.frm HFw.out (fun h => h)).frm (S := fun _ => False) (by repeat (first | exact Frm.refl _ _ | refine Frm.alloc ?_ _)) (fun h => h)) (by decide), OffT.blk ((blkn ((wr.alloc _).alloc _) (wr.heap.size + 1 + 1) (by simp) (enC (⟨1, a1, c2, t2, k2, y2, v2⟩ : En)) TEn).frm (S := fun _ => False) (by repeat (first | exact Frm.refl _ _ | refine Frm.alloc ?_ _)) (fun h => h)) (by decide), OffT.none _⟩); clear ho' hf' hat'))
                go_roundw
                case rel => exact ⟨2 + 1, n, _, by omega, by first | rfl | go_num, by first | rfl | go_num, by rw [nS, HN.out, HS.out]; rfl, by rw [List.length_append, HLL.out]; rfl, ls_app HLS.out HLL.out ⟨rfl, rfl, rfl, rfl, rfl, rfl, by rw [HS.out]; rfl⟩, HVM6.out, HO6.out, HF6.out⟩
                case measure => simp [intOf]
              · rw [zX] at hS
                have HS := hid hS
                clear hS
                have zt0 : ∀ A B C, (((wr.alloc A).alloc B).alloc C).cell? ⟨yb, 0, none⟩ = some (.int .u32 1) := fun A B C => (((HYw.out.frm (dbox wr A) (fun h => h)).frm (dbox (wr.alloc A) B) (fun h => h)).frm (dbox ((wr.alloc A).alloc B) C) (fun h => h)).cell 0
                have zt1 : ∀ A B C, (((wr.alloc A).alloc B).alloc C).cell? ⟨yb, 1, none⟩ = some (.int .u32 a1) := fun A B C => (((HYw.out.frm (dbox wr A) (fun h => h)).frm (dbox (wr.alloc A) B) (fun h => h)).frm (dbox ((wr.alloc A).alloc B) C) (fun h => h)).cell 1
                have zt2 : ∀ A B C, (((wr.alloc A).alloc B).alloc C).cell? ⟨yb, 2, none⟩ = some (.int .u8 c2) := fun A B C => (((HYw.out.frm (dbox wr A) (fun h => h)).frm (dbox (wr.alloc A) B) (fun h => h)).frm (dbox ((wr.alloc A).alloc B) C) (fun h => h)).cell 2
                have zt3 : ∀ A B C, (((wr.alloc A).alloc B).alloc C).cell? ⟨yb, 3, none⟩ = some (.int .u32 t2) := fun A B C => (((HYw.out.frm (dbox wr A) (fun h => h)).frm (dbox (wr.alloc A) B) (fun h => h)).frm (dbox ((wr.alloc A).alloc B) C) (fun h => h)).cell 3
                have zt4 : ∀ A B C, (((wr.alloc A).alloc B).alloc C).cell? ⟨yb, 4, none⟩ = some (.int .u8 k2) := fun A B C => (((HYw.out.frm (dbox wr A) (fun h => h)).frm (dbox (wr.alloc A) B) (fun h => h)).frm (dbox ((wr.alloc A).alloc B) C) (fun h => h)).cell 4
                have zt5 : ∀ A B C, (((wr.alloc A).alloc B).alloc C).cell? ⟨yb, 5, none⟩ = some (.int .u8 y2) := fun A B C => (((HYw.out.frm (dbox wr A) (fun h => h)).frm (dbox (wr.alloc A) B) (fun h => h)).frm (dbox ((wr.alloc A).alloc B) C) (fun h => h)).cell 5
                have zt6 : ∀ A B C, (((wr.alloc A).alloc B).alloc C).cell? ⟨yb, 6, none⟩ = some (.int .u16 v2) := fun A B C => (((HYw.out.frm (dbox wr A) (fun h => h)).frm (dbox (wr.alloc A) B) (fun h => h)).frm (dbox ((wr.alloc A).alloc B) C) (fun h => h)).cell 6
                have e64 : IntKind.i64.wrap ((n : Int) + 1) = (n : Int) + 1 := (by have h1 := HN.out; have h2 := nS_le (sB a4) 2; simp [IntKind.wrap, IntKind.bits, IntKind.signed]; omega)
                go_wp2_with (first
                  | (at_builtin; refine wpList_moreE (Vm.mk 2 1 (a1 + 1) 0 (some ⟨mb, 0, none⟩) 1 [(0, 3)] (some ⟨wr.heap.size + 1 + 1, 0, none⟩) 1 [(⟨1, a1, c2, t2, k2, y2, v2⟩ : En)] (some ⟨wr.heap.size + 1 + 1 + 1, 0, none⟩) 1 [(⟨1, a1, c2, t2, k2, y2, v2⟩ : En)]) rfl _ _ rfl rfl (HO.out.quiet (by repeat (first | exact Frm.refl _ _ | refine Frm.alloc ?_ _))) (fun k hk => by have := HFw.out.size; simp; omega) (blkn _ (wr.heap.size + 1 + 1 + 1 + 1) (by simp) (vmC (Vm.mk 2 1 (a1 + 1) 0 (some ⟨mb, 0, none⟩) 1 [(0, 3)] (some ⟨wr.heap.size + 1 + 1, 0, none⟩) 1 [(⟨1, a1, c2, t2, k2, y2, v2⟩ : En)] (some ⟨wr.heap.size + 1 + 1 + 1, 0, none⟩) 1 [(⟨1, a1, c2, t2, k2, y2, v2⟩ : En)])) TVm) (by rw [HLL.out]; decide) rfl rfl ?_; intro v' w6 ho' hf' hat'; have HO6 := hid ho'; have HF6 := hid ((HFw.out.trans (by repeat (first | exact Frm.refl _ _ | refine Frm.alloc ?_ _))).own hf' (fun k hk hn => HO.out.off k hk hn)); have HVM6 := hid (vm_app (r := (Vm.mk 2 1 (a1 + 1) 0 (some ⟨mb, 0, none⟩) 1 [(0, 3)] (some ⟨wr.heap.size + 1 + 1, 0, none⟩) 1 [(⟨1, a1, c2, t2, k2, y2, v2⟩ : En)] (some ⟨wr.heap.size + 1 + 1 + 1, 0, none⟩) 1 [(⟨1, a1, c2, t2, k2, y2, v2⟩ : En)])) hf' HO.out HVM.out (by repeat (first | exact Frm.refl _ _ | refine Frm.alloc ?_ _)) ⟨⟨row_one mkC_len ((HM.out.frm HFw.out (fun h => h)).frm (S := fun _ => False) (by repeat (first | exact Frm.refl _ _ | refine Frm.alloc ?_ _)) (fun h => h)), row_one enC_len ((blkn ((wr.alloc _).alloc _) (wr.heap.size + 1 + 1) (by simp) (enC (⟨1, a1, c2, t2, k2, y2, v2⟩ : En)) TEn).frm (S := fun _ => False) (by repeat (first | exact Frm.refl _ _ | refine Frm.alloc ?_ _)) (fun h => h)), row_one enC_len ((blkn (((wr.alloc _).alloc _).alloc _) (wr.heap.size + 1 + 1 + 1) (by simp) (enC (⟨1, a1, c2, t2, k2, y2, v2⟩ : En)) TEn).frm (S := fun _ => False) (by repeat (first | exact Frm.refl _ _ | refine Frm.alloc ?_ _)) (fun h => h))⟩, OffT.blk ((HM.out.frm HFw.out (fun h => h)).frm (S := fun _ => False) (by repeat (first | exact Frm.refl _ _ | refine Frm.alloc ?_ _)) (fun h => h)) (by decide), OffT.blk ((blkn ((wr.alloc _).alloc _) (wr.heap.size + 1 + 1) (by simp) (enC (⟨1, a1, c2, t2, k2, y2, v2⟩ : En)) TEn).frm (S := fun _ => False) (by repeat (first | exact Frm.refl _ _ | refine Frm.alloc ?_ _)) (fun h => h)) (by decide), OffT.blk ((blkn (((wr.alloc _).alloc _).alloc _) (wr.heap.size + 1 + 1 + 1) (by simp) (enC (⟨1, a1, c2, t2, k2, y2, v2⟩ : En)) TEn).frm (S := fun _ => False) (by repeat (first | exact Frm.refl _ _ | refine Frm.alloc ?_ _)) (fun h => h)) (by decide)⟩); clear ho' hf' hat'))
                go_roundw
                case rel => exact ⟨2 + 1, n + 1, _, by omega, by first | rfl | go_num, by first | rfl | go_num, by rw [nS, HN.out, HS.out]; rfl, by rw [List.length_append, HLL.out]; rfl, ls_app HLS.out HLL.out ⟨rfl, rfl, rfl, rfl, rfl, rfl, by rw [HS.out]; rfl⟩, HVM6.out, HO6.out, HF6.out⟩
                case measure => simp [intOf]
            · clear hj
              obtain ⟨g, cp, rfl, hgA, hgc, hgm, hgr⟩ := HO.out.row (by rw [HLL.out]; decide)
              have HVO := hid (last_vos ⟨(by show (0 : Int) ≤ 1; decide), hb0.1⟩ ⟨(by show (0 : Int) ≤ 1; decide), hb1.1⟩ hgr HVM.out HLS.out)
              rw [HLL.out] at hgc
              rw [HLL.out]
              have HBw := hid (HB.out.frm HFw.out (fun h => h))
              have HFz := hid (HF.out.trans HFw.out)
              obtain ⟨pk, em⟩ := last_plain HLL.out HLS.out rfl rfl g1 HZ.out
              rw [HN.out] at pk
              have HEM := hid em
              have hq2 := fun w => eql_re w c2 t2 k2 y2 v2 c2 t2 k2 y2 v2 true (by simp)
              clear hgr hgA p0 r0 p1 r1 p2 r2 p3 r3 p4 r4 p5 r5 p6 r6
              obtain ⟨zv, hzv⟩ : ∃ zv, vtsB (a1 + 1) l = zv := ⟨_, rfl⟩
              have HZV := hid hzv
              clear hzv em
              cases zv
              · go_wp2_with (first
                  | (go_at_call 17; (with_reducible refine (Votes_at HVO.out HLL.out (a1 + 1) false HZV.out _ (Frm.refl _ _)).mono ?_); rintro e w4 ⟨rfl, f'⟩; have HVO4 := hid (HVO.out.quiet f'); have HB4 := hid (HBw.out.frm f' (fun h => h)); have HF4 := hid (HFz.out.trans f'); clear HVO HBw HFz f'))
                go_ret
                exact ⟨rfl, HF4.out.below (Nat.le_refl _) (fun _ _ h => h)⟩
              · by_cases h2 : 2 ≤ n
                · rw [if_pos h2] at pk
                  have HPK := hid pk
                  have h3 : (2 : Int) ≤ (n : Int) := by omega
                  clear pk
                  go_wp2_with (first
                    | (go_at_call 17; (with_reducible refine (Votes_at HVO.out HLL.out (a1 + 1) true HZV.out _ (Frm.refl _ _)).mono ?_); rintro e w4 ⟨rfl, f'⟩; have HVO4 := hid (HVO.out.quiet f'); have HB4 := hid (HBw.out.frm f' (fun h => h)); have HF4 := hid (HFz.out.trans f'); clear HVO HBw HFz f')
                    | (go_at_call 13; (with_reducible refine (Pick_calls HVO4.out.row HLL.out HVO4.out.ok 1 HPK.out).mono ?_); rintro e w5 ⟨rfl, f'⟩; have HVO5 := hid ((HVO4.out.quiet f').quiet (dbox w5 (.cells #[.int .u8 c2, .int .u32 t2, .int .u8 k2, .int .u8 y2, .int .u16 v2] TRe))); have HF5 := hid ((HF4.out.trans f').trans (dbox w5 (.cells #[.int .u8 c2, .int .u32 t2, .int .u8 k2, .int .u8 y2, .int .u16 v2] TRe))); have s0 : ∀ o, (w5.alloc o).cell? ⟨w.heap.size + 1, 0, none⟩ = some (.int .u8 c2) := (fun o => ((HB4.out.frm f' (fun h => h)).frm (dbox w5 o) (fun h => h)).cell 0); have s1 : ∀ o, (w5.alloc o).cell? ⟨w.heap.size + 1, 1, none⟩ = some (.int .u32 t2) := (fun o => ((HB4.out.frm f' (fun h => h)).frm (dbox w5 o) (fun h => h)).cell 1); have s2 : ∀ o, (w5.alloc o).cell? ⟨w.heap.size + 1, 2, none⟩ = some (.int .u8 k2) := (fun o => ((HB4.out.frm f' (fun h => h)).frm (dbox w5 o) (fun h => h)).cell 2); have s3 : ∀ o, (w5.alloc o).cell? ⟨w.heap.size + 1, 3, none⟩ = some (.int .u8 y2) := (fun o => ((HB4.out.frm f' (fun h => h)).frm (dbox w5 o) (fun h => h)).cell 3); have s4 : ∀ o, (w5.alloc o).cell? ⟨w.heap.size + 1, 4, none⟩ = some (.int .u16 v2) := (fun o => ((HB4.out.frm f' (fun h => h)).frm (dbox w5 o) (fun h => h)).cell 4); clear HVO4 HF4 HB4 f')
                    | (go_at_call 19; (with_reducible refine (Empty_calls HVO5.out.row HLL.out HVO5.out.ok 1 false HEM.out).mono ?_); rintro e w6 ⟨rfl, f'⟩; have HF6 := hid (HF5.out.trans f'); clear HVO5 HF5 f'))
                  go_ret
                  exact ⟨rfl, HF6.out.below (Nat.le_refl _) (fun _ _ h => h)⟩
                · rw [if_neg h2] at pk
                  have HPK := hid (show pickR l 1 = ⟨false, 0, ⟨0, 0, 0, 0, 0, 0, 0⟩⟩ from pk)
                  have h3 : ¬ (2 : Int) ≤ (n : Int) := by omega
                  clear pk
                  go_wp2_with (first
                    | (go_at_call 17; (with_reducible refine (Votes_at HVO.out HLL.out (a1 + 1) true HZV.out _ (Frm.refl _ _)).mono ?_); rintro e w4 ⟨rfl, f'⟩; have HVO4 := hid (HVO.out.quiet f'); have HB4 := hid (HBw.out.frm f' (fun h => h)); have HF4 := hid (HFz.out.trans f'); clear HVO HBw HFz f')
                    | (go_at_call 13; (with_reducible refine (Pick_calls HVO4.out.row HLL.out HVO4.out.ok 1 HPK.out).mono ?_); rintro e w5 ⟨rfl, f'⟩; have HVO5 := hid ((HVO4.out.quiet f').quiet (dbox w5 (.cells #[.int .u8 0, .int .u32 0, .int .u8 0, .int .u8 0, .int .u16 0] TRe))); have HF5 := hid ((HF4.out.trans f').trans (dbox w5 (.cells #[.int .u8 0, .int .u32 0, .int .u8 0, .int .u8 0, .int .u16 0] TRe))); have s0 : ∀ o, (w5.alloc o).cell? ⟨w.heap.size + 1, 0, none⟩ = some (.int .u8 c2) := (fun o => ((HB4.out.frm f' (fun h => h)).frm (dbox w5 o) (fun h => h)).cell 0); have s1 : ∀ o, (w5.alloc o).cell? ⟨w.heap.size + 1, 1, none⟩ = some (.int .u32 t2) := (fun o => ((HB4.out.frm f' (fun h => h)).frm (dbox w5 o) (fun h => h)).cell 1); have s2 : ∀ o, (w5.alloc o).cell? ⟨w.heap.size + 1, 2, none⟩ = some (.int .u8 k2) := (fun o => ((HB4.out.frm f' (fun h => h)).frm (dbox w5 o) (fun h => h)).cell 2); have s3 : ∀ o, (w5.alloc o).cell? ⟨w.heap.size + 1, 3, none⟩ = some (.int .u8 y2) := (fun o => ((HB4.out.frm f' (fun h => h)).frm (dbox w5 o) (fun h => h)).cell 3); have s4 : ∀ o, (w5.alloc o).cell? ⟨w.heap.size + 1, 4, none⟩ = some (.int .u16 v2) := (fun o => ((HB4.out.frm f' (fun h => h)).frm (dbox w5 o) (fun h => h)).cell 4); clear HVO4 HF4 HB4 f')
                    | (go_at_call 19; (with_reducible refine (Empty_calls HVO5.out.row HLL.out HVO5.out.ok 1 false HEM.out).mono ?_); rintro e w6 ⟨rfl, f'⟩; have HF6 := hid (HF5.out.trans f'); clear HVO5 HF5 f'))
                  go_ret
                  exact ⟨ret_bool (by rw [decide_eq_false (show ¬ (2 : Int) ≤ (n : Int) by omega)]; rfl), HF6.out.below (Nat.le_refl _) (fun _ _ h => h)⟩
        · have HX := hid (show Blk (((w2.alloc (.cells #[.int .u32 1, .int .u32 a1, .int .u8 c2, .int .u32 t2, .int .u8 k2, .int .u8 y2, .int .u16 v2] TEn)).alloc (.cells #[.int .u32 1, .int .u32 a0, .int .u8 c, .int .u32 t, .int .u8 k, .int .u8 y, .int .u16 v] TEn)).drew) (w2.heap.size + 1) (enC (⟨1, a0, c, t, k, y, v⟩ : En)) TEn from (two_boxes w2 (enC (⟨1, a1, c2, t2, k2, y2, v2⟩ : En)) (enC (⟨1, a0, c, t, k, y, v⟩ : En)) TEn TEn).drew); have HY := hid (show Blk (((w2.alloc (.cells #[.int .u32 1, .int .u32 a1, .int .u8 c2, .int .u32 t2, .int .u8 k2, .int .u8 y2, .int .u16 v2] TEn)).alloc (.cells #[.int .u32 1, .int .u32 a0, .int .u8 c, .int .u32 t, .int .u8 k, .int .u8 y, .int .u16 v] TEn)).drew) w2.heap.size (enC (⟨1, a1, c2, t2, k2, y2, v2⟩ : En)) TEn from ((Blk.new w2 (enC (⟨1, a1, c2, t2, k2, y2, v2⟩ : En)) TEn).frm (dbox _ (.cells #[.int .u32 1, .int .u32 a0, .int .u8 c, .int .u32 t, .int .u8 k, .int .u8 y, .int .u16 v] TEn)) (fun h => h)).drew)
          have HF3 := hid (show Frm (fun _ => False) w2 (((w2.alloc (.cells #[.int .u32 1, .int .u32 a1, .int .u8 c2, .int .u32 t2, .int .u8 k2, .int .u8 y2, .int .u16 v2] TEn)).alloc (.cells #[.int .u32 1, .int .u32 a0, .int .u8 c, .int .u32 t, .int .u8 k, .int .u8 y, .int .u16 v] TEn)).drew) from ((dbox w2 _).trans (dbox _ _)).drew)
          generalize ((w2.alloc (.cells #[.int .u32 1, .int .u32 a1, .int .u8 c2, .int .u32 t2, .int .u8 k2, .int .u8 y2, .int .u16 v2] TEn)).alloc (.cells #[.int .u32 1, .int .u32 a0, .int .u8 c, .int .u32 t, .int .u8 k, .int .u8 y, .int .u16 v] TEn)).drew = w3 at *
          have HXY := hid (show ¬ w2.heap.size = w2.heap.size + 1 by omega)
          generalize w2.heap.size + 1 = xb at *
          generalize w2.heap.size = yb at *
          have HA := hid (HA2.out.frm HF3.out (fun h => h)); have HB := hid (HB2.out.frm HF3.out (fun h => h)); have HM := hid (HM2.out.frm HF3.out (fun h => h)); have HF := hid (HF2.out.trans HF3.out)
          clear HA2 HB2 HM2 HF2 HF3 q0 q1 q2 q3 q4 s0 s1 s2 s3 s4 l1 l2
          have HF0 := hid (Frm.refl (fun _ => False) w3)
          have HO0 := hid (OwnE.nil w3 (fun k => k < w3.heap.size))
          go_wp2
          go_loopw [14, 15, 16] (fun lv nv iv wr => ∃ (j n : Nat) (l : List Vm), j ≤ 3 ∧ nv = .int .i64 n ∧ iv = .int .u8 j ∧ nS (sB a4) j = n ∧ l.length = j ∧ (∀ i vm, l[i]? = some vm → LstV (⟨1, a0, c, t, k, y, v⟩ : En) (⟨1, a1, c2, t2, k2, y2, v2⟩ : En) (a1 + 1) (sB a4) i vm) ∧ (∀ vm ∈ l, VmT wr vm) ∧ OwnE wr (fun k => k < w3.heap.size) lv l ∧ Frm (fun _ => False) w3 wr) (fun _ _ i _ => 3 - (intOf i).toNat)
          case atStart => exact ⟨0, 0, [], by omega, rfl, rfl, rfl, rfl, fun i v h => by simp at h, fun v h => by simp at h, HO0.out, HF0.out⟩
          case round =>
            clear HO0 HF0
            obtain ⟨j, n, l, hj, rfl, rfl, hn, hl, hls, hvm, ho, hf⟩ := hrel
            have HFw := hid hf; have HO := hid ho; have HVM := hid hvm; have HLS := hid hls; have HN := hid hn; have HLL := hid hl
            clear hf ho hvm hls hn hl
            have HXw := hid (HX.out.frm HFw.out (fun h => h)); have HYw := hid (HY.out.frm HFw.out (fun h => h))
            have p0 := HXw.out.cell 0; have p1 := HXw.out.cell 1; have p2 := HXw.out.cell 2; have p3 := HXw.out.cell 3; have p4 := HXw.out.cell 4; have p5 := HXw.out.cell 5; have p6 := HXw.out.cell 6; (simp only [enC, List.getElem?_cons_succ, List.getElem?_cons_zero] at p0 p1 p2 p3 p4 p5 p6); have r0 := HYw.out.cell 0; have r1 := HYw.out.cell 1; have r2 := HYw.out.cell 2; have r3 := HYw.out.cell 3; have r4 := HYw.out.cell 4; have r5 := HYw.out.cell 5; have r6 := HYw.out.cell 6; (simp only [enC, List.getElem?_cons_succ, List.getElem?_cons_zero] at r0 r1 r2 r3 r4 r5 r6)
            have lx := HXw.out.lt; have ly := HYw.out.lt
            have ew : IntKind.u32.wrap (a1 + 1) = a1 + 1 := by simp [IntKind.wrap, IntKind.bits, IntKind.signed]; omega
            rcases (show j = 0 ∨ j = 1 ∨ j = 2 ∨ j = 3 by omega) with rfl | rfl | rfl | rfl
            · clear hj
              obtain ⟨Xb, hXb⟩ : ∃ X, Go.bits .and .u8 a4 1 = X := ⟨_, rfl⟩
              have hS : sB a4 0 = (Xb == 1) := by rw [← hXb]; simp [sB]
              cases zX : (Xb == 1)
              · rw [zX] at hS
                have HS := hid hS
                clear hS
                go_wp2_with (first
                  | (at_builtin; refine wpList_moreE (Vm.mk 0 1 (a1 + 1) 0 (some ⟨mb, 0, none⟩) 1 [(0, 3)] (some ⟨wr.heap.size, 0, none⟩) 1 [(⟨1, a0, c, t, k, y, v⟩ : En)] none 0 []) rfl _ _ rfl rfl (HO.out.quiet (by repeat (first | exact Frm.refl _ _ | refine Frm.alloc ?_ _))) (fun k hk => by have := HFw.out.size; simp; omega) (blkn _ (wr.heap.size + 1 + 1) (by simp) (vmC (Vm.mk 0 1 (a1 + 1) 0 (some ⟨mb, 0, none⟩) 1 [(0, 3)] (some ⟨wr.heap.size, 0, none⟩) 1 [(⟨1, a0, c, t, k, y, v⟩ : En)] none 0 [])) TVm) (by rw [HLL.out]; decide) rfl rfl ?_; intro v' w6 ho' hf' hat'; have HO6 := hid ho'; have HF6 := hid ((HFw.out.trans (by repeat (first | exact Frm.refl _ _ | refine Frm.alloc ?_ _))).own hf' (fun k hk hn => HO.out.off k hk hn)); have HVM6 := hid (vm_app (r := (Vm.mk 0 1 (a1 + 1) 0 (some ⟨mb, 0, none⟩) 1 [(0, 3)] (some ⟨wr.heap.size, 0, none⟩) 1 [(⟨1, a0, c, t, k, y, v⟩ : En)] none 0 [])) hf' HO.out HVM.out (by repeat (first | exact Frm.refl _ _ | refine Frm.alloc ?_ _)) ⟨⟨row_one mkC_len ((HM.out.frm HFw.out (fun h => h)).frm (S := fun _ => False) (by repeat (first | exact Frm.refl _ _ | refine Frm.alloc ?_ _)) (fun h => h)), row_one enC_len ((Blk.new wr (enC (⟨1, a0, c, t, k, y, v⟩ : En)) TEn).frm (S := fun _ => False) (by repeat (first | exact Frm.refl _ _ | refine Frm.alloc ?_ _)) (fun h => h)), IsRow.nil _ _⟩, OffT.blk ((HM.out.frm HFw.out (fun h => h)).frm (S := fun _ => False) (by repeat (first | exact Frm.refl _ _ | refine Frm.alloc ?_ _)) (fun h => h)) (by decide), OffT.blk ((Blk.new wr (enC (⟨1, a0, c, t, k, y, v⟩ : En)) TEn).frm (S := fun _ => False) (by repeat (first | exact Frm.refl _ _ | refine Frm.alloc ?_ _)) (fun h => h)) (by decide), OffT.none _⟩); clear ho' hf' hat'))
                go_roundw
                case rel => exact ⟨0 + 1, n, _, by omega, by first | rfl | go_num, by first | rfl | go_num, by rw [nS, HN.out, HS.out]; rfl, by rw [List.length_append, HLL.out]; rfl, ls_app HLS.out HLL.out ⟨rfl, rfl, rfl, rfl, rfl, rfl, by rw [HS.out]; rfl⟩, HVM6.out, HO6.out, HF6.out⟩
                case measure => simp [intOf]
              · rw [zX] at hS
                have HS := hid hS
                clear hS
                have e64 : IntKind.i64.wrap ((n : Int) + 1) = (n : Int) + 1 := (by have h1 := HN.out; have h2 := nS_le (sB a4) 0; simp [IntKind.wrap, IntKind.bits, IntKind.signed]; omega)
                go_wp2_with (first
                  | (at_builtin; refine wpList_moreE (Vm.mk 0 1 (a1 + 1) 0 (some ⟨mb, 0, none⟩) 1 [(0, 3)] (some ⟨wr.heap.size, 0, none⟩) 1 [(⟨1, a0, c, t, k, y, v⟩ : En)] (some ⟨wr.heap.size + 1 + 1, 0, none⟩) 1 [(⟨1, a1, c2, t2, k2, y2, v2⟩ : En)]) rfl _ _ rfl rfl (HO.out.quiet (by repeat (first | exact Frm.refl _ _ | refine Frm.alloc ?_ _))) (fun k hk => by have := HFw.out.size; simp; omega) (blkn _ (wr.heap.size + 1 + 1 + 1) (by simp) (vmC (Vm.mk 0 1 (a1 + 1) 0 (some ⟨mb, 0, none⟩) 1 [(0, 3)] (some ⟨wr.heap.size, 0, none⟩) 1 [(⟨1, a0, c, t, k, y, v⟩ : En)] (some ⟨wr.heap.size + 1 + 1, 0, none⟩) 1 [(⟨1, a1, c2, t2, k2, y2, v2⟩ : En)])) TVm) (by rw [HLL.out]; decide) rfl rfl ?_; intro v' w6 ho' hf' hat'; have HO6 := hid ho'; have HF6 := hid ((HFw.out.trans (by repeat (first | exact Frm.refl _ _ | refine Frm.alloc ?_ _))).own hf' (fun k hk hn => HO.out.off k hk hn)); have HVM6 := hid (vm_app (r := (Vm.mk 0 1 (a1 + 1) 0 (some ⟨mb, 0, none⟩) 1 [(0, 3)] (some ⟨wr.heap.size, 0, none⟩) 1 [(⟨1, a0, c, t, k, y, v⟩ : En)] (some ⟨wr.heap.size + 1 + 1, 0, none⟩) 1 [(⟨1, a1, c2, t2, k2, y2, v2⟩ : En)])) hf' HO.out HVM.out (by repeat (first | exact Frm.refl _ _ | refine Frm.alloc ?_ _)) ⟨⟨row_one mkC_len ((HM.out.frm HFw.out (fun h => h)).frm (S := fun _ => False) (by repeat (first | exact Frm.refl _ _ | refine Frm.alloc ?_ _)) (fun h => h)), row_one enC_len ((Blk.new wr (enC (⟨1, a0, c, t, k, y, v⟩ : En)) TEn).frm (S := fun _ => False) (by repeat (first | exact Frm.refl _ _ | refine Frm.alloc ?_ _)) (fun h => h)), row_one enC_len ((blkn ((wr.alloc _).alloc _) (wr.heap.size + 1 + 1) (by simp) (enC (⟨1, a1, c2, t2, k2, y2, v2⟩ : En)) TEn).frm (S := fun _ => False) (by repeat (first | exact Frm.refl _ _ | refine Frm.alloc ?_ _)) (fun h => h))⟩, OffT.blk ((HM.out.frm HFw.out (fun h => h)).frm (S := fun _ => False) (by repeat (first | exact Frm.refl _ _ | refine Frm.alloc ?_ _)) (fun h => h)) (by decide), OffT.blk ((Blk.new wr (enC (⟨1, a0, c, t, k, y, v⟩ : En)) TEn).frm (S := fun _ => False) (by repeat (first | exact Frm.refl _ _ | refine Frm.alloc ?_ _)) (fun h => h)) (by decide), OffT.blk ((blkn ((wr.alloc _).alloc _) (wr.heap.size + 1 + 1) (by simp) (enC (⟨1, a1, c2, t2, k2, y2, v2⟩ : En)) TEn).frm (S := fun _ => False) (by repeat (first | exact Frm.refl _ _ | refine Frm.alloc ?_ _)) (fun h => h)) (by decide)⟩); clear ho' hf' hat'))
                go_roundw
                case rel => exact ⟨0 + 1, n + 1, _, by omega, by first | rfl | go_num, by first | rfl | go_num, by rw [nS, HN.out, HS.out]; rfl, by rw [List.length_append, HLL.out]; rfl, ls_app HLS.out HLL.out ⟨rfl, rfl, rfl, rfl, rfl, rfl, by rw [HS.out]; rfl⟩, HVM6.out, HO6.out, HF6.out⟩
                case measure => simp [intOf]
            · clear hj
              obtain ⟨Xb, hXb⟩ : ∃ X, Go.bits .and .u8 (a4 / 2) 1 = X := ⟨_, rfl⟩
              have hS : sB a4 1 = (Xb == 1) := by rw [← hXb]; simp [sB]
              cases zX : (Xb == 1)
              · rw [zX] at hS
                have HS := hid hS
                clear hS
                go_wp2_with (first
                  | (at_builtin; refine wpList_moreE (Vm.mk 1 1 (a1 + 1) 0 (some ⟨mb, 0, none⟩) 1 [(0, 3)] (some ⟨wr.heap.size, 0, none⟩) 1 [(⟨1, a0, c, t, k, y, v⟩ : En)] none 0 []) rfl _ _ rfl rfl (HO.out.quiet (by repeat (first | exact Frm.refl _ _ | refine Frm.alloc ?_ _))) (fun k hk => by have := HFw.out.size; simp; omega) (blkn _ (wr.heap.size + 1 + 1) (by simp) (vmC (Vm.mk 1 1 (a1 + 1) 0 (some ⟨mb, 0, none⟩) 1 [(0, 3)] (some ⟨wr.heap.size, 0, none⟩) 1 [(⟨1, a0, c, t, k, y, v⟩ : En)] none 0 [])) TVm) (by rw [HLL.out]; decide) rfl rfl ?_; intro v' w6 ho' hf' hat'; have HO6 := hid ho'; have HF6 := hid ((HFw.out.trans (by repeat (first | exact Frm.refl _ _ | refine Frm.alloc ?_ _))).own hf' (fun k hk hn => HO.out.off k hk hn)); have HVM6 := hid (vm_app (r := (Vm.mk 1 1 (a1 + 1) 0 (some ⟨mb, 0, none⟩) 1 [(0, 3)] (some ⟨wr.heap.size, 0, none⟩) 1 [(⟨1, a0, c, t, k, y, v⟩ : En)] none 0 [])) hf' HO.out HVM.out (by repeat (first | exact Frm.refl _ _ | refine Frm.alloc ?_ _)) ⟨⟨row_one mkC_len ((HM.out.frm HFw.out (fun h => h)).frm (S := fun _ => False) (by repeat (first | exact Frm.refl _ _ | refine Frm.alloc ?_ _)) (fun h => h)), row_one enC_len ((Blk.new wr (enC (⟨1, a0, c, t, k, y, v⟩ : En)) TEn).frm (S := fun _ => False) (by repeat (first | exact Frm.refl _ _ | refine Frm.alloc ?_ _)) (fun h => h)), IsRow.nil _ _⟩, OffT.blk ((HM.out.frm HFw.out (fun h => h)).frm (S := fun _ => False) (by repeat (first | exact Frm.refl _ _ | refine Frm.alloc ?_ _)) (fun h => h)) (by decide), OffT.blk ((Blk.new wr (enC (⟨1, a0, c, t, k, y, v⟩ : En)) TEn).frm (S := fun _ => False) (by repeat (first | exact Frm.refl _ _ | refine Frm.alloc ?_ _)) (fun h => h)) (by decide), OffT.none _⟩); clear ho' hf' hat'))
                go_roundw
                case rel => exact ⟨1 + 1, n, _, by omega, by first | rfl | go_num, by first | rfl | go_num, by rw [nS, HN.out, HS.out]; rfl, by rw [List.length_append, HLL.out]; rfl, ls_app HLS.out HLL.out ⟨rfl, rfl, rfl, rfl, rfl, rfl, by rw [HS.out]; rfl⟩, HVM6.out, HO6.out, HF6.out⟩
                case measure => simp [intOf]
              · rw [zX] at hS
                have HS := hid hS
                clear hS
                have e64 : IntKind.i64.wrap ((n : Int) + 1) = (n : Int) + 1 := (by have h1 := HN.out; have h2 := nS_le (sB a4) 1; simp [IntKind.wrap, IntKind.bits, IntKind.signed]; omega)
                go_wp2_with (first
                  | (at_builtin; refine wpList_moreE (Vm.mk 1 1 (a1 + 1) 0 (some ⟨mb, 0, none⟩) 1 [(0, 3)] (some ⟨wr.heap.size, 0, none⟩) 1 [(⟨1, a0, c, t, k, y, v⟩ : En)] (some ⟨wr.heap.size + 1 + 1, 0, none⟩) 1 [(⟨1, a1, c2, t2, k2, y2, v2⟩ : En)]) rfl _ _ rfl rfl (HO.out.quiet (by repeat (first | exact Frm.refl _ _ | refine Frm.alloc ?_ _))) (fun k hk => by have := HFw.out.size; simp; omega) (blkn _ (wr.heap.size + 1 + 1 + 1) (by simp) (vmC (Vm.mk 1 1 (a1 + 1) 0 (some ⟨mb, 0, none⟩) 1 [(0, 3)] (some ⟨wr.heap.size, 0, none⟩) 1 [(⟨1, a0, c, t, k, y, v⟩ : En)] (some ⟨wr.heap.size + 1 + 1, 0, none⟩) 1 [(⟨1, a1, c2, t2, k2, y2, v2⟩ : En)])) TVm) (by rw [HLL.out]; decide) rfl rfl ?_; intro v' w6 ho' hf' hat'; have HO6 := hid ho'; have HF6 := hid ((HFw.out.trans (by repeat (first | exact Frm.refl _ _ | refine Frm.alloc ?_ _))).own hf' (fun k hk hn => HO.out.off k hk hn)); have HVM6 := hid (vm_app (r := (Vm.mk 1 1 (a1 + 1) 0 (some ⟨mb, 0, none⟩) 1 [(0, 3)] (some ⟨wr.heap.size, 0, none⟩) 1 [(⟨1, a0, c, t, k, y, v⟩ : En)] (some ⟨wr.heap.size + 1 + 1, 0, none⟩) 1 [(⟨1, a1, c2, t2, k2, y2, v2⟩ : En)])) hf' HO.out HVM.out (by repeat (first | exact Frm.refl _ _ | refine Frm.alloc ?_ _)) ⟨⟨row_one mkC_len ((HM.out.frm HFw.out (fun h => h)).frm (S := fun _ => False) (by repeat (first | exact Frm.refl _ _ | refine Frm.alloc ?_ _)) (fun h => h)), row_one enC_len ((Blk.new wr (enC (⟨1, a0, c, t, k, y, v⟩ : En)) TEn).frm (S := fun _ => False) (by repeat (first | exact Frm.refl _ _ | refine Frm.alloc ?_ _)) (fun h => h)), row_one enC_len ((blkn ((wr.alloc _).alloc _) (wr.heap.size + 1 + 1) (by simp) (enC (⟨1, a1, c2, t2, k2, y2, v2⟩ : En)) TEn).frm (S := fun _ => False) (by repeat (first | exact Frm.refl _ _ | refine Frm.alloc ?_ _)) (fun h => h))⟩, OffT.blk ((HM.out.frm HFw.out (fun h => h)).frm (S := fun _ => False) (by repeat (first | exact Frm.refl _ _ | refine Frm.alloc ?_ _)) (fun h => h)) (by decide), OffT.blk ((Blk.new wr (enC (⟨1, a0, c, t, k, y, v⟩ : En)) TEn).frm (S := fun _ => False) (by repeat (first | exact Frm.refl _ _ | refine Frm.alloc ?_ _)) (fun h => h)) (by decide), OffT.blk ((blkn ((wr.alloc _).alloc _) (wr.heap.size + 1 + 1) (by simp) (enC (⟨1, a1, c2, t2, k2, y2, v2⟩ : En)) TEn).frm (S := fun _ => False) (by repeat (first | exact Frm.refl _ _ | refine Frm.alloc ?_ _)) (fun h => h)) (by decide)⟩); clear ho' hf' hat'))
                go_roundw
                case rel => exact ⟨1 + 1, n + 1, _, by omega, by first | rfl | go_num, by first | rfl | go_num, by rw [nS, HN.out, HS.out]; rfl, by rw [List.length_append, HLL.out]; rfl, ls_app HLS.out HLL.out ⟨rfl, rfl, rfl, rfl, rfl, rfl, by rw [HS.out]; rfl⟩, HVM6.out, HO6.out, HF6.out⟩
                case measure => simp [intOf]
            · clear hj
              obtain ⟨Xb, hXb⟩ : ∃ X, Go.bits .and .u8 (a4 / 4) 1 = X := ⟨_, rfl⟩
              have hS : sB a4 2 = (Xb == 1) := by rw [← hXb]; simp [sB]
              cases zX : (Xb == 1)
              · rw [zX] at hS
                have HS := hid hS
                clear hS
                go_wp2_with (first
                  | (at_builtin; refine wpList_moreE (Vm.mk 2 1 (a1 + 1) 0 (some ⟨mb, 0, none⟩) 1 [(0, 3)] (some ⟨wr.heap.size + 1 + 1, 0, none⟩) 1 [(⟨1, a1, c2, t2, k2, y2, v2⟩ : En)] none 0 []) rfl _ _ rfl rfl (HO.out.quiet (by repeat (first | exact Frm.refl _ _ | refine Frm.alloc ?_ _))) (fun k hk => by have := HFw.out.size; simp; omega) (blkn _ (wr.heap.size + 1 + 1 + 1) (by simp) (vmC (Vm.mk 2 1 (a1 + 1) 0 (some ⟨mb, 0, none⟩) 1 [(0, 3)] (some ⟨wr.heap.size + 1 + 1, 0, none⟩) 1 [(⟨1, a1, c2, t2, k2, y2, v2⟩ : En)] none 0 [])) TVm) (by rw [HLL.out]; decide) rfl rfl ?_; intro v' w6 ho' hf' hat'; have HO6 := hid ho'; have HF6 := hid ((HFw.out.trans (by repeat (first | exact Frm.refl _ _ | refine Frm.alloc ?_ _))).own hf' (fun k hk hn => HO.out.off k hk hn)); have HVM6 := hid (vm_app (r := (Vm.mk 2 1 (a1 + 1) 0 (some ⟨mb, 0, none⟩) 1 [(0, 3)] (some ⟨wr.heap.size + 1 + 1, 0, none⟩) 1 [(⟨1, a1, c2, t2, k2, y2, v2⟩ : En)] none 0 [])) hf' HO.out HVM.out (by repeat (first | exact Frm.refl _ _ | refine Frm.alloc ?_ _)) ⟨⟨row_one mkC_len ((HM.out.frm HFw.out (fun h => h)).frm (S := fun _ => False) (by repeat (first | exact Frm.refl _ _ | refine Frm.alloc ?_ _)) (fun h => h)), row_one enC_len ((blkn ((wr.alloc _).alloc _) (wr.heap.size + 1 + 1) (by simp) (enC (⟨1, a1, c2, t2, k2, y2, v2⟩ : En)) TEn).frm (S := fun _ => False) (by repeat (first | exact Frm.refl _ _ | refine Frm.alloc ?_ _)) (fun h => h)), IsRow.nil _ _⟩, OffT.blk ((HM.out.frm HFw.out (fun h => h)).frm (S := fun _ => False) (by repeat (first | exact Frm.refl _ _ | refine Frm.alloc ?_ _)) (fun h => h)) (by decide), OffT.blk ((blkn ((wr.alloc _).alloc _) (wr.heap.size + 1 + 1) (by simp) (enC (⟨1, a1, c2, t2, k2, y2, v2⟩ : En)) TEn).frm (S := fun _ => False) (by repeat (first | exact Frm.refl _ _ | refine Frm.alloc ?_ _)) (fun h => h)) (by decide), OffT.none _⟩); clear ho' hf' hat'))
                go_roundw
                case rel => exact ⟨2 + 1, n, _, by omega, by first | rfl | go_num, by first | rfl | go_num, by rw [nS, HN.out, HS.out]; rfl, by rw [List.length_append, HLL.out]; rfl, ls_app HLS.out HLL.out ⟨rfl, rfl, rfl, rfl, rfl, rfl, by rw [HS.out]; rfl⟩, HVM6.out, HO6.out, HF6.out⟩
                case measure => simp [intOf]
              · rw [zX] at hS
                have HS := hid hS
                clear hS
                have zt0 : ∀ A B C, (((wr.alloc A).alloc B).alloc C).cell? ⟨yb, 0, none⟩ = some (.int .u32 1) := fun A B C => (((HYw.out.frm (dbox wr A) (fun h => h)).frm (dbox (wr.alloc A) B) (fun h => h)).frm (dbox ((wr.alloc A).alloc B) C) (fun h => h)).cell 0
                have zt1 : ∀ A B C, (((wr.alloc A).alloc B).alloc C).cell? ⟨yb, 1, none⟩ = some (.int .u32 a1) := fun A B C => (((HYw.out.frm (dbox wr A) (fun h => h)).frm (dbox (wr.alloc A) B) (fun h => h)).frm (dbox ((wr.alloc A).alloc B) C) (fun h => h)).cell 1
                have zt2 : ∀ A B C, (((wr.alloc A).alloc B).alloc C).cell? ⟨yb, 2, none⟩ = some (.int .u8 c2) := fun A B C => (((HYw.out.frm (dbox wr A) (fun h => h)).frm (dbox (wr.alloc A) B) (fun h => h)).frm (dbox ((wr.alloc A).alloc B) C) (fun h => h)).cell 2
                have zt3 : ∀ A B C, (((wr.alloc A).alloc B).alloc C).cell? ⟨yb, 3, none⟩ = some (.int .u32 t2) := fun A B C => (((HYw.out.frm (dbox wr A) (fun h => h)).frm (dbox (wr.alloc A) B) (fun h => h)).frm (dbox ((wr.alloc A).alloc B) C) (fun h => h)).cell 3
                have zt4 : ∀ A B C, (((wr.alloc A).alloc B).alloc C).cell? ⟨yb, 4, none⟩ = some (.int .u8 k2) := fun A B C => (((HYw.out.frm (dbox wr A) (fun h => h)).frm (dbox (wr.alloc A) B) (fun h => h)).frm (dbox ((wr.alloc A).alloc B) C) (fun h => h)).cell 4
                have zt5 : ∀ A B C, (((wr.alloc A).alloc B).alloc C).cell? ⟨yb, 5, none⟩ = some (.int .u8 y2) := fun A B C => (((HYw.out.frm (dbox wr A) (fun h => h)).frm (dbox (wr.alloc A) B) (fun h => h)).frm (dbox ((wr.alloc A).alloc B) C) (fun h => h)).cell 5
                have zt6 : ∀ A B C, (((wr.alloc A).alloc B).alloc C).cell? ⟨yb, 6, none⟩ = some (.int .u16 v2) := fun A B C => (((HYw.out.frm (dbox wr A) (fun h => h)).frm (dbox (wr.alloc A) B) (fun h => h)).frm (dbox ((wr.alloc A).alloc B) C) (fun h => h)).cell 6
                have e64 : IntKind.i64.wrap ((n : Int) + 1) = (n : Int) + 1 := (by have h1 := HN.out; have h2 := nS_le (sB a4) 2; simp [IntKind.wrap, IntKind.bits, IntKind.signed]; omega)
                go_wp2_with (first
                  | (at_builtin; refine wpList_moreE (Vm.mk 2 1 (a1 + 1) 0 (some ⟨mb, 0, none⟩) 1 [(0, 3)] (some ⟨wr.heap.size + 1 + 1, 0, none⟩) 1 [(⟨1, a1, c2, t2, k2, y2, v2⟩ : En)] (some ⟨wr.heap.size + 1 + 1 + 1, 0, none⟩) 1 [(⟨1, a1, c2, t2, k2, y2, v2⟩ : En)]) rfl _ _ rfl rfl (HO.out.quiet (by repeat (first | exact Frm.refl _ _ | refine Frm.alloc ?_ _))) (fun k hk => by have := HFw.out.size; simp; omega) (blkn _ (wr.heap.size + 1 + 1 + 1 + 1) (by simp) (vmC (Vm.mk 2 1 (a1 + 1) 0 (some ⟨mb, 0, none⟩) 1 [(0, 3)] (some ⟨wr.heap.size + 1 + 1, 0, none⟩) 1 [(⟨1, a1, c2, t2, k2, y2, v2⟩ : En)] (some ⟨wr.heap.size + 1 + 1 + 1, 0, none⟩) 1 [(⟨1, a1, c2, t2, k2, y2, v2⟩ : En)])) TVm) (by rw [HLL.out]; decide) rfl rfl ?_; intro v' w6 ho' hf' hat'; have HO6 := hid ho'; have HF6 := hid ((HFw.out.trans (by repeat (first | exact Frm.refl _ _ | refine Frm.alloc ?_ _))).own hf' (fun k hk hn => HO.out.off k hk hn)); have HVM6 := hid (vm_app (r := (Vm.mk 2 1 (a1 + 1) 0 (some ⟨mb, 0, none⟩) 1 [(0, 3)] (some ⟨wr.heap.size + 1 + 1, 0, none⟩) 1 [(⟨1, a1, c2, t2, k2, y2, v2⟩ : En)] (some ⟨wr.heap.size + 1 + 1 + 1, 0, none⟩) 1 [(⟨1, a1, c2, t2, k2, y2, v2⟩ : En)])) hf' HO.out HVM.out (by repeat (first | exact Frm.refl _ _ | refine Frm.alloc ?_ _)) ⟨⟨row_one mkC_len ((HM.out.frm HFw.out (fun h => h)).frm (S := fun _ => False) (by repeat (first | exact Frm.refl _ _ | refine Frm.alloc ?_ _)) (fun h => h)), row_one enC_len ((blkn ((wr.alloc _).alloc _) (wr.heap.size + 1 + 1) (by simp) (enC (⟨1, a1, c2, t2, k2, y2, v2⟩ : En)) TEn).frm (S := fun _ => False) (by repeat (first | exact Frm.refl _ _ | refine Frm.alloc ?_ _)) (fun h => h)), row_one enC_len ((blkn (((wr.alloc _).alloc _).alloc _) (wr.heap.size + 1 + 1 + 1) (by simp) (enC (⟨1, a1, c2, t2, k2, y2, v2⟩ : En)) TEn).frm (S := fun _ => False) (by repeat (first | exact Frm.refl _ _ | refine Frm.alloc ?_ _)) (fun h => h))⟩, OffT.blk ((HM.out.frm HFw.out (fun h => h)).frm (S := fun _ => False) (by repeat (first | exact Frm.refl _ _ | refine Frm.alloc ?_ _)) (fun h => h)) (by decide), OffT.blk ((blkn ((wr.alloc _).alloc _) (wr.heap.size + 1 + 1) (by simp) (enC (⟨1, a1, c2, t2, k2, y2, v2⟩ : En)) TEn).frm (S := fun _ => False) (by repeat (first | exact Frm.refl _ _ | refine Frm.alloc ?_ _)) (fun h => h)) (by decide), OffT.blk ((blkn (((wr.alloc _).alloc _).alloc _) (wr.heap.size + 1 + 1 + 1) (by simp) (enC (⟨1, a1, c2, t2, k2, y2, v2⟩ : En)) TEn).frm (S := fun _ => False) (by repeat (first | exact Frm.refl _ _ | refine Frm.alloc ?_ _)) (fun h => h)) (by decide)⟩); clear ho' hf' hat'))
                go_roundw
                case rel => exact ⟨2 + 1, n + 1, _, by omega, by first | rfl | go_num, by first | rfl | go_num, by rw [nS, HN.out, HS.out]; rfl, by rw [List.length_append, HLL.out]; rfl, ls_app HLS.out HLL.out ⟨rfl, rfl, rfl, rfl, rfl, rfl, by rw [HS.out]; rfl⟩, HVM6.out, HO6.out, HF6.out⟩
                case measure => simp [intOf]
            · clear hj
              obtain ⟨g, cp, rfl, hgA, hgc, hgm, hgr⟩ := HO.out.row (by rw [HLL.out]; decide)
              have HVO := hid (last_vos ⟨(by show (0 : Int) ≤ 1; decide), hb0.1⟩ ⟨(by show (0 : Int) ≤ 1; decide), hb1.1⟩ hgr HVM.out HLS.out)
              rw [HLL.out] at hgc
              rw [HLL.out]
              have HBw := hid (HB.out.frm HFw.out (fun h => h))
              have HFz := hid (HF.out.trans HFw.out)
              obtain ⟨pk, em⟩ := last_plain HLL.out HLS.out rfl rfl g1 HZ.out
              rw [HN.out] at pk
              have HEM := hid em
              have hq2 := fun w => eql_re w c2 t2 k2 y2 v2 c2 t2 k2 y2 v2 true (by simp)
              clear hgr hgA p0 r0 p1 r1 p2 r2 p3 r3 p4 r4 p5 r5 p6 r6
              obtain ⟨zv, hzv⟩ : ∃ zv, vtsB (a1 + 1) l = zv := ⟨_, rfl⟩
              have HZV := hid hzv
              clear hzv em
              cases zv
              · go_wp2_with (first
                  | (go_at_call 17; (with_reducible refine (Votes_at HVO.out HLL.out (a1 + 1) false HZV.out _ (Frm.refl _ _)).mono ?_); rintro e w4 ⟨rfl, f'⟩; have HVO4 := hid (HVO.out.quiet f'); have HB4 := hid (HBw.out.frm f' (fun h => h)); have HF4 := hid (HFz.out.trans f'); clear HVO HBw HFz f'))
                go_ret
                exact ⟨rfl, HF4.out.below (Nat.le_refl _) (fun _ _ h => h)⟩
              · by_cases h2 : 2 ≤ n
                · rw [if_pos h2] at pk
                  have HPK := hid pk
                  have h3 : (2 : Int) ≤ (n : Int) := by omega
                  clear pk
                  go_wp2_with (first
                    | (go_at_call 17; (with_reducible refine (Votes_at HVO.out HLL.out (a1 + 1) true HZV.out _ (Frm.refl _ _)).mono ?_); rintro e w4 ⟨rfl, f'⟩; have HVO4 := hid (HVO.out.quiet f'); have HB4 := hid (HBw.out.frm f' (fun h => h)); have HF4 := hid (HFz.out.trans f'); clear HVO HBw HFz f')
                    | (go_at_call 13; (with_reducible refine (Pick_calls HVO4.out.row HLL.out HVO4.out.ok 1 HPK.out).mono ?_); rintro e w5 ⟨rfl, f'⟩; have HVO5 := hid ((HVO4.out.quiet f').quiet (dbox w5 (.cells #[.int .u8 c2, .int .u32 t2, .int .u8 k2, .int .u8 y2, .int .u16 v2] TRe))); have HF5 := hid ((HF4.out.trans f').trans (dbox w5 (.cells #[.int .u8 c2, .int .u32 t2, .int .u8 k2, .int .u8 y2, .int .u16 v2] TRe))); have s0 : ∀ o, (w5.alloc o).cell? ⟨w.heap.size + 1, 0, none⟩ = some (.int .u8 c2) := (fun o => ((HB4.out.frm f' (fun h => h)).frm (dbox w5 o) (fun h => h)).cell 0); have s1 : ∀ o, (w5.alloc o).cell? ⟨w.heap.size + 1, 1, none⟩ = some (.int .u32 t2) := (fun o => ((HB4.out.frm f' (fun h => h)).frm (dbox w5 o) (fun h => h)).cell 1); have s2 : ∀ o, (w5.alloc o).cell? ⟨w.heap.size + 1, 2, none⟩ = some (.int .u8 k2) := (fun o => ((HB4.out.frm f' (fun h => h)).frm (dbox w5 o) (fun h => h)).cell 2); have s3 : ∀ o, (w5.alloc o).cell? ⟨w.heap.size + 1, 3, none⟩ = some (.int .u8 y2) := (fun o => ((HB4.out.frm f' (fun h => h)).frm (dbox w5 o) (fun h => h)).cell 3); have s4 : ∀ o, (w5.alloc o).cell? ⟨w.heap.size + 1, 4, none⟩ = some (.int .u16 v2) := (fun o => ((HB4.out.frm f' (fun h => h)).frm (dbox w5 o) (fun h => h)).cell 4); clear HVO4 HF4 HB4 f')
                    | (go_at_call 19; (with_reducible refine (Empty_calls HVO5.out.row HLL.out HVO5.out.ok 1 false HEM.out).mono ?_); rintro e w6 ⟨rfl, f'⟩; have HF6 := hid (HF5.out.trans f'); clear HVO5 HF5 f'))
                  go_ret
                  exact ⟨rfl, HF6.out.below (Nat.le_refl _) (fun _ _ h => h)⟩
                · rw [if_neg h2] at pk
                  have HPK := hid (show pickR l 1 = ⟨false, 0, ⟨0, 0, 0, 0, 0, 0, 0⟩⟩ from pk)
                  have h3 : ¬ (2 : Int) ≤ (n : Int) := by omega
                  clear pk
                  go_wp2_with (first
                    | (go_at_call 17; (with_reducible refine (Votes_at HVO.out HLL.out (a1 + 1) true HZV.out _ (Frm.refl _ _)).mono ?_); rintro e w4 ⟨rfl, f'⟩; have HVO4 := hid (HVO.out.quiet f'); have HB4 := hid (HBw.out.frm f' (fun h => h)); have HF4 := hid (HFz.out.trans f'); clear HVO HBw HFz f')
                    | (go_at_call 13; (with_reducible refine (Pick_calls HVO4.out.row HLL.out HVO4.out.ok 1 HPK.out).mono ?_); rintro e w5 ⟨rfl, f'⟩; have HVO5 := hid ((HVO4.out.quiet f').quiet (dbox w5 (.cells #[.int .u8 0, .int .u32 0, .int .u8 0, .int .u8 0, .int .u16 0] TRe))); have HF5 := hid ((HF4.out.trans f').trans (dbox w5 (.cells #[.int .u8 0, .int .u32 0, .int .u8 0, .int .u8 0, .int .u16 0] TRe))); have s0 : ∀ o, (w5.alloc o).cell? ⟨w.heap.size + 1, 0, none⟩ = some (.int .u8 c2) := (fun o => ((HB4.out.frm f' (fun h => h)).frm (dbox w5 o) (fun h => h)).cell 0); have s1 : ∀ o, (w5.alloc o).cell? ⟨w.heap.size + 1, 1, none⟩ = some (.int .u32 t2) := (fun o => ((HB4.out.frm f' (fun h => h)).frm (dbox w5 o) (fun h => h)).cell 1); have s2 : ∀ o, (w5.alloc o).cell? ⟨w.heap.size + 1, 2, none⟩ = some (.int .u8 k2) := (fun o => ((HB4.out.frm f' (fun h => h)).frm (dbox w5 o) (fun h => h)).cell 2); have s3 : ∀ o, (w5.alloc o).cell? ⟨w.heap.size + 1, 3, none⟩ = some (.int .u8 y2) := (fun o => ((HB4.out.frm f' (fun h => h)).frm (dbox w5 o) (fun h => h)).cell 3); have s4 : ∀ o, (w5.alloc o).cell? ⟨w.heap.size + 1, 4, none⟩ = some (.int .u16 v2) := (fun o => ((HB4.out.frm f' (fun h => h)).frm (dbox w5 o) (fun h => h)).cell 4); clear HVO4 HF4 HB4 f')
                    | (go_at_call 19; (with_reducible refine (Empty_calls HVO5.out.row HLL.out HVO5.out.ok 1 false HEM.out).mono ?_); rintro e w6 ⟨rfl, f'⟩; have HF6 := hid (HF5.out.trans f'); clear HVO5 HF5 f'))
                  go_ret
                  exact ⟨ret_bool (by rw [decide_eq_false (show ¬ (2 : Int) ≤ (n : Int) by omega)]; rfl), HF6.out.below (Nat.le_refl _) (fun _ _ h => h)⟩
      · go_enter Tryd.func6, Tryd.ntmps6
        go_wp2_with (first
          | (go_at_call 9; (with_reducible refine (known_calls _).mono ?_); rintro e w1 ⟨rfl, f'⟩; have HA := hid (HA0.out.frm f' (fun h => h)); have HB := hid (HB0.out.frm f' (fun h => h)); have HF := hid (HF0.out.trans f'); clear HA0 HB0 HF0 f'; have q0 := HA.out.cell 0; have q1 := HA.out.cell 1; have q2 := HA.out.cell 2; have q3 := HA.out.cell 3; have q4 := HA.out.cell 4; (simp only [List.getElem?_cons_succ, List.getElem?_cons_zero] at q0 q1 q2 q3 q4); have s0 := HB.out.cell 0; have s1 := HB.out.cell 1; have s2 := HB.out.cell 2; have s3 := HB.out.cell 3; have s4 := HB.out.cell 4; (simp only [List.getElem?_cons_succ, List.getElem?_cons_zero] at s0 s1 s2 s3 s4)))
        go_ret
        exact ⟨rfl, HF.out.below (Nat.le_refl _) (fun _ _ h => h)⟩
end Go.Proofs.YtipalebaaejfjaaDoor
