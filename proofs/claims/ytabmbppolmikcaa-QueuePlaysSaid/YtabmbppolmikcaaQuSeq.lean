/- The queue's keys, collected. -/
import Derived.Test.YtabmbppolmikcaaQuObj
import Derived.RangeFuncGives
import Derived.Sort.MapsRangeIn
import Derived.WalkKit
import Derived.OwnWalkIn
import Derived.TacticsInMore
import Derived.RegionIn
import Derived.LoopNIn
import Derived.LoopIn
namespace Go.Proofs.Ytabmbppolmikcaa
open Go.RowKit Go.ChangeShapes
set_option linter.unusedVariables false
set_option linter.unusedSimpArgs false
set_option maxRecDepth 100000
section
variable {F : Fence} {m : Nat} {w : World} {ops : Array Oper} {rest : List Oper} {o : Oper} {a : Act} {Q : Exit → Act → World → Prop} {k e t : TypeId} {b r n cnt : Nat} {f : Value → Option Value} {left : Value → Prop}
/-- range m, inside a fence. -/
theorem wpListIn_mp_range (hg : o.guard = none) (x : Operand) (hop : o.op = Op.range t x) (h : IsMp k w b n f) (ht : Try.prog.underlying t = some (.map k e)) (hm : a.eval x = .map (some b))
    (hK : ∀ w', Rng k w' b w.heap.size n f (fun key => f key ≠ none) n → Frm (fun _ => False) w w' → w'.heap.size = w.heap.size + 1 → wpListIn F m Try.prog ops Q rest (a.put o.dst (.pointer (some ⟨w.heap.size, 0, none⟩))) w') :
    wpListIn F m Try.prog ops Q (o :: rest) a w := by
  refine wpListIn_plain hg fun K' hK' => ?_
  obtain ⟨w', hrun, r1, r2, r3⟩ := h.range ht
  unfold Oper.wpIn
  refine ⟨?_, ?_⟩
  · simp [Oper.about, hop]
  · rw [Oper.semAt_plain F _ _ (by rw [hop]; intro c hc'; cases hc')]
    simp [execOp, hop, hm, hrun, Result.andThen]
    exact hK' _ _ (hK w' r1 r2 r3)
/-- The step, inside a fence. -/
theorem wpListIn_mp_next {α β : Type} (hg : o.guard = none) (it : Operand) (hop : o.op = Op.next it false) (mkK : α → Value) (mkV : β → Value) (h : Rng k w b r n f left cnt) (inv : ∀ key v, f key = some v → (∃ x, key = mkK x) ∧ ∃ y, v = mkV y) (hit : a.eval it = .pointer (some ⟨r, 0, none⟩))
    (hDone : (∀ key, ¬ left key) → cnt = 0 → wpListIn F m Try.prog ops Q rest (a.put o.dst (.tuple #[.bool false])) w)
    (hMore : ∀ (x : α) (y : β) (w' : World) (cnt' : Nat), left (mkK x) → f (mkK x) = some (mkV y) → Rng k w' b r n f (strike left (mkK x)) cnt' → cnt' < cnt → Frm (· = r) w w' → w'.heap.size = w.heap.size →
      (Instr.entry (.pointer (some ⟨r, 0, none⟩))).run Try.prog w' = .ok (.tuple #[mkK x, mkV y]) w' → wpListIn F m Try.prog ops Q rest (a.put o.dst (.tuple #[.bool true, mkK x, mkV y])) w') :
    wpListIn F m Try.prog ops Q (o :: rest) a w := by
  refine wpListIn_plain hg fun K' hK' => ?_
  unfold Oper.wpIn
  refine ⟨by simp [Oper.about, hop], ?_⟩
  rw [Oper.semAt_plain F _ _ (by rw [hop]; intro c hc'; cases hc')]
  rcases h.next o.type with ⟨hl, h0, hrun⟩ | ⟨key, v, w', cnt', hlk, hfk, hrun, hrg, hlt, hgr, hsz, hen⟩
  · simp [execOp, hop, hit, hrun, Result.andThen]
    exact hK' _ _ (hDone hl h0)
  · obtain ⟨⟨x, rfl⟩, y, rfl⟩ := inv key v hfk
    simp [execOp, hop, hit, hrun, Result.andThen]
    exact hK' _ _ (hMore x y w' cnt' hlk hfk hrg hlt hgr hsz hen)
theorem wpListIn_moreY {A : Nat → Prop} {v : Value} {l : List Rq} {g : Nat} (r : Rq) (hgd : o.guard = none) (s x : Operand)
    (ho : o.op = .call { callee := .builtin .append, args := #[s, x], argTypes := #[35, 35] }) (ht : o.type = 35) (h : OwnY w A v l) (hA : ∀ k, A k → k < w.heap.size) (hb : Blk w g (rqC r) TRq) (hl : l.length ≤ 100000)
    (hs : a.eval s = v) (hx : a.eval x = .slice (some ⟨g, 0, none⟩) 1 1) (hK : ∀ v' w', OwnY w' A v' (l ++ [r]) → Frm (fun k => v.ownBlock = some k) w w' → (∀ k, v'.ownBlock = some k → v.ownBlock = some k ∨ w.heap.size ≤ k) → wpListIn F m Try.prog ops Q rest (a.put o.dst v') w') :
    wpListIn F m Try.prog ops Q (o :: rest) a w := by
  refine wpListIn_plain hgd fun K' hK' => ?_
  obtain ⟨v', w', hr, h1, h2, h3⟩ := app_moreY r h hA hb hl
  unfold Oper.wpIn
  refine ⟨?_, ?_⟩
  · simp [Oper.about, ho, resolve, Target.leads, Sem.run_pure]
  · rw [Oper.semAt_plain F _ _ (by rw [ho]; intro c hc'; cases hc')]
    simp [execOp, ho, resolve, invoke, builtin, hs, hx, ht, hr, Result.andThen]
    exact hK' _ _ (hK v' w' h1 h2 h3)
end
theorem grown0 {w w' : World} (f : Frm (fun _ => False) w w') : w.grownBy w' none := ⟨f.os, f.tape, f.output, f.size, fun k hk _ => f.block k hk (fun h => h)⟩
theorem grown1 {w w' : World} {r : Nat} (f : Frm (· = r) w w') : w.grownBy w' (some r) := ⟨f.os, f.tape, f.output, f.size, fun k hk hn => f.block k hk (fun h => hn (by rw [h]))⟩
theorem Rng.walks {k : TypeId} {w w' : World} {b r n cnt : Nat} {f : Value → Option Value} {left : Value → Prop} (h : Rng k w b r n f left cnt) (hk : KeepsWalks w w') : Rng k w' b r n f left cnt := by
  obtain ⟨es, clock, since, seen, c0, h0, F, hs, hf, hr0, rest⟩ := h.ex
  exact ⟨es, clock, since, seen, c0, hk.same b _ h0 rfl, F, hs, hf, hk.same r _ hr0 rfl, rest⟩
theorem Rng.iterWalk {k : TypeId} {w : World} {b r n cnt : Nat} {f : Value → Option Value} {left : Value → Prop} (h : Rng k w b r n f left cnt) : ∃ o : Obj, w.heap[r]? = some o ∧ o.isWalk = true := by
  obtain ⟨es, clock, since, seen, c0, h0, F, hs, hf, hr0, rest⟩ := h.ex
  exact ⟨_, hr0, rfl⟩
/-- What has come, what is still to come. -/
structure Coll (f : Value → Option Value) (left : Value → Prop) (ss : List Rq) : Prop where
  pw : ss.Pairwise (· ≠ ·)
  all : ∀ r, f (rqV r) ≠ none → left (rqV r) ∨ r ∈ ss
  is : ∀ r ∈ ss, f (rqV r) ≠ none ∧ ¬ left (rqV r)
theorem Coll.step {f : Value → Option Value} {left : Value → Prop} {ss : List Rq} (h : Coll f left ss) {x : Rq} (hl : left (rqV x)) (hf : f (rqV x) ≠ none) : Coll f (strike left (rqV x)) (ss ++ [x]) := by
  refine ⟨List.pairwise_append.2 ⟨h.pw, List.pairwise_singleton .., fun a ha b hb => ?_⟩, fun r hr => ?_, fun r hr => ?_⟩
  · rw [List.mem_singleton.1 hb]; rintro rfl; exact (h.is _ ha).2 hl
  · rcases h.all r hr with h1 | h1
    · by_cases e : r = x
      · exact .inr (List.mem_append_right _ (List.mem_singleton.2 e))
      · exact .inl ⟨h1, fun e2 => e (rqV_inj e2)⟩
    · exact .inr (List.mem_append_left _ h1)
  · rcases List.mem_append.1 hr with h1 | h1
    · exact ⟨(h.is r h1).1, fun h2 => (h.is r h1).2 h2.1⟩
    · rw [List.mem_singleton.1 h1]; exact ⟨hf, fun h2 => h2.2 rfl⟩
/-- The keys, each once, in some order. -/
structure Keys (f : Value → Option Value) (nn : Nat) (ss : List Rq) : Prop where
  len : ss.length ≤ nn
  pw : ss.Pairwise (· ≠ ·)
  mem : ∀ r, r ∈ ss ↔ f (rqV r) ≠ none
set_option maxHeartbeats 4000000 in
theorem keysR_in (F : Fence) (n : Nat) (h10 : F.fn 28) (hro : F.round = none) (hn : 1 ≤ n) (l Bm b nn : Nat) (f : Value → Option Value) (J : List Rq → World → Prop)
    (hinv : ∀ key v, f key = some v → (∃ x : Rq, key = rqV x) ∧ ∃ y : Nat, v = .int .u64 y)
    (hY : ∀ pre x W, J pre W → pre.length < nn → YieldAt F (n - 1) Try.prog l #[.agg #[.int .u8 x.c, .int .u32 x.t, .int .u8 x.k, .int .u8 x.y, .int .u16 x.v]] W fun e W' => e = .returned (.bool true) ∧ J (pre ++ [x]) W' ∧ KeepsWalks W W')
    (W : World) (hJ : AbidesFrom W.heap.size J) (hm : W.cell? ⟨Bm, 0, none⟩ = some (.map (some b))) (hown : IsMp TRq W b nn f) (h0 : J [] W) :
    CallsIn F n Try.prog 28 #[.func (.yield l) #[] #[], .pointer (some ⟨Bm, 0, none⟩)] W fun e W' => (∃ v, e = .returned v) ∧ ∃ ss : List Rq, Keys f nn ss ∧ J ss W' := by
  have HINV := hid hinv; have HY := hid hY; have HJ := hid hJ; have H0 := hid h0; have HM := hid hown
  clear hinv hY hJ h0 hown
  refine callsIn_of_wp Try.func28 rfl h10 ?_ hro
  simp only [Try.ntmps28, List.size_toArray, List.length_cons, List.length_nil, Nat.reduceAdd, Nat.reduceSub, Array.replicate_succ, Array.replicate_zero, List.push_toArray, List.append_toArray, List.nil_append, List.cons_append]
  gi_wp2_with (first
    | (gi_at_range; refine wpListIn_mp_range rfl _ rfl HM.out u_mapr rfl ?_; intro w0 hrg0 hg0 hs0; have HRG := hid hrg0; have HG := hid hg0; clear hrg0 hg0 hs0)
    | gi_in)
  go_frame
  gi_loopw [6] (fun _ wr => ∃ (left : Value → Prop) (cnt : Nat) (ss : List Rq), Rng TRq wr b W.heap.size nn f left cnt ∧ ss.length + cnt ≤ nn ∧ Coll f left ss ∧ J ss wr) (fun _ wr => wr.rangeLeft b W.heap.size)
  case atStart => exact ⟨_, _, [], HRG.out, by simp, ⟨List.Pairwise.nil, fun r hr => .inl hr, fun r hr => by cases hr⟩, HJ.out [] W w0 none H0.out (grown0 HG.out) (fun r e => by cases e)⟩
  case round =>
    clear HRG HG
    obtain ⟨left, cnt, ss, hrg, hcs, hC, hJs⟩ := hrel
    have HRG := hid hrg; have HCS := hid hcs; have HC := hid hC; have HJS := hid hJs
    clear hrg hcs hC hJs
    gi_wp2_with (first
      | (gi_at_next; refine wpListIn_mp_next rfl _ rfl (fun x : Rq => .agg #[.int .u8 x.c, .int .u32 x.t, .int .u8 x.k, .int .u8 x.y, .int .u16 x.v]) (fun y : Nat => .int .u64 y) HRG.out (fun key v hf => HINV.out key v hf) rfl ?_ ?_)
      | gi_in)
    · intro hl0 hc0
      have HL0 := hid hl0
      clear hl0 hc0
      gi_wp2
      go_end0
      exact ⟨⟨_, rfl⟩, ss, ⟨by have := HCS.out; omega, HC.out.pw, fun r => ⟨fun hr => (HC.out.is r hr).1, fun hr => (HC.out.all r hr).resolve_left (HL0.out _)⟩⟩, HJS.out⟩
    · intro x y w2 cnt2 hlk hfk hrg2 hlt2 hg2 hs2 hen
      obtain ⟨xc, xt, xk, xy, xv⟩ := x
      dsimp only at hen
      have HC2 := hid (HC.out.step (x := ⟨xc, xt, xk, xy, xv⟩) hlk (by show f _ ≠ none; rw [show f (rqV ⟨xc, xt, xk, xy, xv⟩) = _ from hfk]; simp))
      have HJ2 := hid (HJ.out ss wr w2 (some W.heap.size) HJS.out (grown1 hg2) (fun r e => by cases e; exact ⟨Nat.le_refl _, HRG.out.iterWalk⟩))
      have HJ3 := hid (HJ.out ss w2 (w2.alloc (.cells #[.int .u8 xc, .int .u32 xt, .int .u8 xk, .int .u8 xy, .int .u16 xv] TRq)) none HJ2.out (grown0 (qbox _ _)) (fun r e => by cases e))
      have HR3 := hid (hrg2.frm (qbox w2 (.cells #[.int .u8 xc, .int .u32 xt, .int .u8 xk, .int .u8 xy, .int .u16 xv] TRq)) (fun h => h) (fun h => h))
      have HLT := hid hlt2
      obtain ⟨fn, tmps, assign, body, hy, hR⟩ := HY.out ss ⟨xc, xt, xk, xy, xv⟩ _ HJ3.out (by have := HCS.out; omega)
      have HRR := hid hR
      dsimp only at hy
      clear hlk hfk hrg2 hlt2 hg2 hs2 hR
      gi_wp2
      refine HRR.out.mono ?_
      rintro e W3 ⟨rfl, hJ3, hk3⟩
      have HJ4 := hid hJ3; have HR4 := hid (HR3.out.walks hk3)
      clear hJ3 hk3
      gi_wp2
      go_roundw
      case rel => exact ⟨strike left (rqV ⟨xc, xt, xk, xy, xv⟩), cnt2, ss ++ [⟨xc, xt, xk, xy, xv⟩], HR4.out, by have := HCS.out; have := HLT.out; simp; omega, HC2.out, HJ4.out⟩
      case measure => rw [HR4.out.left_eq, HRG.out.left_eq]; exact HLT.out
def apAssign : Code := (Code.region 2 #[{ dst := some 5, op := Op.alloc 33, type := 0, pos := "iter.go:51", after := #[], guard := none }, { dst := none, op := Op.store 33 (Operand.tmp 5) (Operand.tmp 7), type := 0, pos := "iter.go:51", after := #[{ on := 0, ground := Ground.data }, { on := 0, ground := Ground.phase }], guard := none }] false)
def apBody : Code := (Code.block 1 (Code.region 3 #[{ dst := some 8, op := Op.load 35 (Operand.tmp 2), type := 35, pos := "iter.go:52", after := #[], guard := none }, { dst := some 9, op := Op.load 33 (Operand.tmp 5), type := 33, pos := "iter.go:52", after := #[], guard := none }, { dst := some 10, op := Op.buildSlice 35 1 #[(0, Operand.tmp 9)], type := 35, pos := "iter.go:52", after := #[{ on := 1, ground := Ground.data }], guard := none }, { dst := some 11, op := Op.call { callee := Callee.builtin Builtin.append, args := #[Operand.tmp 8, Operand.tmp 10], argTypes := #[35, 35] }, type := 35, pos := "iter.go:52", after := #[{ on := 0, ground := Ground.data }, { on := 2, ground := Ground.data }], guard := none }, { dst := none, op := Op.store 35 (Operand.tmp 2) (Operand.tmp 11), type := 0, pos := "iter.go:52", after := #[{ on := 3, ground := Ground.data }, { on := 3, ground := Ground.chain }, { on := 0, ground := Ground.phase }, { on := 1, ground := Ground.phase }, { on := 2, ground := Ground.phase }, { on := 3, ground := Ground.phase }], guard := none }] false))
/-- The loop's record. -/
def apRec (fn : FuncId) (sv : Value) (Bs D : Nat) (st : LoopState) (pend : Option Code) : Loop :=
  { state := st, pending := pend, fn, tmps := #[.slice none 0 0, sv, .pointer (some ⟨Bs, 0, none⟩), undef, .slice none 0 0, undef, sv, undef, undef, undef, undef, undef, undef], params := #[7], assign := apAssign, body := apBody, defers := D }
abbrev TSlR : Nat := 35
/-- Between two rounds. -/
structure ApAt (w0 : World) (fn : FuncId) (sv : Value) (Bs l D : Nat) (ss : List Rq) (W : World) : Prop where
  box : ∃ v, W.heap[Bs]? = some (.cells #[v] TSlR (0, 0)) ∧ OwnY W (fun k => k < w0.heap.size) v ss
  L : W.heap[l]? = some (.loop (apRec fn sv Bs D .ready none))
  K : W.heap[D]? = some (.deferred (some []))
  below : Below w0.heap.size w0 W
theorem OwnY.ne_obj {w : World} {A : Nat → Prop} {v : Value} {x : List Rq} (h : OwnY w A v x) {j : Nat} {o : Obj} (hj : w.heap[j]? = some o) (hno : ∀ cur, o ≠ .cells cur TRq (0, 0)) : ∀ k, v.ownBlock = some k → k ≠ j := by
  intro k hk e
  subst e
  rcases h.own.2 with ⟨rfl, _⟩ | ⟨g, cap, cur, rfl, _, hgb, _⟩
  · simp [Value.ownBlock] at hk
  · simp [Value.ownBlock] at hk
    subst hk; rw [hgb] at hj; cases hj; exact hno cur rfl
theorem frm_grown {w w' : World} {row : Option Nat} (h : w.grownBy w' row) : Frm (fun k => row = some k) w w' := ⟨h.os, h.tape, h.output, h.size, fun k hk hn => h.block k hk (fun e => hn e.symm)⟩
theorem ap_abides (w0 : World) (fn : FuncId) (sv : Value) (Bs l D B : Nat) (hB : w0.heap.size ≤ B) : AbidesFrom B (ApAt w0 fn sv Bs l D) := fun s W W' row h hg hrow => by
  have hrow' : ∀ r, row = some r → ∃ o : Obj, W.heap[r]? = some o ∧ o.isWalk = true := fun r e => (hrow r e).2
  obtain ⟨v, hv, hr⟩ := h.box
  refine ⟨⟨v, (grownBy_keeps hg hrow' hv rfl).trans hv, hr.frm (frm_grown hg) (fun k hk e => ?_)⟩, (grownBy_keeps hg hrow' h.L rfl).trans h.L, (grownBy_keeps hg hrow' h.K rfl).trans h.K, h.below.grown hg h.below.size (fun k e => Nat.le_trans hB (hrow k e).1)⟩
  obtain ⟨o, ho, hw⟩ := hrow' k e
  exact hr.ne_obj ho (fun cur e => by subst e; cases hw) k hk rfl
theorem grown_putObj (W : World) (l : Nat) (o : Obj) : W.grownBy (W.putObj l o) (some l) := ⟨rfl, rfl, rfl, by simp, fun k _ hk => World.putObj_heap_other (fun e => hk (by rw [e]))⟩
theorem frm_putObj (W : World) (l : Nat) (o : Obj) : Frm (· = l) W (W.putObj l o) := ⟨rfl, rfl, rfl, by simp, fun k _ hk => World.putObj_heap_other hk⟩
theorem cell_box {W : World} {B : Nat} {v : Value} {t : TypeId} (h : W.heap[B]? = some (.cells #[v] t (0, 0))) : W.cell? ⟨B, 0, none⟩ = some v ∧ W.frozen? ⟨B, 0, none⟩ = false := by
  constructor <;> simp [World.cell?, World.frozen?, h]
theorem heap_set_box {W : World} {B : Nat} {v : Value} {t : TypeId} (v' : Value) (h : W.heap[B]? = some (.cells #[v] t (0, 0))) : (W.setCell ⟨B, 0, none⟩ v').heap[B]? = some (.cells #[v'] t (0, 0)) := by
  obtain ⟨hlt, hk⟩ := Array.getElem?_eq_some_iff.1 h
  show (W.heap.modify B _)[B]? = _
  rw [Array.getElem?_eq_getElem (by rw [Array.size_modify]; exact hlt), Array.getElem_modify_self, hk]
  rfl
theorem OwnY.not_walk {W : World} {A : Nat → Prop} {v : Value} {x : List Rq} (h : OwnY W A v x) : ∀ (j : Nat) (o : Obj), v.ownBlock = some j → W.heap[j]? = some o → o.isWalk = false := by
  intro j o hj ho
  rcases h.own.2 with ⟨rfl, _⟩ | ⟨g, cap, cur, rfl, _, hgb, _⟩
  · simp [Value.ownBlock] at hj
  · simp [Value.ownBlock] at hj
    subst hj; rw [hgb] at ho; cases ho; rfl
theorem walks_frm {W W' : World} {S : Nat → Prop} (f : Frm S W W') (h : ∀ (j : Nat) (o : Obj), S j → W.heap[j]? = some o → o.isWalk = false) : KeepsWalks W W' :=
  ⟨f.size, fun k o hk ho => by
    refine (f.block k (Array.getElem?_eq_some_iff.1 hk).1 fun hs => ?_).trans hk
    rw [h k o hs hk] at ho; cases ho⟩
set_option maxHeartbeats 4000000 in
theorem apYield (F : Fence) (m : Nat) (w0 : World) (fn : FuncId) (hfn : F.fn fn) (sv : Value) (Bs l D : Nat) (hBl : Bs ≠ l) (hDl : D ≠ l) (hDB : D ≠ Bs) (h0B : w0.heap.size ≤ Bs) (h0l : w0.heap.size ≤ l)
    (N : Nat) (hN : N ≤ 100000) (ss : List Rq) (x : Rq) (W : World) (h : ApAt w0 fn sv Bs l D ss W) (hlen : ss.length < N) :
    YieldAt F m Try.prog l #[.agg #[.int .u8 x.c, .int .u32 x.t, .int .u8 x.k, .int .u8 x.y, .int .u16 x.v]] W fun e W' => e = .returned (.bool true) ∧ ApAt w0 fn sv Bs l D (ss ++ [x]) W' ∧ KeepsWalks W W' := by
  obtain ⟨v, hv, hrow⟩ := h.box
  obtain ⟨xc, xt, xk, xy, xv⟩ := x
  refine ⟨fn, #[.slice none 0 0, sv, .pointer (some ⟨Bs, 0, none⟩), undef, .slice none 0 0, undef, sv, .agg #[.int .u8 xc, .int .u32 xt, .int .u8 xk, .int .u8 xy, .int .u16 xv], undef, undef, undef, undef, undef], apAssign, apBody, by simpa [apRec] using run_yield (P := Try.prog) (args := #[.agg #[.int .u8 xc, .int .u32 xt, .int .u8 xk, .int .u8 xy, .int .u16 xv]]) h.L rfl, roundIn_of_wpIn hfn ?_⟩
  have hl : l < W.heap.size := (Array.getElem?_eq_some_iff.1 h.L).1
  obtain ⟨W1, hW1⟩ : ∃ W1, W.alloc (.cells #[.int .u8 xc, .int .u32 xt, .int .u8 xk, .int .u8 xy, .int .u16 xv] TRq) = W1 := ⟨_, rfl⟩
  have f1 : Frm (fun _ => False) W W1 := hW1 ▸ qbox W _
  have HXB := hid (hW1 ▸ Blk.new W (rqC ⟨xc, xt, xk, xy, xv⟩) TRq)
  have hL1 : W1.heap[l]? = some (.loop (apRec fn sv Bs D .ready none)) := (f1.block l hl (fun h => h)).trans h.L
  have hbr := run_beginRound (P := Try.prog) hL1 rfl
  obtain ⟨W2, hW2⟩ : ∃ W2, W1.putObj l (.loop { apRec fn sv Bs D .ready none with state := .busy }) = W2 := ⟨_, rfl⟩
  rw [hW2] at hbr
  have f2 : Frm (· = l) W1 W2 := hW2 ▸ frm_putObj _ _ _
  have hBlt0 : Bs < W.heap.size := (Array.getElem?_eq_some_iff.1 hv).1
  have hDlt0 : D < W.heap.size := (Array.getElem?_eq_some_iff.1 h.K).1
  have hl1 : l < W1.heap.size := (Array.getElem?_eq_some_iff.1 hL1).1
  have hv2 : W2.heap[Bs]? = some (.cells #[v] TSlR (0, 0)) := (f2.block Bs (Nat.lt_of_lt_of_le hBlt0 f1.size) hBl).trans ((f1.block Bs hBlt0 (fun h => h)).trans hv)
  have hK2 : W2.heap[D]? = some (.deferred (some [])) := (f2.block D (Nat.lt_of_lt_of_le hDlt0 f1.size) hDl).trans ((f1.block D hDlt0 (fun h => h)).trans h.K)
  have hL2 : W2.heap[l]? = some (.loop { apRec fn sv Bs D .ready none with state := .busy }) := by rw [← hW2]; exact World.putObj_heap_same hl1
  have hrow1 := hrow.quiet f1
  have hrow2 : OwnY W2 (fun k => k < w0.heap.size) v ss := hrow1.frm f2 (fun k hk e => hrow1.ne_obj hL1 (fun cur e => by cases e) k hk e)
  have hb2 : Below w0.heap.size w0 W2 := (h.below.trans (f1.below h.below.size (fun _ _ h => h))).trans (f2.below (Nat.le_trans h.below.size f1.size) (fun k hk e => by omega))
  have hk2 : KeepsWalks W W2 := (walks_frm f1 (fun _ _ h => h.elim)).trans (walks_frm f2 (fun j o e ho => by subst e; rw [hL1] at ho; cases ho; rfl))
  have HX2 := hid (HXB.out.frm f2 (fun e => by omega))
  obtain ⟨hc2, hf2⟩ := cell_box hv2
  have hBlt : Bs < W2.heap.size := (Array.getElem?_eq_some_iff.1 hv2).1
  have hl2 : l < W2.heap.size := (Array.getElem?_eq_some_iff.1 hL2).1
  have hDlt : D < W2.heap.size := (Array.getElem?_eq_some_iff.1 hK2).1
  have HV2 := hid hv2; have HL2 := hid hL2; have HK2 := hid hK2; have HR2 := hid hrow2; have HB2 := hid hb2; have HKW := hid hk2; have HLN := hid hlen; have HNN := hid hN
  have HW1 := hid hW1; have HBR := hid hbr
  have HH := hid (And.intro hBl (And.intro hDl (And.intro hDB (And.intro h0B h0l))))
  have x0 := HX2.out.cell 0; have x1 := HX2.out.cell 1; have x2 := HX2.out.cell 2; have x3 := HX2.out.cell 3; have x4 := HX2.out.cell 4
  simp only [rqC, List.getElem?_cons_succ, List.getElem?_cons_zero] at x0 x1 x2 x3 x4
  have hxl := HX2.out.lt
  clear hW1 hW2 hbr h hv hrow hl f1 hL1 f2 hBlt0 hDlt0 hl1 hv2 hK2 hL2 hrow1 hrow2 hb2 hk2 hlen hN hBl hDl hDB h0B h0l
  unfold apAssign
  gi_wp2_with (rw [Oper.semAt_eq _ _ _ (fun c h => by cases h)]; go_simp; try go_bits)
  rw [HW1.out]
  refine ⟨_, HBR.out, ?_⟩
  unfold apBody
  gi_wp2_with (first
    | (gi_at_builtin; refine wpListIn_moreY ⟨xc, xt, xk, xy, xv⟩ rfl _ _ rfl rfl (HR2.out.quiet (qbox W2 (.cells #[.int .u8 xc, .int .u32 xt, .int .u8 xk, .int .u8 xy, .int .u16 xv] TRq))) (fun k hk => by have := HB2.out.size; simp; omega) (Blk.new W2 (rqC ⟨xc, xt, xk, xy, xv⟩) TRq) (by have := HLN.out; have := HNN.out; omega) rfl rfl ?_; intro v' w3 ho3 hf3 hat3; obtain ⟨ra, rc, hv'⟩ := ho3.slice; obtain ⟨n3, hn3⟩ : ∃ n3, (ss ++ [(⟨xc, xt, xk, xy, xv⟩ : Rq)]).length = n3 := ⟨_, rfl⟩; rw [hn3] at hv'; subst hv'; have HO3 := hid ho3; have HF3 := hid hf3; have hv3 : w3.heap[Bs]? = some (.cells #[v] TSlR (0, 0)) := (hf3.block Bs (by simp; omega) (fun e => HR2.out.ne_obj HV2.out (fun cur e => absurd (Obj.cells.inj e).2.1 (by decide)) _ e rfl)).trans ((Below.heap_alloc _ _ Bs hBlt).trans HV2.out); have HV3 := hid hv3; obtain ⟨hc3, hf3'⟩ := cell_box hv3; clear ho3 hf3 hat3 hv3 hn3; go_frame)
    | (rw [Oper.semAt_eq _ _ _ (fun c h => by cases h)]; go_simp; try go_bits))
  obtain ⟨hBl, hDl, hDB, h0B, h0l⟩ := HH.out
  have hL3 : w3.heap[l]? = some (.loop { apRec fn sv Bs D .ready none with state := .busy }) := (HF3.out.block l (by simp; omega) (fun e => HR2.out.ne_obj HL2.out (fun cur e => by cases e) _ e rfl)).trans ((Below.heap_alloc _ _ l hl2).trans HL2.out)
  have hK3 : w3.heap[D]? = some (.deferred (some [])) := (HF3.out.block D (by simp; omega) (fun e => HR2.out.ne_obj HK2.out (fun cur e => by cases e) _ e rfl)).trans ((Below.heap_alloc _ _ D hDlt).trans HK2.out)
  obtain ⟨w4, hw4⟩ : ∃ w4, w3.setCell ⟨Bs, 0, none⟩ (.slice ra n3 rc) = w4 := ⟨_, rfl⟩
  rw [hw4]
  have f4 : Frm (· = Bs) w3 w4 := hw4 ▸ (Frm.refl _ _).setCell _ _ (.inr rfl)
  have hv4 : w4.heap[Bs]? = some (.cells #[.slice ra n3 rc] TSlR (0, 0)) := by rw [← hw4]; exact heap_set_box _ HV3.out
  have hL4 : w4.heap[l]? = some (.loop { apRec fn sv Bs D .ready none with state := .busy }) := (f4.block l (Array.getElem?_eq_some_iff.1 hL3).1 (fun e => hBl e.symm)).trans hL3
  have hK4 : w4.heap[D]? = some (.deferred (some [])) := (f4.block D (Array.getElem?_eq_some_iff.1 hK3).1 (fun e => hDB e)).trans hK3
  have ho4 := HO3.out.frm f4 (fun k hk e => HO3.out.ne_obj HV3.out (fun cur e => absurd (Obj.cells.inj e).2.1 (by decide)) k hk e)
  have hl4 : l < w4.heap.size := (Array.getElem?_eq_some_iff.1 hL4).1
  have hb3 : Below w0.heap.size w0 w3 := HB2.out.trans ((qbox W2 (.cells #[.int .u8 xc, .int .u32 xt, .int .u8 xk, .int .u8 xy, .int .u16 xv] TRq)).below HB2.out.size (fun _ _ h => h) |>.trans (HF3.out.below (by have := HB2.out.size; simp; omega) (fun k hk e => HR2.out.off k e hk)))
  have hb4 : Below w0.heap.size w0 w4 := hb3.trans (f4.below hb3.size (fun k hk e => by omega))
  have hk4 : KeepsWalks W w4 := ((HKW.out.trans (KeepsWalks.alloc _ _)).trans (walks_frm HF3.out (fun j o e ho => (HR2.out.quiet (qbox W2 (.cells #[.int .u8 xc, .int .u32 xt, .int .u8 xk, .int .u8 xy, .int .u16 xv] TRq))).not_walk j o e ho))).trans (by rw [← hw4]; exact KeepsWalks.setCell _ _ _)
  have f5 := frm_putObj w4 l (.loop { { apRec fn sv Bs D .ready none with state := .busy } with state := if (none : Option Code).isNone then .ready else .done, pending := none })
  refine ⟨_, _, run_endRound none hL4, rfl, ⟨⟨_, (World.putObj_heap_other hBl).trans hv4, ho4.frm f5 (fun k hk e => ho4.ne_obj hL4 (fun cur e => by cases e) k hk e)⟩, World.putObj_heap_same hl4, (World.putObj_heap_other hDl).trans hK4, hb4.trans (f5.below hb4.size (fun k hk e => by omega))⟩, hk4.trans (KeepsWalks.putObj _ hL4 rfl)⟩
set_option maxHeartbeats 4000000 in
theorem appendSeq_in (F : Fence) (n : Nat) (h11 : F.fn 30) (hro : F.round = none) (hn : 2 ≤ n) (g : Nat) (lb : Array Value) (hFg : F.fn g) (eg : ∀ args w, (callFunc g args).run Try.prog w = .ok (.enter g args) w)
    (S : List Rq → Prop) (N : Nat) (hN : N ≤ 100000) (w : World) (hseq : SeqGives F (n - 1) Try.prog g lb rqV S N w) :
    CallsIn F n Try.prog 30 #[.slice none 0 0, .func (.func g) #[] lb] w fun e w' => ∃ (v : Value) (ss : List Rq), e = .returned v ∧ S ss ∧ OwnY w' (fun k => k < w.heap.size) v ss ∧ Below w.heap.size w w' := by
  have h1 : 1 ≤ n := by omega
  refine callsIn_of_wp_marks Try.func30 rfl h11 ?_ hro
  simp only [Try.ntmps30, List.size_toArray, List.length_cons, List.length_nil, Nat.reduceAdd, Nat.reduceSub, Array.replicate_succ, Array.replicate_zero, List.push_toArray, List.append_toArray, List.nil_append, List.cons_append]
  gi_wp2
  refine wpIn_rangeFunc ?_
  intro fn hfn
  rw [hro]
  obtain ⟨W0, hW0⟩ : ∃ W0, w.alloc (.cells #[.slice none 0 0] TSlR) = W0 := ⟨_, rfl⟩
  have hs0 : W0.heap.size = w.heap.size + 1 := by rw [← hW0]; simp
  have hv0 : W0.heap[w.heap.size]? = some (.cells #[.slice none 0 0] TSlR (0, 0)) := by rw [← hW0]; exact World.alloc_heap_new w _
  have hb0 : Below w.heap.size w W0 := by rw [← hW0]; exact (Below.refl _ w).alloc (Nat.le_refl _) _
  rw [hW0]
  obtain ⟨W1, hW1⟩ : ∃ W1, (W0.alloc (.deferred (some []))).alloc (.loop (apRec fn (.func (.func g) #[] lb) w.heap.size W0.heap.size .ready none)) = W1 := ⟨_, rfl⟩
  have hold : ∀ k, k < W0.heap.size → W1.heap[k]? = W0.heap[k]? := fun k hk => by
    rw [← hW1]; exact (Below.heap_alloc _ _ k (by simp; omega)).trans (Below.heap_alloc _ _ k hk)
  have hb1 : Below w.heap.size w W1 := by rw [← hW1]; exact (hb0.alloc hb0.size _).alloc (by have := hb0.size; simp; omega) _
  have hs1 : W1.heap.size = W0.heap.size + 2 := by rw [← hW1]; simp
  have hM : ApAt w fn (.func (.func g) #[] lb) w.heap.size (W0.heap.size + 1) W0.heap.size [] W1 :=
    ⟨⟨_, (hold w.heap.size (by omega)).trans hv0, OwnY.nil _ _⟩,
     by rw [← hW1]; have := World.alloc_heap_new (W0.alloc (.deferred (some []))) (.loop (apRec fn (.func (.func g) #[] lb) w.heap.size W0.heap.size .ready none)); rwa [World.size_alloc] at this,
     by rw [← hW1]; exact (Below.heap_alloc _ _ _ (by simp)).trans (World.alloc_heap_new W0 _), hb1⟩
  refine ⟨W0.heap.size + 1, [{ target := .collected W0.heap.size, args := #[] }], W1, { target := .fn (.func g) lb, args := #[.func (.yield (W0.heap.size + 1)) #[] #[]] }, W1, g,
    #[.func (.yield (W0.heap.size + 1)) #[] #[]] ++ lb, W1, ?_, ?_, ?_, ?_, fun _ => h1, ?_⟩
  · rw [← hW1]; exact run_enterLoop_outer _ _ _ _ _
  · simp [resolve, go_sem]
  · intro f' hf'; simp [Target.leads] at hf'; subst hf'; exact hFg
  · simp [invoke, go_sem, eg]
  · refine (hseq (W0.heap.size + 1) (ApAt w fn (.func (.func g) #[] lb) w.heap.size (W0.heap.size + 1) W0.heap.size) W1 hb1 (ap_abides _ _ _ _ _ _ _ hb1.size)
      (fun pre x W hJ hl => apYield F (n - 1 - 1) w fn hfn _ w.heap.size (W0.heap.size + 1) W0.heap.size (by omega) (by omega) (by omega) (Nat.le_refl _) (by omega) N hN pre x W hJ hl) hM).mono ?_
    rintro e W2 ⟨⟨v0, rfl⟩, ss, hS, h2⟩
    obtain ⟨v, hv, hrow⟩ := h2.box
    obtain ⟨ra, rc, hv'⟩ := hrow.slice
    obtain ⟨n3, hn3⟩ : ∃ n3, ss.length = n3 := ⟨_, rfl⟩
    rw [hn3] at hv'
    subst hv'
    have hend := run_endLoop (P := Try.prog) h2.L (by simp [apRec])
    obtain ⟨W3, hW3⟩ : ∃ W3, W2.putObj (W0.heap.size + 1) (.loop { apRec fn (.func (.func g) #[] lb) w.heap.size W0.heap.size .ready none with state := .exhausted }) = W3 := ⟨_, rfl⟩
    rw [hW3] at hend
    have f3 : Frm (· = W0.heap.size + 1) W2 W3 := hW3 ▸ frm_putObj _ _ _
    have hv3 : W3.heap[w.heap.size]? = some (.cells #[.slice ra n3 rc] TSlR (0, 0)) := by rw [← hW3]; exact (World.putObj_heap_other (by omega)).trans hv
    have hK3 : W3.heap[W0.heap.size]? = some (.deferred (some [])) := by rw [← hW3]; exact (World.putObj_heap_other (by omega)).trans h2.K
    have hrow3 := hrow.frm f3 (fun k hk e => hrow.ne_obj h2.L (fun cur e => by cases e) k hk e)
    have hb3 : Below w.heap.size w W3 := h2.below.trans (f3.below h2.below.size (fun k hk e => by omega))
    have HROW := hid hrow3; have HB3 := hid hb3; have HS := hid hS; have HK3 := hid hK3; have HS0 := hid hs0
    obtain ⟨hc3, hf3⟩ := cell_box hv3
    clear hW3 f3 hrow hrow3 hb3 hS hv hv3 h2 hM hn3 hs1 hold hv0 hb0 hb1 hW1 hW0
    refine ⟨none, W3, hend, ?_⟩
    clear hend
    gi_wp2
    rw [← HS0.out]
    refine ⟨by simp, .inl ⟨_, _, rfl, run_takeDeferred HK3.out, ?_⟩⟩
    have f4 := frm_putObj W3 W0.heap.size (.deferred none)
    exact ⟨_, results_tmp rfl _ _ _, .slice ra n3 rc, ss, rfl, HS.out, HROW.out.frm f4 (fun k hk e => HROW.out.ne_obj HK3.out (fun cur e => by cases e) k hk e), HB3.out.trans (f4.below HB3.out.size (fun k hk e => by omega))⟩
set_option maxHeartbeats 4000000 in
theorem collect_in (F : Fence) (n : Nat) (h8 : F.fn 26) (h11 : F.fn 30) (hro : F.round = none) (hn : 3 ≤ n) (g : Nat) (lb : Array Value) (hFg : F.fn g) (eg : ∀ args w, (callFunc g args).run Try.prog w = .ok (.enter g args) w)
    (S : List Rq → Prop) (N : Nat) (hN : N ≤ 100000) (w : World) (hseq : SeqGives F (n - 1 - 1) Try.prog g lb rqV S N w) :
    CallsIn F n Try.prog 26 #[.func (.func g) #[] lb] w fun e w' => ∃ (v : Value) (ss : List Rq), e = .returned v ∧ S ss ∧ OwnY w' (fun k => k < w.heap.size) v ss ∧ Below w.heap.size w w' := by
  have h1 : 1 ≤ n := by omega
  refine callsIn_of_wp Try.func26 rfl h8 ?_ hro
  simp only [Try.ntmps26, List.size_toArray, List.length_cons, List.length_nil, Nat.reduceAdd, Nat.reduceSub, Array.replicate_succ, Array.replicate_zero, List.push_toArray, List.append_toArray, List.nil_append, List.cons_append]
  gi_wp2_with (gi_at_call 30; refine (appendSeq_in F (n - 1) h11 hro (by omega) g lb hFg eg S N hN _ hseq).mono ?_; rintro e w' ⟨v, ss, rfl, hS, hrow, hb⟩)
  go_ret
  exact ⟨v, ss, rfl, hS, hrow, hb⟩
theorem Below.frm0 {w w' : World} (h : Below w.heap.size w w') : Frm (fun _ => False) w w' := ⟨h.os, h.tape, h.output, h.size, fun k hk _ => h.block k hk⟩
/-- slices.Collect of the queue's keys. -/
theorem Collect_calls {w : World} {mb Bm T : Nat} {L : List Qe} (hm : Blk w Bm [.map (some mb)] T) (hown : IsMp TRq w mb L.length (fQ L)) (hl : L.length ≤ 100000) :
    Calls Try.prog 26 #[.func (.func 28) #[] #[.pointer (some ⟨Bm, 0, none⟩)]] w fun e w' => ∃ (v : Value) (ss : List Rq), e = .returned v ∧ Keys (fQ L) L.length ss ∧ OwnY w' (fun k => k < w.heap.size) v ss ∧ Frm (fun _ => False) w w' := by
  refine (callsIn_wide.1 (collect_in Fence.wide 4 trivial trivial rfl (by decide) 28 #[.pointer (some ⟨Bm, 0, none⟩)] trivial (by intro args w; simp [go_sem]) (Keys (fQ L) L.length) L.length hl w ?_)).mono ?_
  · intro l J W hW hJ hY h0
    exact keysR_in Fence.wide 2 trivial rfl (by decide) l Bm mb L.length (fQ L) J (fun key v hf => by obtain ⟨e, _, h1, h2⟩ := fQ_inv hf; exact ⟨⟨e.1, h1⟩, e.2, h2⟩) hY W hJ ((hW.cell (p := ⟨Bm, 0, none⟩) hm.lt).trans (hm.cell 0)) (hown.frm (Below.frm0 hW) (fun h => h)) h0
  · rintro e w' ⟨v, ss, rfl, h1, h2, h3⟩
    exact ⟨v, ss, rfl, h1, h2, Below.frm0 h3⟩
/-- maps.Keys: the map is boxed. -/
theorem Keys_calls (w : World) (mb : Nat) : Calls Try.prog 21 #[.map (some mb)] w fun e w' => e = .returned (.func (.func 28) #[] #[.pointer (some ⟨w.heap.size, 0, none⟩)]) ∧ Blk w' w.heap.size [.map (some mb)] TMr ∧ Frm (fun _ => False) w w' := by
  go_enter Try.func21, Try.ntmps21
  go_wp2
  go_ret
  exact ⟨rfl, Blk.new w _ _, qbox _ _⟩
end Go.Proofs.Ytabmbppolmikcaa
