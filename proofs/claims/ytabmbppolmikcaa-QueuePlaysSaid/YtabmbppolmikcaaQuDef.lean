/- The queue: requests by when they were put. -/
import Derived.Test.YtabmbppolmikcaaOwnY
import Derived.Test.YtabmbppolmikcaaMapF
import Derived.Test.YtabmbppolmikcaaMsgReq
import Derived.DeepKeys4
import Derived.Laws.Rows
namespace Go.Proofs.Ytabmbppolmikcaa
open Go.RowKit Go.ChangeShapes
set_option linter.unusedVariables false
set_option linter.unusedSimpArgs false
set_option maxRecDepth 100000
theorem qbox (w : World) (o : Obj) : Frm (fun _ => False) w (w.alloc o) := (Frm.refl _ _).alloc o
structure RqOk (r : Rq) : Prop where
  c : 0 ≤ r.c ∧ r.c ≤ 255
  t : 0 ≤ r.t ∧ r.t ≤ 4294967295
  k : 0 ≤ r.k ∧ r.k ≤ 255
  y : 0 ≤ r.y ∧ r.y ≤ 255
  v : 0 ≤ r.v ∧ r.v ≤ 65535
def Rq.eqb (r q : Rq) : Bool := (r.c == q.c && (r.t == q.t && (r.k == q.k && (r.y == q.y && r.v == q.v))))
theorem Rq.eqb_iff (r q : Rq) : r.eqb q = true ↔ r = q := by
  obtain ⟨a, b, c, d, e⟩ := r
  obtain ⟨a', b', c', d', e'⟩ := q
  simp [Rq.eqb]
theorem Rq.eqb_self (r : Rq) : r.eqb r = true := (Rq.eqb_iff r r).2 rfl
abbrev TMr : Nat := 51
abbrev TU64 : Nat := 52
abbrev TQu : Nat := 54
def rqV (r : Rq) : Value := .agg #[.int .u8 r.c, .int .u32 r.t, .int .u8 r.k, .int .u8 r.y, .int .u16 r.v]
theorem wf8k {x : Int} (h : 0 ≤ x ∧ x ≤ 255) : (Lit.int .u8 x).wf = true := by simp [Lit.wf, IntKind.min, IntKind.max, IntKind.bits, IntKind.signed]; omega
theorem wf16k {x : Int} (h : 0 ≤ x ∧ x ≤ 65535) : (Lit.int .u16 x).wf = true := by simp [Lit.wf, IntKind.min, IntKind.max, IntKind.bits, IntKind.signed]; omega
theorem wf32k {x : Int} (h : 0 ≤ x ∧ x ≤ 4294967295) : (Lit.int .u32 x).wf = true := by simp [Lit.wf, IntKind.min, IntKind.max, IntKind.bits, IntKind.signed]; omega
theorem laid_rq : laidOutB Try.prog = true := by kernel_rfl
theorem row_rq : TRq < Try.prog.types.size := of_decide_eq_true (by kernel_rfl)
theorem wide_rq : (match Try.prog.underlying TRq with | some (.array _ _) | some (.struct _) => true | _ => false) = true := by rw [Try.underlying33]
theorem keyedRq : Go.Maps.Keyed Try.prog TRq := Go.Maps.Keyed.of_law (deep_law_laid laid_rq (m := 3) (by omega) row_rq (by kernel_rfl) wide_rq)
theorem kt_rq : Try.prog.keyType TRq = true := by kernel_rfl
theorem cells_rq : Try.prog.cellsOf TRq = 5 := by kernel_rfl
theorem cells_op : Try.prog.cellsOf 31 = 3 := by kernel_rfl
theorem cells_8 : Try.prog.cellsOf 5 = 1 := by kernel_rfl
theorem cells_16 : Try.prog.cellsOf 29 = 1 := by kernel_rfl
theorem cells_32 : Try.prog.cellsOf 26 = 1 := by kernel_rfl
theorem lits_op (m : Nat) {k y v : Int} (w2 : (Lit.int .u8 k).wf = true) (w3 : (Lit.int .u8 y).wf = true) (w4 : (Lit.int .u16 v).wf = true) :
    Try.prog.keyLits (m + 2) 31 [.int .u8 k, .int .u8 y, .int .u16 v] = some [.int .u8 k, .int .u8 y, .int .u16 v] := by
  unfold Program.keyLits
  simp only [Try.underlying31]
  rw [if_pos ⟨by rw [cells_op]; rfl, by kernel_rfl⟩]
  simp [Program.keyLits, Try.underlying5, Try.underlying29, cells_8, cells_16, w2, w3, w4, List.mapM_cons, List.mapM_nil]
theorem keyRq (r : Rq) (h : RqOk r) : ∃ kl, keyOf Try.prog TRq (rqV r) = some kl := by
  obtain ⟨m, hm⟩ : ∃ m, Try.prog.types.size + 1 = m + 3 := ⟨Try.prog.types.size - 2, by have h2 : 2 ≤ Try.prog.types.size := of_decide_eq_true (by kernel_rfl); omega⟩
  unfold keyOf
  simp only [Try.underlying33]
  rw [if_pos (by simp [kt_rq, rqV, Value.formed, Try.underlying33, cells_rq]), hm]
  have w0 := wf8k h.c
  have w1 := wf32k h.t
  have w2 := wf8k h.k
  have w3 := wf8k h.y
  have w4 := wf16k h.v
  obtain ⟨c, t, k, y, v⟩ := r
  dsimp only at w0 w1 w2 w3 w4
  have hop := lits_op m w2 w3 w4
  unfold Program.keyLits
  simp only [Try.underlying33, rqV, Value.cells]
  rw [if_pos ⟨by rw [cells_rq]; rfl, by kernel_rfl⟩]
  have h8 : Try.prog.keyLits (m + 2) 5 [.int .u8 c] = some [.int .u8 c] := by unfold Program.keyLits; simp [Try.underlying5, w0]
  have h32 : Try.prog.keyLits (m + 2) 26 [.int .u32 t] = some [.int .u32 t] := by unfold Program.keyLits; simp [Try.underlying26, w1]
  simp [hop, h8, h32, cells_op, cells_8, cells_32, List.mapM_cons, List.mapM_nil]
theorem u_mapr : Try.prog.underlying TMr = some (.map TRq TU64) := Try.underlying51
theorem z_u64 (w : World) : (zeroValue TU64).run Try.prog w = .ok (.int .u64 0) w := by kernel_rfl
theorem upd_ex (f : Value → Option Value) (key : Value) (r : Option Value) : ∃ f', IsUpd f f' key r := by
  classical exact ⟨fun x => if x = key then r else f x, if_pos rfl, fun x hx => if_neg hx⟩
theorem rqV_inj {r q : Rq} (h : rqV r = rqV q) : r = q := by
  obtain ⟨a, b, c, d, e⟩ := r
  obtain ⟨a', b', c', d', e'⟩ := q
  simp [rqV] at h
  simp [h]
def rq0 : Rq := ⟨0, 0, 0, 0, 0⟩
/-- A request that waits, and when it was put. -/
abbrev Qe : Type := Rq × Nat
/-- The map: when each was put. -/
def fQ (L : List Qe) : Value → Option Value
  | .agg ⟨[.int .u8 c, .int .u32 t, .int .u8 k, .int .u8 y, .int .u16 v]⟩ => (L.find? (fun e => e.1.eqb ⟨c, t, k, y, v⟩)).map fun e => .int .u64 e.2
  | _ => none
theorem fQ_at (L : List Qe) (r : Rq) : fQ L (rqV r) = (L.find? (fun e => e.1.eqb r)).map fun e => .int .u64 e.2 := rfl
/-- All that wait: real ones, one of each client, in the order of their stamps. -/
structure QI (L : List Qe) (n : Nat) : Prop where
  real : ∀ e ∈ L, isReal e.1.c e.1.t e.1.k e.1.y e.1.v = true ∧ RqOk e.1
  one : L.Pairwise (fun a b => a.1.c ≠ b.1.c)
  up : L.Pairwise (fun a b => a.2 < b.2)
  lt : ∀ e ∈ L, e.2 < n
theorem QI.nil (n : Nat) : QI [] n := ⟨fun _ h => (by cases h), List.Pairwise.nil, List.Pairwise.nil, fun _ h => (by cases h)⟩
theorem QI.same {L : List Qe} {n : Nat} (h : QI L n) {a b : Qe} (ha : a ∈ L) (hb : b ∈ L) (hc : a.1.c = b.1.c) : a = b := by
  have := h.one
  clear h
  induction L with
  | nil => cases ha
  | cons x l ih =>
    obtain ⟨h1, h2⟩ := List.pairwise_cons.1 this
    rcases List.mem_cons.1 ha with e1 | e1 <;> rcases List.mem_cons.1 hb with e2 | e2
    · rw [e1, e2]
    · exact absurd (e1 ▸ hc) (h1 b e2)
    · exact absurd (e2 ▸ hc).symm (h1 a e1)
    · exact ih e1 e2 h2
theorem QI.find {L : List Qe} {n : Nat} (h : QI L n) {e : Qe} (he : e ∈ L) : fQ L (rqV e.1) = some (.int .u64 e.2) := by
  rw [fQ_at]
  cases hf : L.find? (fun x => x.1.eqb e.1) with
  | none => have := List.find?_eq_none.1 hf e he; rw [Rq.eqb_self] at this; exact absurd rfl this
  | some x =>
    have h1 := List.mem_of_find?_eq_some hf
    have h2 := List.find?_some hf
    rw [Rq.eqb_iff] at h2
    rw [h.same h1 he (by rw [h2])]
    rfl
theorem fQ_inv {L : List Qe} {key v : Value} (h : fQ L key = some v) : ∃ e ∈ L, key = rqV e.1 ∧ v = .int .u64 e.2 := by
  unfold fQ at h
  split at h
  · rename_i c t k y x
    obtain ⟨e, he, rfl⟩ := Option.map_eq_some_iff.1 h
    have h2 := List.find?_some he
    rw [Rq.eqb_iff] at h2
    exact ⟨e, List.mem_of_find?_eq_some he, by rw [h2]; rfl, rfl⟩
  · cases h
theorem fQ_none {L : List Qe} {r : Rq} (h : ∀ e ∈ L, e.1 ≠ r) : fQ L (rqV r) = none := by
  rw [fQ_at, List.find?_eq_none.2 (fun e he => by rw [Rq.eqb_iff]; exact h e he)]
  rfl
/-- A client's. -/
def ofE (L : List Qe) (c : Int) : Option Qe := L.find? (fun e => e.1.c == c)
def ofB (L : List Qe) (c : Int) : Bool := (ofE L c).isSome
def ofR (L : List Qe) (c : Int) : Rq := ((ofE L c).map (·.1)).getD rq0
theorem of_none {L : List Qe} {c : Int} (h : ∀ e ∈ L, e.1.c ≠ c) : ofB L c = false ∧ ofR L c = rq0 := by
  have : ofE L c = none := List.find?_eq_none.2 (fun e he => by simpa using h e he)
  unfold ofB ofR
  rw [this]; exact ⟨rfl, rfl⟩
theorem QI.of_some {L : List Qe} {n : Nat} (h : QI L n) {e : Qe} (he : e ∈ L) : ofB L e.1.c = true ∧ ofR L e.1.c = e.1 := by
  cases hf : ofE L e.1.c with
  | none => have := List.find?_eq_none.1 hf e he; simp at this
  | some x =>
    have h1 := List.mem_of_find?_eq_some hf
    have h2 := List.find?_some hf
    simp only [beq_iff_eq] at h2
    have := h.same h1 he h2
    subst this
    unfold ofB ofR
    rw [hf]; exact ⟨rfl, rfl⟩
theorem of_mem {L : List Qe} {c : Int} (h : ofB L c = true) : ∃ e ∈ L, e.1 = ofR L c ∧ e.1.c = c := by
  unfold ofB at h
  cases hf : ofE L c with
  | none => rw [hf] at h; cases h
  | some x =>
    refine ⟨x, List.mem_of_find?_eq_some hf, by unfold ofR; rw [hf]; rfl, ?_⟩
    have h2 := List.find?_some hf
    simpa using h2
theorem of_false {L : List Qe} {c : Int} (h : ofB L c = false) : ∀ e ∈ L, e.1.c ≠ c := fun e he hc => by
  unfold ofB ofE at h
  have := List.find?_eq_none.1 (Option.isSome_eq_false_iff.1 h |> Option.isNone_iff_eq_none.1) e he
  simp [hc] at this
def dropC (L : List Qe) (c : Int) : List Qe := L.filter (fun e => !(e.1.c == c))
theorem dropC_mem {L : List Qe} {c : Int} {e : Qe} : e ∈ dropC L c ↔ e ∈ L ∧ e.1.c ≠ c := by unfold dropC; rw [List.mem_filter]; simp
theorem QI.drop {L : List Qe} {n : Nat} (h : QI L n) (c : Int) : QI (dropC L c) n :=
  ⟨fun e he => h.real e (dropC_mem.1 he).1, h.one.filter _, h.up.filter _, fun e he => h.lt e (dropC_mem.1 he).1⟩
theorem QI.later {L : List Qe} {n m : Nat} (h : QI L n) (hm : n ≤ m) : QI L m := ⟨h.real, h.one, h.up, fun e he => Nat.lt_of_lt_of_le (h.lt e he) hm⟩
theorem QI.put {L : List Qe} {n : Nat} (h : QI L n) {r : Rq} (hr : isReal r.c r.t r.k r.y r.v = true) (ho : RqOk r) : QI (dropC L r.c ++ [(r, n)]) (n + 1) := by
  have hd := h.drop r.c
  refine ⟨fun e he => ?_, ?_, ?_, fun e he => ?_⟩
  · rcases List.mem_append.1 he with he | he
    · exact hd.real e he
    · rw [List.mem_singleton.1 he]; exact ⟨hr, ho⟩
  · refine List.pairwise_append.2 ⟨hd.one, List.pairwise_singleton .., fun a ha b hb => ?_⟩
    rw [List.mem_singleton.1 hb]; exact (dropC_mem.1 ha).2
  · refine List.pairwise_append.2 ⟨hd.up, List.pairwise_singleton .., fun a ha b hb => ?_⟩
    rw [List.mem_singleton.1 hb]; exact hd.lt a ha
  · rcases List.mem_append.1 he with he | he
    · have := hd.lt e he; omega
    · rw [List.mem_singleton.1 he]; exact Nat.lt_succ_self n
theorem QI.few {L : List Qe} {n : Nat} (h : QI L n) : L.length ≤ 4 := by
  have hc : ∀ e ∈ L, 1 ≤ e.1.c ∧ e.1.c ≤ 4 := fun e he => by have := of_decide_eq_true (h.real e he).1; exact ⟨this.1, this.2.1⟩
  have hone := h.one
  clear h
  match L with
  | [] | [_] | [_, _] | [_, _, _] | [_, _, _, _] => simp
  | a :: b :: c :: d :: e :: l =>
    exfalso
    have h1 := hc a (by simp); have h2 := hc b (by simp); have h3 := hc c (by simp); have h4 := hc d (by simp); have h5 := hc e (by simp)
    simp only [List.pairwise_cons, List.mem_cons, forall_eq_or_imp] at hone
    obtain ⟨⟨n1, n2, n3, n4, -⟩, ⟨n5, n6, n7, -⟩, ⟨n8, n9, -⟩, ⟨n10, -⟩, -⟩ := hone
    omega
theorem dropC_len {L : List Qe} {n : Nat} (h : QI L n) (c : Int) : (dropC L c).length = if ofB L c = true then L.length - 1 else L.length := by
  by_cases hb : ofB L c = true
  · rw [if_pos hb]
    obtain ⟨e, he, -, hc⟩ := of_mem hb
    have hone := h.one
    unfold dropC
    clear h hb
    induction L with
    | nil => cases he
    | cons x l ih =>
      obtain ⟨h1, h2⟩ := List.pairwise_cons.1 hone
      by_cases hx : x.1.c = c
      · have : l.filter (fun e => !(e.1.c == c)) = l := List.filter_eq_self.2 fun y hy => by
          have := h1 y hy; rw [hx] at this
          simp; exact fun e => this e.symm
        rw [List.filter_cons_of_neg (by simp [hx]), this]; simp
      · have hel : e ∈ l := by
          rcases List.mem_cons.1 he with e1 | e1
          · exact absurd (e1 ▸ hc) hx
          · exact e1
        have := ih hel h2
        have hp := List.length_pos_of_mem hel
        rw [List.filter_cons_of_pos (by simp [hx]), List.length_cons, this, List.length_cons]; omega
  · rw [if_neg hb]
    have hb := of_false (by simpa using hb)
    unfold dropC
    rw [List.filter_eq_self.2 fun e he => by simpa using hb e he]
/-- The client's one deleted. -/
theorem QI.updel {L : List Qe} {n : Nat} (h : QI L n) {c : Int} (hb : ofB L c = true) : IsUpd (fQ L) (fQ (dropC L c)) (rqV (ofR L c)) none := by
  obtain ⟨e0, he0, hr0, hc0⟩ := of_mem hb
  rw [← hr0]
  refine ⟨fQ_none fun e he h2 => (dropC_mem.1 he).2 (by rw [h2]; exact hc0), fun x hx => ?_⟩
  cases hf : fQ L x with
  | none =>
    cases hg : fQ (dropC L c) x with
    | none => rfl
    | some v =>
      obtain ⟨e, he, rfl, rfl⟩ := fQ_inv hg
      rw [h.find (dropC_mem.1 he).1] at hf; cases hf
  | some v =>
    obtain ⟨e, he, rfl, rfl⟩ := fQ_inv hf
    have : e ∈ dropC L c := dropC_mem.2 ⟨he, fun hc => hx (by rw [h.same he he0 (by rw [hc, hc0])])⟩
    exact (h.drop c).find this
theorem QI.updput {L : List Qe} {n : Nat} (h : QI L n) {r : Rq} (hr : isReal r.c r.t r.k r.y r.v = true) (ho : RqOk r) : IsUpd (fQ (dropC L r.c)) (fQ (dropC L r.c ++ [(r, n)])) (rqV r) (some (.int .u64 n)) := by
  have hp := h.put hr ho
  refine ⟨hp.find (e := (r, n)) (List.mem_append_right _ (List.mem_singleton.2 rfl)), fun x hx => ?_⟩
  cases hf : fQ (dropC L r.c) x with
  | none =>
    cases hg : fQ (dropC L r.c ++ [(r, n)]) x with
    | none => rfl
    | some v =>
      obtain ⟨e, he, rfl, rfl⟩ := fQ_inv hg
      rcases List.mem_append.1 he with he | he
      · rw [(h.drop r.c).find he] at hf; cases hf
      · rw [List.mem_singleton.1 he] at hx; exact absurd rfl hx
  | some v =>
    obtain ⟨e, he, rfl, rfl⟩ := fQ_inv hf
    exact hp.find (List.mem_append_left _ he)
theorem fQ_rq0 {L : List Qe} {n : Nat} (h : QI L n) : fQ L (rqV rq0) = none := fQ_none fun e he h2 => by
  have := (h.real e he).1
  rw [h2] at this
  exact absurd this (by decide)
theorem fQ_nil : fQ [] = fun _ => none := by
  funext x
  unfold fQ
  split <;> rfl
/-- The queue at qb, its map at mb. -/
structure IsQ (w : World) (qb mb : Nat) (L : List Qe) (n : Nat) : Prop where
  blk : Blk w qb [.map (some mb), .int .u64 n] TQu
  map : IsMp TRq w mb L.length (fQ L)
  inv : QI L n
def Two (qb mb : Nat) (k : Nat) : Prop := k = qb ∨ k = mb
theorem IsQ.frm {S : Nat → Prop} {w w' : World} {qb mb n : Nat} {L : List Qe} (h : IsQ w qb mb L n) (f : Frm S w w') (hs : ∀ k, Two qb mb k → ¬ S k) : IsQ w' qb mb L n :=
  ⟨h.blk.frm f (hs _ (.inl rfl)), h.map.frm f (hs _ (.inr rfl)), h.inv⟩
theorem IsQ.quiet {w w' : World} {qb mb n : Nat} {L : List Qe} (h : IsQ w qb mb L n) (f : Frm (fun _ => False) w w') : IsQ w' qb mb L n := h.frm f (fun _ _ h => h)
theorem IsQ.lm {w : World} {qb mb n : Nat} {L : List Qe} (h : IsQ w qb mb L n) : mb ≠ qb := h.map.not_blk h.blk
theorem IsQ.lt {w : World} {qb mb n : Nat} {L : List Qe} (h : IsQ w qb mb L n) : qb < w.heap.size ∧ mb < w.heap.size := ⟨h.blk.lt, h.map.lt⟩
theorem IsQ.cell {w : World} {qb mb n : Nat} {L : List Qe} (h : IsQ w qb mb L n) : w.cell? ⟨qb, 0, none⟩ = some (.map (some mb)) := by rw [h.blk.cell 0]; rfl
theorem IsQ.cell1 {w : World} {qb mb n : Nat} {L : List Qe} (h : IsQ w qb mb L n) : w.cell? ⟨qb, 1, none⟩ = some (.int .u64 n) := by rw [h.blk.cell 1]; rfl
end Go.Proofs.Ytabmbppolmikcaa
