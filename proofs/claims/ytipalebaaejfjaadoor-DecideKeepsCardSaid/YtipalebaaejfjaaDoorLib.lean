/- Words for objects in memory: a block's cells, what a call may have changed. No program in sight. -/
import Derived.WalkKit
import Derived.KernelRfl
import Derived.Deep.Draws
import Derived.OpenShut
namespace Go.Proofs.YtipalebaaejfjaaDoor
open Go.RowKit

theorem hid {p : Prop} (h : p) : Hid p := h

/-- Block b holds these cells, none of them frozen. -/
def Blk (w : World) (b : Nat) (cs : List Value) (T : Nat) : Prop := w.heap[b]? = some (.cells cs.toArray T (0, 0))

/-- From w to w' only blocks that meet S (and new ones) have turned. -/
structure Frm (S : Nat → Prop) (w w' : World) : Prop where
  os : w'.os = w.os
  tape : w'.tape = w.tape
  output : w'.output = w.output
  size : w.heap.size ≤ w'.heap.size
  block : ∀ k, k < w.heap.size → ¬ S k → w'.heap[k]? = w.heap[k]?

theorem Frm.refl (S : Nat → Prop) (w : World) : Frm S w w := ⟨rfl, rfl, rfl, Nat.le_refl _, fun _ _ _ => rfl⟩
theorem Frm.trans {S : Nat → Prop} {a b c : World} (h : Frm S a b) (k : Frm S b c) : Frm S a c :=
  ⟨k.os.trans h.os, k.tape.trans h.tape, k.output.trans h.output, Nat.le_trans h.size k.size,
    fun i hi hs => (k.block i (Nat.lt_of_lt_of_le hi h.size) hs).trans (h.block i hi hs)⟩
theorem Frm.mono {S S' : Nat → Prop} {a b : World} (h : Frm S a b) (hs : ∀ k, k < a.heap.size → S k → S' k) : Frm S' a b :=
  ⟨h.os, h.tape, h.output, h.size, fun k hk hn => h.block k hk (fun h' => hn (hs k hk h'))⟩
/-- Two steps, the second may turn new blocks too. -/
theorem Frm.trans' {S S' : Nat → Prop} {a b c : World} (h : Frm S a b) (k : Frm S' b c) (hs : ∀ i, i < a.heap.size → S' i → S i) : Frm S a c :=
  ⟨k.os.trans h.os, k.tape.trans h.tape, k.output.trans h.output, Nat.le_trans h.size k.size,
    fun i hi hn => (k.block i (Nat.lt_of_lt_of_le hi h.size) (fun h' => hn (hs i hi h'))).trans (h.block i hi hn)⟩
theorem Frm.drew {S : Nat → Prop} {a w : World} (h : Frm S a w) : Frm S a w.drew := ⟨h.os, h.tape, h.output, h.size, h.block⟩
theorem Frm.drewN {S : Nat → Prop} {a w : World} (h : Frm S a w) (n : Nat) : Frm S a (w.drewN n) := ⟨h.os, h.tape, h.output, h.size, h.block⟩
theorem below_next {w a b : World} (h : Below w.heap.size w a) (k : Below a.heap.size a b) : Below w.heap.size w b := h.trans (k.mono h.size)
theorem below_nextN {w a b : World} {n : Nat} (h : Below w.heap.size w a) (k : Below (a.drewN n).heap.size (a.drewN n) b) : Below w.heap.size w b :=
  below_next h ⟨k.os, k.tape, k.output, k.size, k.block⟩
theorem below_drewN {B : Nat} {a w : World} (h : Below B a w) (n : Nat) : Below B a (w.drewN n) := ⟨h.os, h.tape, h.output, h.size, h.block⟩
theorem Frm.alloc {S : Nat → Prop} {a w : World} (h : Frm S a w) (o : Obj) : Frm S a (w.alloc o) :=
  ⟨h.os, h.tape, h.output, by have := h.size; simp; omega, fun k hk hs => by
    rw [Below.heap_alloc _ _ _ (Nat.lt_of_lt_of_le hk h.size)]; exact h.block k hk hs⟩
theorem Frm.setCell {S : Nat → Prop} {a w : World} (h : Frm S a w) (p : Addr) (u : Value) (hp : a.heap.size ≤ p.block ∨ S p.block) : Frm S a (w.setCell p u) :=
  ⟨h.os, h.tape, h.output, by have := h.size; simp; omega, fun k hk hs => by
    rw [Below.heap_setCell _ _ _ _ (fun e => by rcases hp with hp | hp; omega; exact hs (e ▸ hp))]; exact h.block k hk hs⟩
/-- What changes nothing below B. -/
theorem Frm.below {S : Nat → Prop} {w w' : World} (h : Frm S w w') {B : Nat} (hB : B ≤ w.heap.size) (hS : ∀ k, k < B → ¬ S k) : Below B w w' :=
  ⟨h.os, h.tape, h.output, h.size, fun k hk => h.block k (by omega) (hS k hk)⟩
theorem below_frm {S : Nat → Prop} {w a c : World} (h : Below w.heap.size w a) (f : Frm S a c) (hb : ∀ k, k < w.heap.size → ¬ S k) : Below w.heap.size w c :=
  h.trans (f.below h.size hb)
theorem below_frm1 {w a c : World} {b : Nat} (h : Below w.heap.size w a) (f : Frm (· = b) a c) (hb : w.heap.size ≤ b) : Below w.heap.size w c :=
  below_frm h f (fun k hk e => by omega)
theorem below_frm0 {w a c : World} (h : Below w.heap.size w a) (f : Frm (fun _ => False) a c) : Below w.heap.size w c :=
  below_frm h f (fun _ _ e => e)
theorem Frm.of_below {S : Nat → Prop} {w w' : World} {B : Nat} (h : Below B w w') (hS : ∀ k, k < w.heap.size → B ≤ k → S k) : Frm S w w' :=
  ⟨h.os, h.tape, h.output, h.size, fun k hk hn => h.block k (Nat.lt_of_not_le fun h' => hn (hS k hk h'))⟩
/-- Nothing at all has turned but what is new. -/
abbrev Frm0 (w w' : World) : Prop := Frm (fun _ => False) w w'
theorem Frm0.any {S : Nat → Prop} {w w' : World} (h : Frm0 w w') : Frm S w w' := h.mono (fun _ _ h => h.elim)

section
variable {w w' : World} {b : Nat} {cs : List Value} {T : Nat}
theorem Blk.lt (h : Blk w b cs T) : b < w.heap.size := by
  unfold Blk at h
  exact (Array.getElem?_eq_some_iff.1 h).1
theorem Blk.cell (h : Blk w b cs T) (i : Nat) : w.cell? ⟨b, i, none⟩ = cs[i]? := by
  unfold Blk at h
  simp [World.cell?, h]
theorem Blk.free (h : Blk w b cs T) (i : Nat) : w.frozen? ⟨b, i, none⟩ = false := by
  unfold Blk at h
  simp [World.frozen?, h]
theorem Blk.frm {S : Nat → Prop} (h : Blk w b cs T) (f : Frm S w w') (hb : ¬ S b) : Blk w' b cs T := by
  have := f.block b h.lt hb
  unfold Blk at *
  rw [this]; exact h
theorem Blk.below {B : Nat} (h : Blk w b cs T) (f : Below B w w') (hb : b < B) : Blk w' b cs T := by
  have := f.block b hb
  unfold Blk at *
  rw [this]; exact h
theorem Blk.drew (h : Blk w b cs T) : Blk w.drew b cs T := h
theorem Blk.alloc (h : Blk w b cs T) (o : Obj) : Blk (w.alloc o) b cs T := by
  have := Below.heap_alloc w o b h.lt
  unfold Blk at *
  rw [this]; exact h
theorem Blk.new (w : World) (cs : List Value) (T : Nat) : Blk (w.alloc (.cells cs.toArray T)) w.heap.size cs T := by
  unfold Blk
  show (w.heap.push _)[w.heap.size]? = _
  simp
theorem Blk.setCell (h : Blk w b cs T) (i : Nat) (u : Value) : Blk (w.setCell ⟨b, i, none⟩ u) b (cs.set i u) T := by
  unfold Blk at *
  simp only [World.setCell, Array.getElem?_modify, h]
  simp
theorem Blk.setOther (h : Blk w b cs T) (p : Addr) (u : Value) (hp : p.block ≠ b) : Blk (w.setCell p u) b cs T := by
  have := Below.heap_setCell w p u b (Ne.symm hp)
  unfold Blk at *
  rw [this]; exact h
end

/-- A cell of an argument, read in a later world. -/
theorem Frm.cell {S : Nat → Prop} {w w' : World} (f : Frm S w w') {p : Addr} (hp : p.block < w.heap.size) (hs : ¬ S p.block) : w'.cell? p = w.cell? p :=
  World.cell?_of_block (w := w) (f.block p.block hp hs)

theorem ret_int {k : IntKind} {a b : Int} (h : a = b) : Ending.returned (.int k a) = .returned (.int k b) := by rw [h]
theorem ret_bool {a b : Bool} (h : a = b) : Ending.returned (.bool a) = .returned (.bool b) := by rw [h]
/-- A callee that leaves the world alone, met in a region walked quietly. -/
theorem quiet_same {P : Program} {f : FuncId} {args : Array Value} {w : World} {n : Nat} {v : Value}
    (h : Calls P f args (w.drewN n) fun e w' => e = .returned v ∧ w.drewN n = w') : Calls P f args (w.drewN n) fun e w'' => e = .returned v ∧ ∃ m, w'' = w.drewN m :=
  h.mono fun _ _ ⟨he, hm⟩ => ⟨he, n, hm.symm⟩
theorem Blk.drewN {w : World} {b : Nat} {cs : List Value} {T : Nat} (h : Blk w b cs T) (n : Nat) : Blk (w.drewN n) b cs T := h
end Go.Proofs.YtipalebaaejfjaaDoor
