/- Votes with lists, as they lie in memory. -/
import Derived.Test.YtipalebaaejfjaaDoorMsgReq
import Derived.Test.YtipalebaaejfjaaDoorHeld
import Derived.Laws.Rows
namespace Go.Proofs.YtipalebaaejfjaaDoor
open Go.RowKit Go.ChangeShapes
set_option linter.unusedVariables false
set_option linter.unusedSimpArgs false
set_option maxRecDepth 100000
theorem dbox (w : World) (o : Obj) : Frm (fun _ => False) w (w.alloc o) := (Frm.refl _ _).alloc o
/-- A slice of things of n cells each, as it lies in memory. -/
structure IsRow {α : Type} (n : Nat) (C : α → List Value) (w : World) (a : Option Addr) (cap : Nat) (l : List α) : Prop where
  le : l.length ≤ cap
  small : cap ≤ 9223372036854775807
  at_ : l.length ≠ 0 → ∃ b o, a = some ⟨b, o, none⟩ ∧ b < w.heap.size ∧ ∀ j r, l[j]? = some r → ∀ i, i < n → w.cell? ⟨b, o + j * n + i, none⟩ = (C r)[i]?
theorem IsRow.quiet {α : Type} {n : Nat} {C : α → List Value} {w w' : World} {a : Option Addr} {cap : Nat} {l : List α} (h : IsRow n C w a cap l) (f : Frm (fun _ => False) w w') : IsRow n C w' a cap l :=
  ⟨h.le, h.small, fun hn => by
    obtain ⟨b, o, e, hb, hc⟩ := h.at_ hn
    exact ⟨b, o, e, Nat.lt_of_lt_of_le hb f.size, fun j r hj i hi => (f.cell (p := ⟨b, o + j * n + i, none⟩) hb (fun h => h)).trans (hc j r hj i hi)⟩⟩
/-- A mark; an entry: a request at a place, in a view. -/
abbrev Mk : Type := Int × Int
def mkC (m : Mk) : List Value := [.int .u32 m.1, .int .u64 m.2]
structure En where
  s : Int
  v : Int
  c : Int
  t : Int
  k : Int
  y : Int
  x : Int
def enC (e : En) : List Value := [.int .u32 e.s, .int .u32 e.v, .int .u8 e.c, .int .u32 e.t, .int .u8 e.k, .int .u8 e.y, .int .u16 e.x]
abbrev TEn : Nat := 53
/-- A vote: its numbers, its lists, and where these lie. -/
structure Vm where
  f : Int
  e : Int
  v : Int
  l : Int
  ma : Option Addr
  mc : Nat
  ms : List Mk
  pa : Option Addr
  pc : Nat
  p : List En
  qa : Option Addr
  qc : Nat
  q : List En
def vmC (x : Vm) : List Value := [.int .u8 x.f, .int .u8 x.e, .int .u32 x.v, .int .u32 x.l, .slice x.ma x.ms.length x.mc, .slice x.pa x.p.length x.pc, .slice x.qa x.q.length x.qc]
/-- Its lists lie there. -/
structure VmOk (w : World) (x : Vm) : Prop where
  ms : IsRow 2 mkC w x.ma x.mc x.ms
  p : IsRow 7 enC w x.pa x.pc x.p
  q : IsRow 7 enC w x.qa x.qc x.q
theorem VmOk.quiet {w w' : World} {x : Vm} (h : VmOk w x) (f : Frm (fun _ => False) w w') : VmOk w' x := ⟨h.ms.quiet f, h.p.quiet f, h.q.quiet f⟩
def reqB (e : En) : Bool := isNull e.c e.t e.k e.y e.x || isReal e.c e.t e.k e.y e.x
/-- An entry may be. -/
def enB (e : En) : Bool := decide (e.s ≠ 0 ∧ e.s ≤ 1073741824 ∧ e.v ≤ 1048576) && reqB e
def seqB (a b : En) : Bool := decide (a.s < b.s)
/-- Those that stand behind others stand in order. -/
def ordB (ah : En → En → Bool) : List En → Bool
  | a :: b :: l => ah a b && ordB ah (b :: l)
  | _ => true
theorem ahead_calls (w : World) (a b : En) : Calls Tryd.prog 42 #[.agg #[.int .u32 a.s, .int .u32 a.v, .int .u8 a.c, .int .u32 a.t, .int .u8 a.k, .int .u8 a.y, .int .u16 a.x], .agg #[.int .u32 b.s, .int .u32 b.v, .int .u8 b.c, .int .u32 b.t, .int .u8 b.k, .int .u8 b.y, .int .u16 b.x]] w fun e w' => e = .returned (.bool (seqB a b)) ∧ Frm (fun _ => False) w w' := by
  obtain ⟨a0, a1, a2, a3, a4, a5, a6⟩ := a
  obtain ⟨b0, b1, b2, b3, b4, b5, b6⟩ := b
  go_enter Tryd.func42, Tryd.ntmps42
  go_wp2
  go_ret
  exact ⟨rfl, (dbox _ _).trans (dbox _ _)⟩
end Go.Proofs.YtipalebaaejfjaaDoor
