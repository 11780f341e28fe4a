/-
  No cell of these rows narrows 'for every input' (looked for: loops, veiled, ifaces, maps, wideKeys, modest, calm, conditions, laid).
  DERIVED. THE GIVEN ROWS OF THIS SEAT. 3 by the template 'for every input the law returns true; each argument reads behind the call as it read before'; 0 by the template 'total and deterministic' (their statements: YtcdnojmmkkfdnaaTotals.lean).
  GIVEN WITH THE SEED: the statements are not yours to turn. If you find one false, say at which input.
  Laid BY PROGRAM, IN A SANDBOX (cutbox-rows.mjs): the forced cells as the released guide's own fill.sh prints them over the translation 2df9159811d7a3d9… (all of the seat's roots in one cut). By AI agents, Wed Nov 11 2026. No macro, syntax, notation, axiom, sorry.
-/
import Derived.Test.YtcdnojmmkkfdnaaChecked
import GoSem.Claim
import GoSem.ClaimJoined
import GoSem.ClaimMapViews
import Derived.JoinedTies
import Derived.KernelRfl
namespace Go.Proofs.Ytcdnojmmkkfdnaa
/- THE CELL 'sum', in the pinned program and in every row, IS THE sha256 OF THE DUMP (.gsa) THAT YtcdnojmmkkfdnaaProg.lean LOADS. Nothing in Lean hashes anything: it is a label: what it is worth is what the hold of that sum in a sandbox is worth. -/
noncomputable def Try.pinned : Pinned := { name := "ytcdnojmmkkfdnaa", sum := "2df9159811d7a3d9dee3518ae0d2637da1d8bd5078b89f935add3537d16d6821", checked := Try.checked }
namespace Rows
def none {H : Type} : Left H := { results := [], args := [] }

/-- 'palisadelaw17.EstimPlays': WHATEVER THE INPUT: true; the input reads as it did. -/
def estimPlaysSpec : ChangeSpec := { name := "estimPlays", fn := fun _ => fun
  | [d1, d2, d3] => { results := [.lit (.bool true)], args := [d1, d2, d3] }
  | _ => none }
def estimPlaysRow : OpenClaim := { program := "ytcdnojmmkkfdnaa", sum := "2df9159811d7a3d9dee3518ae0d2637da1d8bd5078b89f935add3537d16d6821", func := "palisade/palisadelaw17.EstimPlays", spec := "estimPlays", apart := false }
def EstimPlaysSaid : Prop := estimPlaysRow.holds Try.pinned (OpenSpec.ofChange estimPlaysSpec)

/-- ITS FALSE NEIGHBOUR: 'it returns false'. Refute it at one input. -/
def estimPlaysWrong : ChangeSpec := { name := "estimPlays", fn := fun _ => fun
  | [d1, d2, d3] => { results := [.lit (.bool false)], args := [d1, d2, d3] }
  | _ => none }
def EstimPlaysWrongFalsely : Prop := estimPlaysRow.holds Try.pinned (OpenSpec.ofChange estimPlaysWrong)

/-- 'palisadelaw17.EstimFew': WHATEVER THE INPUT: true; the input reads as it did. -/
def estimFewSpec : ChangeSpec := { name := "estimFew", fn := fun _ => fun
  | [d1, d2, d3, d4] => { results := [.lit (.bool true)], args := [d1, d2, d3, d4] }
  | _ => none }
def estimFewRow : OpenClaim := { program := "ytcdnojmmkkfdnaa", sum := "2df9159811d7a3d9dee3518ae0d2637da1d8bd5078b89f935add3537d16d6821", func := "palisade/palisadelaw17.EstimFew", spec := "estimFew", apart := false }
def EstimFewSaid : Prop := estimFewRow.holds Try.pinned (OpenSpec.ofChange estimFewSpec)

/-- ITS FALSE NEIGHBOUR: 'it returns false'. Refute it at one input. -/
def estimFewWrong : ChangeSpec := { name := "estimFew", fn := fun _ => fun
  | [d1, d2, d3, d4] => { results := [.lit (.bool false)], args := [d1, d2, d3, d4] }
  | _ => none }
def EstimFewWrongFalsely : Prop := estimFewRow.holds Try.pinned (OpenSpec.ofChange estimFewWrong)

/-- 'palisadelaw17.EstimMost': WHATEVER THE INPUT: true; the input reads as it did. -/
def estimMostSpec : ChangeSpec := { name := "estimMost", fn := fun _ => fun
  | [d1, d2, d3, d4] => { results := [.lit (.bool true)], args := [d1, d2, d3, d4] }
  | _ => none }
def estimMostRow : OpenClaim := { program := "ytcdnojmmkkfdnaa", sum := "2df9159811d7a3d9dee3518ae0d2637da1d8bd5078b89f935add3537d16d6821", func := "palisade/palisadelaw17.EstimMost", spec := "estimMost", apart := false }
def EstimMostSaid : Prop := estimMostRow.holds Try.pinned (OpenSpec.ofChange estimMostSpec)

/-- ITS FALSE NEIGHBOUR: 'it returns false'. Refute it at one input. -/
def estimMostWrong : ChangeSpec := { name := "estimMost", fn := fun _ => fun
  | [d1, d2, d3, d4] => { results := [.lit (.bool false)], args := [d1, d2, d3, d4] }
  | _ => none }
def EstimMostWrongFalsely : Prop := estimMostRow.holds Try.pinned (OpenSpec.ofChange estimMostWrong)

/- THE SECOND FORM. 'bulk': how many values and letters a reading holds, each counted each time it is reached (what is shared counts as often as it is met; a slice's spare places count too). A statement '..UptoSaid' is the law's where the arguments, and the package variables that the reading takes, are together of bulk at most 1048576: NARROWER than '..Said'. Prove '..Said' where nothing that the law and all that it calls make is longer than what came in: it says more and counts as full. Else prove '..UptoSaid'. A law counts once. -/
mutual
def uptoBulk {H : Type} : DataW H → Nat
  | .lit (.string bytes) => bytes.length + 1
  | .lit _ => 1
  | .nil => 1
  | .ptr d => uptoBulk d + 1
  | .slice elems spare => uptoBulkAll elems + uptoBulkAll spare + 1
  | .agg parts => uptoBulkAll parts + 1
  | .iface _ d => uptoBulk d + 1
  | .map entries => uptoBulkEntries entries + 1
  | .held _ => 1
def uptoBulkAll {H : Type} : List (DataW H) → Nat
  | [] => 0
  | d :: r => uptoBulk d + uptoBulkAll r
def uptoBulkEntries {H : Type} : List (Lit × DataW H) → Nat
  | [] => 0
  | x :: r => uptoBulkEntry x + uptoBulkEntries r
def uptoBulkEntry {H : Type} : Lit × DataW H → Nat
  | (.string bytes, d) => bytes.length + uptoBulk d + 1
  | (_, d) => uptoBulk d + 1
 end
def uptoSmall : (H : Type) → List (DataW H) → Bool := fun _ ds => decide (uptoBulkAll ds ≤ 1048576)
def OpenSpec.upto (s : _root_.Go.ChangeSpec) : _root_.Go.OpenSpec := { _root_.Go.OpenSpec.ofChange s with cond := some uptoSmall }

/-- 'palisadelaw17.EstimPlays', WHERE WHAT IT READS IS OF BULK AT MOST 1048576: true; the input reads as it did. -/
def estimPlaysUptoRow : OpenClaim := { program := "ytcdnojmmkkfdnaa", sum := "2df9159811d7a3d9dee3518ae0d2637da1d8bd5078b89f935add3537d16d6821", func := "palisade/palisadelaw17.EstimPlays", spec := "estimPlays", apart := false, narrowed := true }
def EstimPlaysUptoSaid : Prop := estimPlaysUptoRow.holds Try.pinned (OpenSpec.upto estimPlaysSpec)

/-- 'palisadelaw17.EstimFew', WHERE WHAT IT READS IS OF BULK AT MOST 1048576: true; the input reads as it did. -/
def estimFewUptoRow : OpenClaim := { program := "ytcdnojmmkkfdnaa", sum := "2df9159811d7a3d9dee3518ae0d2637da1d8bd5078b89f935add3537d16d6821", func := "palisade/palisadelaw17.EstimFew", spec := "estimFew", apart := false, narrowed := true }
def EstimFewUptoSaid : Prop := estimFewUptoRow.holds Try.pinned (OpenSpec.upto estimFewSpec)

/-- 'palisadelaw17.EstimMost', WHERE WHAT IT READS IS OF BULK AT MOST 1048576: true; the input reads as it did. -/
def estimMostUptoRow : OpenClaim := { program := "ytcdnojmmkkfdnaa", sum := "2df9159811d7a3d9dee3518ae0d2637da1d8bd5078b89f935add3537d16d6821", func := "palisade/palisadelaw17.EstimMost", spec := "estimMost", apart := false, narrowed := true }
def EstimMostUptoSaid : Prop := estimMostUptoRow.holds Try.pinned (OpenSpec.upto estimMostSpec)

end Rows
end Go.Proofs.Ytcdnojmmkkfdnaa
