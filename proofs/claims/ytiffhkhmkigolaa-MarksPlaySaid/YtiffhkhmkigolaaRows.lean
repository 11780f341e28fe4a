/-
  No cell of these rows narrows 'for every input' (looked for: loops, veiled, ifaces, maps, wideKeys, modest, calm, conditions, laid).
  DERIVED. THE GIVEN ROWS OF THIS SEAT. 4 by the template 'for every input the law returns true; each argument reads behind the call as it read before'; 0 by the template 'total and deterministic' (their statements: YtiffhkhmkigolaaTotals.lean).
  GIVEN WITH THE SEED: the statements are not yours to turn. If you find one false, say at which input.
  Laid BY PROGRAM, IN A SANDBOX (cutbox-rows.mjs): the forced cells as the released guide's own fill.sh prints them over the translation 0bea19a597e051f1… (all of the seat's roots in one cut). By AI agents, Wed Nov 11 2026. No macro, syntax, notation, axiom, sorry.
-/
import Derived.Test.YtiffhkhmkigolaaChecked
import GoSem.Claim
import GoSem.ClaimJoined
import GoSem.ClaimMapViews
import Derived.JoinedTies
import Derived.KernelRfl
namespace Go.Proofs.Ytiffhkhmkigolaa
/- THE CELL 'sum', in the pinned program and in every row, IS THE sha256 OF THE DUMP (.gsa) THAT YtiffhkhmkigolaaProg.lean LOADS. Nothing in Lean hashes anything: it is a label: what it is worth is what the hold of that sum in a sandbox is worth. -/
noncomputable def Try.pinned : Pinned := { name := "ytiffhkhmkigolaa", sum := "0bea19a597e051f17a5c854cbc2e3936b80c5732a0b7b7e51bb1ed6b71c3b4c6", checked := Try.checked }
namespace Rows
def none {H : Type} : Left H := { results := [], args := [] }

/-- 'palisadelaw13.MarksHonest': WHATEVER THE INPUT: true; the input reads as it did. -/
def marksHonestSpec : ChangeSpec := { name := "marksHonest", fn := fun _ => fun
  | [d1, d2] => { results := [.lit (.bool true)], args := [d1, d2] }
  | _ => none }
def marksHonestRow : OpenClaim := { program := "ytiffhkhmkigolaa", sum := "0bea19a597e051f17a5c854cbc2e3936b80c5732a0b7b7e51bb1ed6b71c3b4c6", func := "palisade/palisadelaw13.MarksHonest", spec := "marksHonest", unfollowed := true, recurses := true, plainKeys := false, apart := false }
def MarksHonestSaid : Prop := marksHonestRow.holds Try.pinned (OpenSpec.ofChange marksHonestSpec)

/-- ITS FALSE NEIGHBOUR: 'it returns false'. Refute it at one input. -/
def marksHonestWrong : ChangeSpec := { name := "marksHonest", fn := fun _ => fun
  | [d1, d2] => { results := [.lit (.bool false)], args := [d1, d2] }
  | _ => none }
def MarksHonestWrongFalsely : Prop := marksHonestRow.holds Try.pinned (OpenSpec.ofChange marksHonestWrong)

/-- 'palisadelaw13.MarksBest': WHATEVER THE INPUT: true; the input reads as it did. -/
def marksBestSpec : ChangeSpec := { name := "marksBest", fn := fun _ => fun
  | [d1, d2, d3, d4] => { results := [.lit (.bool true)], args := [d1, d2, d3, d4] }
  | _ => none }
def marksBestRow : OpenClaim := { program := "ytiffhkhmkigolaa", sum := "0bea19a597e051f17a5c854cbc2e3936b80c5732a0b7b7e51bb1ed6b71c3b4c6", func := "palisade/palisadelaw13.MarksBest", spec := "marksBest", unfollowed := true, recurses := true, plainKeys := false, apart := false }
def MarksBestSaid : Prop := marksBestRow.holds Try.pinned (OpenSpec.ofChange marksBestSpec)

/-- ITS FALSE NEIGHBOUR: 'it returns false'. Refute it at one input. -/
def marksBestWrong : ChangeSpec := { name := "marksBest", fn := fun _ => fun
  | [d1, d2, d3, d4] => { results := [.lit (.bool false)], args := [d1, d2, d3, d4] }
  | _ => none }
def MarksBestWrongFalsely : Prop := marksBestRow.holds Try.pinned (OpenSpec.ofChange marksBestWrong)

/-- 'palisadelaw13.MarksPlay': WHATEVER THE INPUT: true; the input reads as it did. -/
def marksPlaySpec : ChangeSpec := { name := "marksPlay", fn := fun _ => fun
  | [d1, d2, d3, d4] => { results := [.lit (.bool true)], args := [d1, d2, d3, d4] }
  | _ => none }
def marksPlayRow : OpenClaim := { program := "ytiffhkhmkigolaa", sum := "0bea19a597e051f17a5c854cbc2e3936b80c5732a0b7b7e51bb1ed6b71c3b4c6", func := "palisade/palisadelaw13.MarksPlay", spec := "marksPlay", unfollowed := true, recurses := true, plainKeys := false, apart := false }
def MarksPlaySaid : Prop := marksPlayRow.holds Try.pinned (OpenSpec.ofChange marksPlaySpec)

/-- ITS FALSE NEIGHBOUR: 'it returns false'. Refute it at one input. -/
def marksPlayWrong : ChangeSpec := { name := "marksPlay", fn := fun _ => fun
  | [d1, d2, d3, d4] => { results := [.lit (.bool false)], args := [d1, d2, d3, d4] }
  | _ => none }
def MarksPlayWrongFalsely : Prop := marksPlayRow.holds Try.pinned (OpenSpec.ofChange marksPlayWrong)

/-- 'palisadelaw13.MarksTwo': WHATEVER THE INPUT: true; the input reads as it did. -/
def marksTwoSpec : ChangeSpec := { name := "marksTwo", fn := fun _ => fun
  | [d1, d2] => { results := [.lit (.bool true)], args := [d1, d2] }
  | _ => none }
def marksTwoRow : OpenClaim := { program := "ytiffhkhmkigolaa", sum := "0bea19a597e051f17a5c854cbc2e3936b80c5732a0b7b7e51bb1ed6b71c3b4c6", func := "palisade/palisadelaw13.MarksTwo", spec := "marksTwo", unfollowed := true, recurses := true, plainKeys := false, apart := false }
def MarksTwoSaid : Prop := marksTwoRow.holds Try.pinned (OpenSpec.ofChange marksTwoSpec)

/-- ITS FALSE NEIGHBOUR: 'it returns false'. Refute it at one input. -/
def marksTwoWrong : ChangeSpec := { name := "marksTwo", fn := fun _ => fun
  | [d1, d2] => { results := [.lit (.bool false)], args := [d1, d2] }
  | _ => none }
def MarksTwoWrongFalsely : Prop := marksTwoRow.holds Try.pinned (OpenSpec.ofChange marksTwoWrong)

/- THE SECOND FORM. 'bulk': how many values and letters a reading holds, each counted each time it is reached (what is shared counts as often as it is met; a slice's spare places count too). A statement '..UptoSaid' is the law's where the arguments, and the package variables that the reading takes, are together of bulk at most 1048576: NARROWER than '..Said'. Prove '..Said' where nothing that the law and all that it calls make is longer than what came in: it says more and counts as full. Else prove '..UptoSaid'. A law counts once. -/
mutual
def uptoBulk {H : Type} : DataW H → Nat
  | .lit (.string bytes) => bytes.length + 1
  | .lit _ => 1
  | .nil => 1
  | .ptr d => uptoBulk d + 1
  | .slice elems spare => uptoBulkAll elems + uptoBulkAll spare + 1
  | .agg parts => uptoBulkAll parts + 1
  | .iface _ d => uptoBulk d + 1
  | .map entries => uptoBulkEntries entries + 1
  | .held _ => 1
def uptoBulkAll {H : Type} : List (DataW H) → Nat
  | [] => 0
  | d :: r => uptoBulk d + uptoBulkAll r
def uptoBulkEntries {H : Type} : List (Lit × DataW H) → Nat
  | [] => 0
  | x :: r => uptoBulkEntry x + uptoBulkEntries r
def uptoBulkEntry {H : Type} : Lit × DataW H → Nat
  | (.string bytes, d) => bytes.length + uptoBulk d + 1
  | (_, d) => uptoBulk d + 1
 end
def uptoSmall : (H : Type) → List (DataW H) → Bool := fun _ ds => decide (uptoBulkAll ds ≤ 1048576)
def OpenSpec.upto (s : _root_.Go.ChangeSpec) : _root_.Go.OpenSpec := { _root_.Go.OpenSpec.ofChange s with cond := some uptoSmall }

/-- 'palisadelaw13.MarksHonest', WHERE WHAT IT READS IS OF BULK AT MOST 1048576: true; the input reads as it did. -/
def marksHonestUptoRow : OpenClaim := { program := "ytiffhkhmkigolaa", sum := "0bea19a597e051f17a5c854cbc2e3936b80c5732a0b7b7e51bb1ed6b71c3b4c6", func := "palisade/palisadelaw13.MarksHonest", spec := "marksHonest", unfollowed := true, recurses := true, plainKeys := false, apart := false, narrowed := true }
def MarksHonestUptoSaid : Prop := marksHonestUptoRow.holds Try.pinned (OpenSpec.upto marksHonestSpec)

/-- 'palisadelaw13.MarksBest', WHERE WHAT IT READS IS OF BULK AT MOST 1048576: true; the input reads as it did. -/
def marksBestUptoRow : OpenClaim := { program := "ytiffhkhmkigolaa", sum := "0bea19a597e051f17a5c854cbc2e3936b80c5732a0b7b7e51bb1ed6b71c3b4c6", func := "palisade/palisadelaw13.MarksBest", spec := "marksBest", unfollowed := true, recurses := true, plainKeys := false, apart := false, narrowed := true }
def MarksBestUptoSaid : Prop := marksBestUptoRow.holds Try.pinned (OpenSpec.upto marksBestSpec)

/-- 'palisadelaw13.MarksPlay', WHERE WHAT IT READS IS OF BULK AT MOST 1048576: true; the input reads as it did. -/
def marksPlayUptoRow : OpenClaim := { program := "ytiffhkhmkigolaa", sum := "0bea19a597e051f17a5c854cbc2e3936b80c5732a0b7b7e51bb1ed6b71c3b4c6", func := "palisade/palisadelaw13.MarksPlay", spec := "marksPlay", unfollowed := true, recurses := true, plainKeys := false, apart := false, narrowed := true }
def MarksPlayUptoSaid : Prop := marksPlayUptoRow.holds Try.pinned (OpenSpec.upto marksPlaySpec)

/-- 'palisadelaw13.MarksTwo', WHERE WHAT IT READS IS OF BULK AT MOST 1048576: true; the input reads as it did. -/
def marksTwoUptoRow : OpenClaim := { program := "ytiffhkhmkigolaa", sum := "0bea19a597e051f17a5c854cbc2e3936b80c5732a0b7b7e51bb1ed6b71c3b4c6", func := "palisade/palisadelaw13.MarksTwo", spec := "marksTwo", unfollowed := true, recurses := true, plainKeys := false, apart := false, narrowed := true }
def MarksTwoUptoSaid : Prop := marksTwoUptoRow.holds Try.pinned (OpenSpec.upto marksTwoSpec)

end Rows
end Go.Proofs.Ytiffhkhmkigolaa
