/-
  No cell of these rows narrows 'for every input' (looked for: loops, veiled, ifaces, maps, wideKeys, modest, calm, conditions, laid).
  DERIVED. THE GIVEN ROWS OF THIS SEAT. 4 by the template 'for every input the law returns true; each argument reads behind the call as it read before'; 0 by the template 'total and deterministic' (their statements: YtljfbaakgjmmfaaTotals.lean).
  GIVEN WITH THE SEED: the statements are not yours to turn. If you find one false, say at which input.
  Laid BY PROGRAM, IN A SANDBOX (cutbox-rows.mjs): the forced cells as the released guide's own fill.sh prints them over the translation e681cbe74973ee48… (all of the seat's roots in one cut). By AI agents, Wed Nov 11 2026. No macro, syntax, notation, axiom, sorry.
-/
import Derived.Test.YtljfbaakgjmmfaaChecked
import GoSem.Claim
import GoSem.ClaimJoined
import GoSem.ClaimMapViews
import Derived.JoinedTies
import Derived.KernelRfl
namespace Go.Proofs.Ytljfbaakgjmmfaa
/- THE CELL 'sum', in the pinned program and in every row, IS THE sha256 OF THE DUMP (.gsa) THAT YtljfbaakgjmmfaaProg.lean LOADS. Nothing in Lean hashes anything: it is a label: what it is worth is what the hold of that sum in a sandbox is worth. -/
noncomputable def Try.pinned : Pinned := { name := "ytljfbaakgjmmfaa", sum := "e681cbe74973ee480bf884f0e39aba2fc7f03a5fc32ef0647c9be2c50b27e114", checked := Try.checked }
namespace Rows
def none {H : Type} : Left H := { results := [], args := [] }

/-- 'palisadelaw24.CheckParts': WHATEVER THE INPUT: true; the input reads as it did. -/
def checkPartsSpec : ChangeSpec := { name := "checkParts", fn := fun _ => fun
  | [d1, d2, d3, d4] => { results := [.lit (.bool true)], args := [d1, d2, d3, d4] }
  | _ => none }
def checkPartsRow : OpenClaim := { program := "ytljfbaakgjmmfaa", sum := "e681cbe74973ee480bf884f0e39aba2fc7f03a5fc32ef0647c9be2c50b27e114", func := "palisade/palisadelaw24.CheckParts", spec := "checkParts", plainKeys := false, apart := false }
def CheckPartsSaid : Prop := checkPartsRow.holds Try.pinned (OpenSpec.ofChange checkPartsSpec)

/-- ITS FALSE NEIGHBOUR: 'it returns false'. Refute it at one input. -/
def checkPartsWrong : ChangeSpec := { name := "checkParts", fn := fun _ => fun
  | [d1, d2, d3, d4] => { results := [.lit (.bool false)], args := [d1, d2, d3, d4] }
  | _ => none }
def CheckPartsWrongFalsely : Prop := checkPartsRow.holds Try.pinned (OpenSpec.ofChange checkPartsWrong)

/-- 'palisadelaw24.CheckAdds': WHATEVER THE INPUT: true; the input reads as it did. -/
def checkAddsSpec : ChangeSpec := { name := "checkAdds", fn := fun _ => fun
  | [d1, d2, d3] => { results := [.lit (.bool true)], args := [d1, d2, d3] }
  | _ => none }
def checkAddsRow : OpenClaim := { program := "ytljfbaakgjmmfaa", sum := "e681cbe74973ee480bf884f0e39aba2fc7f03a5fc32ef0647c9be2c50b27e114", func := "palisade/palisadelaw24.CheckAdds", spec := "checkAdds", plainKeys := false, apart := false }
def CheckAddsSaid : Prop := checkAddsRow.holds Try.pinned (OpenSpec.ofChange checkAddsSpec)

/-- ITS FALSE NEIGHBOUR: 'it returns false'. Refute it at one input. -/
def checkAddsWrong : ChangeSpec := { name := "checkAdds", fn := fun _ => fun
  | [d1, d2, d3] => { results := [.lit (.bool false)], args := [d1, d2, d3] }
  | _ => none }
def CheckAddsWrongFalsely : Prop := checkAddsRow.holds Try.pinned (OpenSpec.ofChange checkAddsWrong)

/-- 'palisadelaw24.CheckAgain': WHATEVER THE INPUT: true; the input reads as it did. -/
def checkAgainSpec : ChangeSpec := { name := "checkAgain", fn := fun _ => fun
  | [d1, d2, d3] => { results := [.lit (.bool true)], args := [d1, d2, d3] }
  | _ => none }
def checkAgainRow : OpenClaim := { program := "ytljfbaakgjmmfaa", sum := "e681cbe74973ee480bf884f0e39aba2fc7f03a5fc32ef0647c9be2c50b27e114", func := "palisade/palisadelaw24.CheckAgain", spec := "checkAgain", plainKeys := false, apart := false }
def CheckAgainSaid : Prop := checkAgainRow.holds Try.pinned (OpenSpec.ofChange checkAgainSpec)

/-- ITS FALSE NEIGHBOUR: 'it returns false'. Refute it at one input. -/
def checkAgainWrong : ChangeSpec := { name := "checkAgain", fn := fun _ => fun
  | [d1, d2, d3] => { results := [.lit (.bool false)], args := [d1, d2, d3] }
  | _ => none }
def CheckAgainWrongFalsely : Prop := checkAgainRow.holds Try.pinned (OpenSpec.ofChange checkAgainWrong)

/-- 'palisadelaw24.CheckTells': WHATEVER THE INPUT: true; the input reads as it did. -/
def checkTellsSpec : ChangeSpec := { name := "checkTells", fn := fun _ => fun
  | [d1, d2, d3, d4] => { results := [.lit (.bool true)], args := [d1, d2, d3, d4] }
  | _ => none }
def checkTellsRow : OpenClaim := { program := "ytljfbaakgjmmfaa", sum := "e681cbe74973ee480bf884f0e39aba2fc7f03a5fc32ef0647c9be2c50b27e114", func := "palisade/palisadelaw24.CheckTells", spec := "checkTells", plainKeys := false, apart := false }
def CheckTellsSaid : Prop := checkTellsRow.holds Try.pinned (OpenSpec.ofChange checkTellsSpec)

/-- ITS FALSE NEIGHBOUR: 'it returns false'. Refute it at one input. -/
def checkTellsWrong : ChangeSpec := { name := "checkTells", fn := fun _ => fun
  | [d1, d2, d3, d4] => { results := [.lit (.bool false)], args := [d1, d2, d3, d4] }
  | _ => none }
def CheckTellsWrongFalsely : Prop := checkTellsRow.holds Try.pinned (OpenSpec.ofChange checkTellsWrong)

/- THE SECOND FORM. 'bulk': how many values and letters a reading holds, each counted each time it is reached (what is shared counts as often as it is met; a slice's spare places count too). A statement '..UptoSaid' is the law's where the arguments, and the package variables that the reading takes, are together of bulk at most 1048576: NARROWER than '..Said'. Prove '..Said' where nothing that the law and all that it calls make is longer than what came in: it says more and counts as full. Else prove '..UptoSaid'. A law counts once. -/
mutual
def uptoBulk {H : Type} : DataW H → Nat
  | .lit (.string bytes) => bytes.length + 1
  | .lit _ => 1
  | .nil => 1
  | .ptr d => uptoBulk d + 1
  | .slice elems spare => uptoBulkAll elems + uptoBulkAll spare + 1
  | .agg parts => uptoBulkAll parts + 1
  | .iface _ d => uptoBulk d + 1
  | .map entries => uptoBulkEntries entries + 1
  | .held _ => 1
def uptoBulkAll {H : Type} : List (DataW H) → Nat
  | [] => 0
  | d :: r => uptoBulk d + uptoBulkAll r
def uptoBulkEntries {H : Type} : List (Lit × DataW H) → Nat
  | [] => 0
  | x :: r => uptoBulkEntry x + uptoBulkEntries r
def uptoBulkEntry {H : Type} : Lit × DataW H → Nat
  | (.string bytes, d) => bytes.length + uptoBulk d + 1
  | (_, d) => uptoBulk d + 1
 end
def uptoSmall : (H : Type) → List (DataW H) → Bool := fun _ ds => decide (uptoBulkAll ds ≤ 1048576)
def OpenSpec.upto (s : _root_.Go.ChangeSpec) : _root_.Go.OpenSpec := { _root_.Go.OpenSpec.ofChange s with cond := some uptoSmall }

/-- 'palisadelaw24.CheckParts', WHERE WHAT IT READS IS OF BULK AT MOST 1048576: true; the input reads as it did. -/
def checkPartsUptoRow : OpenClaim := { program := "ytljfbaakgjmmfaa", sum := "e681cbe74973ee480bf884f0e39aba2fc7f03a5fc32ef0647c9be2c50b27e114", func := "palisade/palisadelaw24.CheckParts", spec := "checkParts", plainKeys := false, apart := false, narrowed := true }
def CheckPartsUptoSaid : Prop := checkPartsUptoRow.holds Try.pinned (OpenSpec.upto checkPartsSpec)

/-- 'palisadelaw24.CheckAdds', WHERE WHAT IT READS IS OF BULK AT MOST 1048576: true; the input reads as it did. -/
def checkAddsUptoRow : OpenClaim := { program := "ytljfbaakgjmmfaa", sum := "e681cbe74973ee480bf884f0e39aba2fc7f03a5fc32ef0647c9be2c50b27e114", func := "palisade/palisadelaw24.CheckAdds", spec := "checkAdds", plainKeys := false, apart := false, narrowed := true }
def CheckAddsUptoSaid : Prop := checkAddsUptoRow.holds Try.pinned (OpenSpec.upto checkAddsSpec)

/-- 'palisadelaw24.CheckAgain', WHERE WHAT IT READS IS OF BULK AT MOST 1048576: true; the input reads as it did. -/
def checkAgainUptoRow : OpenClaim := { program := "ytljfbaakgjmmfaa", sum := "e681cbe74973ee480bf884f0e39aba2fc7f03a5fc32ef0647c9be2c50b27e114", func := "palisade/palisadelaw24.CheckAgain", spec := "checkAgain", plainKeys := false, apart := false, narrowed := true }
def CheckAgainUptoSaid : Prop := checkAgainUptoRow.holds Try.pinned (OpenSpec.upto checkAgainSpec)

/-- 'palisadelaw24.CheckTells', WHERE WHAT IT READS IS OF BULK AT MOST 1048576: true; the input reads as it did. -/
def checkTellsUptoRow : OpenClaim := { program := "ytljfbaakgjmmfaa", sum := "e681cbe74973ee480bf884f0e39aba2fc7f03a5fc32ef0647c9be2c50b27e114", func := "palisade/palisadelaw24.CheckTells", spec := "checkTells", plainKeys := false, apart := false, narrowed := true }
def CheckTellsUptoSaid : Prop := checkTellsUptoRow.holds Try.pinned (OpenSpec.upto checkTellsSpec)

end Rows
end Go.Proofs.Ytljfbaakgjmmfaa
