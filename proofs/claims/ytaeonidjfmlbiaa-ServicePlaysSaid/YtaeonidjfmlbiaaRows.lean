/-
  No cell of these rows narrows 'for every input' (looked for: loops, veiled, ifaces, maps, wideKeys, modest, calm, conditions, laid).
  DERIVED. THE GIVEN ROWS OF THIS SEAT. 5 by the template 'for every input the law returns true; each argument reads behind the call as it read before'; 0 by the template 'total and deterministic' (their statements: YtaeonidjfmlbiaaTotals.lean).
  GIVEN WITH THE SEED: the statements are not yours to turn. If you find one false, say at which input.
  Laid BY PROGRAM, IN A SANDBOX (cutbox-rows.mjs): the forced cells as the released guide's own fill.sh prints them over the translation 248223f9399a3ee5… (all of the seat's roots in one cut). By AI agents, Wed Nov 11 2026. No macro, syntax, notation, axiom, sorry.
-/
import Derived.Test.YtaeonidjfmlbiaaChecked
import GoSem.Claim
import GoSem.ClaimJoined
import GoSem.ClaimMapViews
import Derived.JoinedTies
import Derived.KernelRfl
namespace Go.Proofs.Ytaeonidjfmlbiaa
/- THE CELL 'sum', in the pinned program and in every row, IS THE sha256 OF THE DUMP (.gsa) THAT YtaeonidjfmlbiaaProg.lean LOADS. Nothing in Lean hashes anything: it is a label: what it is worth is what the hold of that sum in a sandbox is worth. -/
noncomputable def Try.pinned : Pinned := { name := "ytaeonidjfmlbiaa", sum := "248223f9399a3ee5ff0a625f8f374feab1c5f395473997fc7492a429e7b46f07", checked := Try.checked }
namespace Rows
def none {H : Type} : Left H := { results := [], args := [] }

/-- 'palisadelaw11.ServiceReads': WHATEVER THE INPUT: true; the input reads as it did. -/
def serviceReadsSpec : ChangeSpec := { name := "serviceReads", fn := fun _ => fun
  | [d1, d2, d3] => { results := [.lit (.bool true)], args := [d1, d2, d3] }
  | _ => none }
def serviceReadsRow : OpenClaim := { program := "ytaeonidjfmlbiaa", sum := "248223f9399a3ee5ff0a625f8f374feab1c5f395473997fc7492a429e7b46f07", func := "palisade/palisadelaw11.ServiceReads", spec := "serviceReads", apart := false }
def ServiceReadsSaid : Prop := serviceReadsRow.holds Try.pinned (OpenSpec.ofChange serviceReadsSpec)

/-- ITS FALSE NEIGHBOUR: 'it returns false'. Refute it at one input. -/
def serviceReadsWrong : ChangeSpec := { name := "serviceReads", fn := fun _ => fun
  | [d1, d2, d3] => { results := [.lit (.bool false)], args := [d1, d2, d3] }
  | _ => none }
def ServiceReadsWrongFalsely : Prop := serviceReadsRow.holds Try.pinned (OpenSpec.ofChange serviceReadsWrong)

/-- 'palisadelaw11.ServiceAdds': WHATEVER THE INPUT: true; the input reads as it did. -/
def serviceAddsSpec : ChangeSpec := { name := "serviceAdds", fn := fun _ => fun
  | [d] => { results := [.lit (.bool true)], args := [d] }
  | _ => none }
def serviceAddsRow : OpenClaim := { program := "ytaeonidjfmlbiaa", sum := "248223f9399a3ee5ff0a625f8f374feab1c5f395473997fc7492a429e7b46f07", func := "palisade/palisadelaw11.ServiceAdds", spec := "serviceAdds", apart := false }
def ServiceAddsSaid : Prop := serviceAddsRow.holds Try.pinned (OpenSpec.ofChange serviceAddsSpec)

/-- ITS FALSE NEIGHBOUR: 'it returns false'. Refute it at one input. -/
def serviceAddsWrong : ChangeSpec := { name := "serviceAdds", fn := fun _ => fun
  | [d] => { results := [.lit (.bool false)], args := [d] }
  | _ => none }
def ServiceAddsWrongFalsely : Prop := serviceAddsRow.holds Try.pinned (OpenSpec.ofChange serviceAddsWrong)

/-- 'palisadelaw11.ServiceOld': WHATEVER THE INPUT: true; the input reads as it did. -/
def serviceOldSpec : ChangeSpec := { name := "serviceOld", fn := fun _ => fun
  | [d1, d2, d3] => { results := [.lit (.bool true)], args := [d1, d2, d3] }
  | _ => none }
def serviceOldRow : OpenClaim := { program := "ytaeonidjfmlbiaa", sum := "248223f9399a3ee5ff0a625f8f374feab1c5f395473997fc7492a429e7b46f07", func := "palisade/palisadelaw11.ServiceOld", spec := "serviceOld", apart := false }
def ServiceOldSaid : Prop := serviceOldRow.holds Try.pinned (OpenSpec.ofChange serviceOldSpec)

/-- ITS FALSE NEIGHBOUR: 'it returns false'. Refute it at one input. -/
def serviceOldWrong : ChangeSpec := { name := "serviceOld", fn := fun _ => fun
  | [d1, d2, d3] => { results := [.lit (.bool false)], args := [d1, d2, d3] }
  | _ => none }
def ServiceOldWrongFalsely : Prop := serviceOldRow.holds Try.pinned (OpenSpec.ofChange serviceOldWrong)

/-- 'palisadelaw11.ServiceOnce': WHATEVER THE INPUT: true; the input reads as it did. -/
def serviceOnceSpec : ChangeSpec := { name := "serviceOnce", fn := fun _ => fun
  | [d1, d2] => { results := [.lit (.bool true)], args := [d1, d2] }
  | _ => none }
def serviceOnceRow : OpenClaim := { program := "ytaeonidjfmlbiaa", sum := "248223f9399a3ee5ff0a625f8f374feab1c5f395473997fc7492a429e7b46f07", func := "palisade/palisadelaw11.ServiceOnce", spec := "serviceOnce", apart := false }
def ServiceOnceSaid : Prop := serviceOnceRow.holds Try.pinned (OpenSpec.ofChange serviceOnceSpec)

/-- ITS FALSE NEIGHBOUR: 'it returns false'. Refute it at one input. -/
def serviceOnceWrong : ChangeSpec := { name := "serviceOnce", fn := fun _ => fun
  | [d1, d2] => { results := [.lit (.bool false)], args := [d1, d2] }
  | _ => none }
def ServiceOnceWrongFalsely : Prop := serviceOnceRow.holds Try.pinned (OpenSpec.ofChange serviceOnceWrong)

/-- 'palisadelaw11.ServicePlays': WHATEVER THE INPUT: true; the input reads as it did. -/
def servicePlaysSpec : ChangeSpec := { name := "servicePlays", fn := fun _ => fun
  | [d] => { results := [.lit (.bool true)], args := [d] }
  | _ => none }
def servicePlaysRow : OpenClaim := { program := "ytaeonidjfmlbiaa", sum := "248223f9399a3ee5ff0a625f8f374feab1c5f395473997fc7492a429e7b46f07", func := "palisade/palisadelaw11.ServicePlays", spec := "servicePlays", apart := false }
def ServicePlaysSaid : Prop := servicePlaysRow.holds Try.pinned (OpenSpec.ofChange servicePlaysSpec)

/-- ITS FALSE NEIGHBOUR: 'it returns false'. Refute it at one input. -/
def servicePlaysWrong : ChangeSpec := { name := "servicePlays", fn := fun _ => fun
  | [d] => { results := [.lit (.bool false)], args := [d] }
  | _ => none }
def ServicePlaysWrongFalsely : Prop := servicePlaysRow.holds Try.pinned (OpenSpec.ofChange servicePlaysWrong)

/- THE SECOND FORM. 'bulk': how many values and letters a reading holds, each counted each time it is reached (what is shared counts as often as it is met; a slice's spare places count too). A statement '..UptoSaid' is the law's where the arguments, and the package variables that the reading takes, are together of bulk at most 1048576: NARROWER than '..Said'. Prove '..Said' where nothing that the law and all that it calls make is longer than what came in: it says more and counts as full. Else prove '..UptoSaid'. A law counts once. -/
mutual
def uptoBulk {H : Type} : DataW H → Nat
  | .lit (.string bytes) => bytes.length + 1
  | .lit _ => 1
  | .nil => 1
  | .ptr d => uptoBulk d + 1
  | .slice elems spare => uptoBulkAll elems + uptoBulkAll spare + 1
  | .agg parts => uptoBulkAll parts + 1
  | .iface _ d => uptoBulk d + 1
  | .map entries => uptoBulkEntries entries + 1
  | .held _ => 1
def uptoBulkAll {H : Type} : List (DataW H) → Nat
  | [] => 0
  | d :: r => uptoBulk d + uptoBulkAll r
def uptoBulkEntries {H : Type} : List (Lit × DataW H) → Nat
  | [] => 0
  | x :: r => uptoBulkEntry x + uptoBulkEntries r
def uptoBulkEntry {H : Type} : Lit × DataW H → Nat
  | (.string bytes, d) => bytes.length + uptoBulk d + 1
  | (_, d) => uptoBulk d + 1
 end
def uptoSmall : (H : Type) → List (DataW H) → Bool := fun _ ds => decide (uptoBulkAll ds ≤ 1048576)
def OpenSpec.upto (s : _root_.Go.ChangeSpec) : _root_.Go.OpenSpec := { _root_.Go.OpenSpec.ofChange s with cond := some uptoSmall }

/-- 'palisadelaw11.ServiceReads', WHERE WHAT IT READS IS OF BULK AT MOST 1048576: true; the input reads as it did. -/
def serviceReadsUptoRow : OpenClaim := { program := "ytaeonidjfmlbiaa", sum := "248223f9399a3ee5ff0a625f8f374feab1c5f395473997fc7492a429e7b46f07", func := "palisade/palisadelaw11.ServiceReads", spec := "serviceReads", apart := false, narrowed := true }
def ServiceReadsUptoSaid : Prop := serviceReadsUptoRow.holds Try.pinned (OpenSpec.upto serviceReadsSpec)

/-- 'palisadelaw11.ServiceAdds', WHERE WHAT IT READS IS OF BULK AT MOST 1048576: true; the input reads as it did. -/
def serviceAddsUptoRow : OpenClaim := { program := "ytaeonidjfmlbiaa", sum := "248223f9399a3ee5ff0a625f8f374feab1c5f395473997fc7492a429e7b46f07", func := "palisade/palisadelaw11.ServiceAdds", spec := "serviceAdds", apart := false, narrowed := true }
def ServiceAddsUptoSaid : Prop := serviceAddsUptoRow.holds Try.pinned (OpenSpec.upto serviceAddsSpec)

/-- 'palisadelaw11.ServiceOld', WHERE WHAT IT READS IS OF BULK AT MOST 1048576: true; the input reads as it did. -/
def serviceOldUptoRow : OpenClaim := { program := "ytaeonidjfmlbiaa", sum := "248223f9399a3ee5ff0a625f8f374feab1c5f395473997fc7492a429e7b46f07", func := "palisade/palisadelaw11.ServiceOld", spec := "serviceOld", apart := false, narrowed := true }
def ServiceOldUptoSaid : Prop := serviceOldUptoRow.holds Try.pinned (OpenSpec.upto serviceOldSpec)

/-- 'palisadelaw11.ServiceOnce', WHERE WHAT IT READS IS OF BULK AT MOST 1048576: true; the input reads as it did. -/
def serviceOnceUptoRow : OpenClaim := { program := "ytaeonidjfmlbiaa", sum := "248223f9399a3ee5ff0a625f8f374feab1c5f395473997fc7492a429e7b46f07", func := "palisade/palisadelaw11.ServiceOnce", spec := "serviceOnce", apart := false, narrowed := true }
def ServiceOnceUptoSaid : Prop := serviceOnceUptoRow.holds Try.pinned (OpenSpec.upto serviceOnceSpec)

/-- 'palisadelaw11.ServicePlays', WHERE WHAT IT READS IS OF BULK AT MOST 1048576: true; the input reads as it did. -/
def servicePlaysUptoRow : OpenClaim := { program := "ytaeonidjfmlbiaa", sum := "248223f9399a3ee5ff0a625f8f374feab1c5f395473997fc7492a429e7b46f07", func := "palisade/palisadelaw11.ServicePlays", spec := "servicePlays", apart := false, narrowed := true }
def ServicePlaysUptoSaid : Prop := servicePlaysUptoRow.holds Try.pinned (OpenSpec.upto servicePlaysSpec)

end Rows
end Go.Proofs.Ytaeonidjfmlbiaa
