/-
  No cell of these rows narrows 'for every input' (looked for: loops, veiled, ifaces, maps, wideKeys, modest, calm, conditions, laid).
  DERIVED. THE GIVEN ROWS OF THIS SEAT. 6 by the template 'for every input the law returns true; each argument reads behind the call as it read before'; 0 by the template 'total and deterministic' (their statements: YtgaahjilfdfphaaTotals.lean).
  GIVEN WITH THE SEED: the statements are not yours to turn. If you find one false, say at which input.
  Laid BY PROGRAM, IN A SANDBOX (cutbox-rows.mjs): the forced cells as the released guide's own fill.sh prints them over the translation 23f1aadac3a059d8… (all of the seat's roots in one cut). By AI agents, Wed Nov 11 2026. No macro, syntax, notation, axiom, sorry.
-/
import Derived.Test.YtgaahjilfdfphaaChecked
import GoSem.Claim
import GoSem.ClaimJoined
import GoSem.ClaimMapViews
import Derived.JoinedTies
import Derived.KernelRfl
namespace Go.Proofs.Ytgaahjilfdfphaa
/- THE CELL 'sum', in the pinned program and in every row, IS THE sha256 OF THE DUMP (.gsa) THAT YtgaahjilfdfphaaProg.lean LOADS. Nothing in Lean hashes anything: it is a label: what it is worth is what the hold of that sum in a sandbox is worth. -/
noncomputable def Try.pinned : Pinned := { name := "ytgaahjilfdfphaa", sum := "23f1aadac3a059d8ca7108799c326ece3d55e0fbe663019b5c6cf2b84c670c00", checked := Try.checked }
namespace Rows
def none {H : Type} : Left H := { results := [], args := [] }

/-- 'palisadelaw1.BitsBack': WHATEVER THE INPUT: true; the input reads as it did. -/
def bitsBackSpec : ChangeSpec := { name := "bitsBack", fn := fun _ => fun
  | [d1, d2] => { results := [.lit (.bool true)], args := [d1, d2] }
  | _ => none }
def bitsBackRow : OpenClaim := { program := "ytgaahjilfdfphaa", sum := "23f1aadac3a059d8ca7108799c326ece3d55e0fbe663019b5c6cf2b84c670c00", func := "palisade/palisadelaw1.BitsBack", spec := "bitsBack", apart := false }
def BitsBackSaid : Prop := bitsBackRow.holds Try.pinned (OpenSpec.ofChange bitsBackSpec)

/-- ITS FALSE NEIGHBOUR: 'it returns false'. Refute it at one input. -/
def bitsBackWrong : ChangeSpec := { name := "bitsBack", fn := fun _ => fun
  | [d1, d2] => { results := [.lit (.bool false)], args := [d1, d2] }
  | _ => none }
def BitsBackWrongFalsely : Prop := bitsBackRow.holds Try.pinned (OpenSpec.ofChange bitsBackWrong)

/-- 'palisadelaw1.BitsNarrow': WHATEVER THE INPUT: true; the input reads as it did. -/
def bitsNarrowSpec : ChangeSpec := { name := "bitsNarrow", fn := fun _ => fun
  | [d1, d2] => { results := [.lit (.bool true)], args := [d1, d2] }
  | _ => none }
def bitsNarrowRow : OpenClaim := { program := "ytgaahjilfdfphaa", sum := "23f1aadac3a059d8ca7108799c326ece3d55e0fbe663019b5c6cf2b84c670c00", func := "palisade/palisadelaw1.BitsNarrow", spec := "bitsNarrow", apart := false }
def BitsNarrowSaid : Prop := bitsNarrowRow.holds Try.pinned (OpenSpec.ofChange bitsNarrowSpec)

/-- ITS FALSE NEIGHBOUR: 'it returns false'. Refute it at one input. -/
def bitsNarrowWrong : ChangeSpec := { name := "bitsNarrow", fn := fun _ => fun
  | [d1, d2] => { results := [.lit (.bool false)], args := [d1, d2] }
  | _ => none }
def BitsNarrowWrongFalsely : Prop := bitsNarrowRow.holds Try.pinned (OpenSpec.ofChange bitsNarrowWrong)

/-- 'palisadelaw1.BitsOrder': WHATEVER THE INPUT: true; the input reads as it did. -/
def bitsOrderSpec : ChangeSpec := { name := "bitsOrder", fn := fun _ => fun
  | [d1, d2, d3, d4, d5, d6] => { results := [.lit (.bool true)], args := [d1, d2, d3, d4, d5, d6] }
  | _ => none }
def bitsOrderRow : OpenClaim := { program := "ytgaahjilfdfphaa", sum := "23f1aadac3a059d8ca7108799c326ece3d55e0fbe663019b5c6cf2b84c670c00", func := "palisade/palisadelaw1.BitsOrder", spec := "bitsOrder", apart := false }
def BitsOrderSaid : Prop := bitsOrderRow.holds Try.pinned (OpenSpec.ofChange bitsOrderSpec)

/-- ITS FALSE NEIGHBOUR: 'it returns false'. Refute it at one input. -/
def bitsOrderWrong : ChangeSpec := { name := "bitsOrder", fn := fun _ => fun
  | [d1, d2, d3, d4, d5, d6] => { results := [.lit (.bool false)], args := [d1, d2, d3, d4, d5, d6] }
  | _ => none }
def BitsOrderWrongFalsely : Prop := bitsOrderRow.holds Try.pinned (OpenSpec.ofChange bitsOrderWrong)

/-- 'palisadelaw1.BitsSums': WHATEVER THE INPUT: true; the input reads as it did. -/
def bitsSumsSpec : ChangeSpec := { name := "bitsSums", fn := fun _ => fun
  | [d1, d2, d3] => { results := [.lit (.bool true)], args := [d1, d2, d3] }
  | _ => none }
def bitsSumsRow : OpenClaim := { program := "ytgaahjilfdfphaa", sum := "23f1aadac3a059d8ca7108799c326ece3d55e0fbe663019b5c6cf2b84c670c00", func := "palisade/palisadelaw1.BitsSums", spec := "bitsSums", apart := false }
def BitsSumsSaid : Prop := bitsSumsRow.holds Try.pinned (OpenSpec.ofChange bitsSumsSpec)

/-- ITS FALSE NEIGHBOUR: 'it returns false'. Refute it at one input. -/
def bitsSumsWrong : ChangeSpec := { name := "bitsSums", fn := fun _ => fun
  | [d1, d2, d3] => { results := [.lit (.bool false)], args := [d1, d2, d3] }
  | _ => none }
def BitsSumsWrongFalsely : Prop := bitsSumsRow.holds Try.pinned (OpenSpec.ofChange bitsSumsWrong)

/-- 'palisadelaw1.BitsDouble': WHATEVER THE INPUT: true; the input reads as it did. -/
def bitsDoubleSpec : ChangeSpec := { name := "bitsDouble", fn := fun _ => fun
  | [d1, d2] => { results := [.lit (.bool true)], args := [d1, d2] }
  | _ => none }
def bitsDoubleRow : OpenClaim := { program := "ytgaahjilfdfphaa", sum := "23f1aadac3a059d8ca7108799c326ece3d55e0fbe663019b5c6cf2b84c670c00", func := "palisade/palisadelaw1.BitsDouble", spec := "bitsDouble", apart := false }
def BitsDoubleSaid : Prop := bitsDoubleRow.holds Try.pinned (OpenSpec.ofChange bitsDoubleSpec)

/-- ITS FALSE NEIGHBOUR: 'it returns false'. Refute it at one input. -/
def bitsDoubleWrong : ChangeSpec := { name := "bitsDouble", fn := fun _ => fun
  | [d1, d2] => { results := [.lit (.bool false)], args := [d1, d2] }
  | _ => none }
def BitsDoubleWrongFalsely : Prop := bitsDoubleRow.holds Try.pinned (OpenSpec.ofChange bitsDoubleWrong)

/-- 'palisadelaw1.BitsTells': WHATEVER THE INPUT: true; the input reads as it did. -/
def bitsTellsSpec : ChangeSpec := { name := "bitsTells", fn := fun _ => fun
  | [d1, d2, d3, d4, d5, d6, d7, d8, d9] => { results := [.lit (.bool true)], args := [d1, d2, d3, d4, d5, d6, d7, d8, d9] }
  | _ => none }
def bitsTellsRow : OpenClaim := { program := "ytgaahjilfdfphaa", sum := "23f1aadac3a059d8ca7108799c326ece3d55e0fbe663019b5c6cf2b84c670c00", func := "palisade/palisadelaw1.BitsTells", spec := "bitsTells", apart := false }
def BitsTellsSaid : Prop := bitsTellsRow.holds Try.pinned (OpenSpec.ofChange bitsTellsSpec)

/-- ITS FALSE NEIGHBOUR: 'it returns false'. Refute it at one input. -/
def bitsTellsWrong : ChangeSpec := { name := "bitsTells", fn := fun _ => fun
  | [d1, d2, d3, d4, d5, d6, d7, d8, d9] => { results := [.lit (.bool false)], args := [d1, d2, d3, d4, d5, d6, d7, d8, d9] }
  | _ => none }
def BitsTellsWrongFalsely : Prop := bitsTellsRow.holds Try.pinned (OpenSpec.ofChange bitsTellsWrong)

/- THE SECOND FORM. 'bulk': how many values and letters a reading holds, each counted each time it is reached (what is shared counts as often as it is met; a slice's spare places count too). A statement '..UptoSaid' is the law's where the arguments, and the package variables that the reading takes, are together of bulk at most 1048576: NARROWER than '..Said'. Prove '..Said' where nothing that the law and all that it calls make is longer than what came in: it says more and counts as full. Else prove '..UptoSaid'. A law counts once. -/
mutual
def uptoBulk {H : Type} : DataW H → Nat
  | .lit (.string bytes) => bytes.length + 1
  | .lit _ => 1
  | .nil => 1
  | .ptr d => uptoBulk d + 1
  | .slice elems spare => uptoBulkAll elems + uptoBulkAll spare + 1
  | .agg parts => uptoBulkAll parts + 1
  | .iface _ d => uptoBulk d + 1
  | .map entries => uptoBulkEntries entries + 1
  | .held _ => 1
def uptoBulkAll {H : Type} : List (DataW H) → Nat
  | [] => 0
  | d :: r => uptoBulk d + uptoBulkAll r
def uptoBulkEntries {H : Type} : List (Lit × DataW H) → Nat
  | [] => 0
  | x :: r => uptoBulkEntry x + uptoBulkEntries r
def uptoBulkEntry {H : Type} : Lit × DataW H → Nat
  | (.string bytes, d) => bytes.length + uptoBulk d + 1
  | (_, d) => uptoBulk d + 1
 end
def uptoSmall : (H : Type) → List (DataW H) → Bool := fun _ ds => decide (uptoBulkAll ds ≤ 1048576)
def OpenSpec.upto (s : _root_.Go.ChangeSpec) : _root_.Go.OpenSpec := { _root_.Go.OpenSpec.ofChange s with cond := some uptoSmall }

/-- 'palisadelaw1.BitsBack', WHERE WHAT IT READS IS OF BULK AT MOST 1048576: true; the input reads as it did. -/
def bitsBackUptoRow : OpenClaim := { program := "ytgaahjilfdfphaa", sum := "23f1aadac3a059d8ca7108799c326ece3d55e0fbe663019b5c6cf2b84c670c00", func := "palisade/palisadelaw1.BitsBack", spec := "bitsBack", apart := false, narrowed := true }
def BitsBackUptoSaid : Prop := bitsBackUptoRow.holds Try.pinned (OpenSpec.upto bitsBackSpec)

/-- 'palisadelaw1.BitsNarrow', WHERE WHAT IT READS IS OF BULK AT MOST 1048576: true; the input reads as it did. -/
def bitsNarrowUptoRow : OpenClaim := { program := "ytgaahjilfdfphaa", sum := "23f1aadac3a059d8ca7108799c326ece3d55e0fbe663019b5c6cf2b84c670c00", func := "palisade/palisadelaw1.BitsNarrow", spec := "bitsNarrow", apart := false, narrowed := true }
def BitsNarrowUptoSaid : Prop := bitsNarrowUptoRow.holds Try.pinned (OpenSpec.upto bitsNarrowSpec)

/-- 'palisadelaw1.BitsOrder', WHERE WHAT IT READS IS OF BULK AT MOST 1048576: true; the input reads as it did. -/
def bitsOrderUptoRow : OpenClaim := { program := "ytgaahjilfdfphaa", sum := "23f1aadac3a059d8ca7108799c326ece3d55e0fbe663019b5c6cf2b84c670c00", func := "palisade/palisadelaw1.BitsOrder", spec := "bitsOrder", apart := false, narrowed := true }
def BitsOrderUptoSaid : Prop := bitsOrderUptoRow.holds Try.pinned (OpenSpec.upto bitsOrderSpec)

/-- 'palisadelaw1.BitsSums', WHERE WHAT IT READS IS OF BULK AT MOST 1048576: true; the input reads as it did. -/
def bitsSumsUptoRow : OpenClaim := { program := "ytgaahjilfdfphaa", sum := "23f1aadac3a059d8ca7108799c326ece3d55e0fbe663019b5c6cf2b84c670c00", func := "palisade/palisadelaw1.BitsSums", spec := "bitsSums", apart := false, narrowed := true }
def BitsSumsUptoSaid : Prop := bitsSumsUptoRow.holds Try.pinned (OpenSpec.upto bitsSumsSpec)

/-- 'palisadelaw1.BitsDouble', WHERE WHAT IT READS IS OF BULK AT MOST 1048576: true; the input reads as it did. -/
def bitsDoubleUptoRow : OpenClaim := { program := "ytgaahjilfdfphaa", sum := "23f1aadac3a059d8ca7108799c326ece3d55e0fbe663019b5c6cf2b84c670c00", func := "palisade/palisadelaw1.BitsDouble", spec := "bitsDouble", apart := false, narrowed := true }
def BitsDoubleUptoSaid : Prop := bitsDoubleUptoRow.holds Try.pinned (OpenSpec.upto bitsDoubleSpec)

/-- 'palisadelaw1.BitsTells', WHERE WHAT IT READS IS OF BULK AT MOST 1048576: true; the input reads as it did. -/
def bitsTellsUptoRow : OpenClaim := { program := "ytgaahjilfdfphaa", sum := "23f1aadac3a059d8ca7108799c326ece3d55e0fbe663019b5c6cf2b84c670c00", func := "palisade/palisadelaw1.BitsTells", spec := "bitsTells", apart := false, narrowed := true }
def BitsTellsUptoSaid : Prop := bitsTellsUptoRow.holds Try.pinned (OpenSpec.upto bitsTellsSpec)

end Rows
end Go.Proofs.Ytgaahjilfdfphaa
