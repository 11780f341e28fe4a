/-
  No cell of these rows narrows 'for every input' (looked for: loops, veiled, ifaces, maps, wideKeys, modest, calm, conditions, laid).
  DERIVED. THE GIVEN ROWS OF THIS SEAT. 5 by the template 'for every input the law returns true; each argument reads behind the call as it read before'; 0 by the template 'total and deterministic' (their statements: YtnlmabdbpjbhoaaTotals.lean).
  GIVEN WITH THE SEED: the statements are not yours to turn. If you find one false, say at which input.
  Laid BY PROGRAM, IN A SANDBOX (cutbox-rows.mjs): the forced cells as the released guide's own fill.sh prints them over the translation 09cb441f19c0fc2d… (all of the seat's roots in one cut). By AI agents, Wed Nov 11 2026. No macro, syntax, notation, axiom, sorry.
-/
import Derived.Test.YtnlmabdbpjbhoaaChecked
import GoSem.Claim
import GoSem.ClaimJoined
import GoSem.ClaimMapViews
import Derived.JoinedTies
import Derived.KernelRfl
namespace Go.Proofs.Ytnlmabdbpjbhoaa
/- THE CELL 'sum', in the pinned program and in every row, IS THE sha256 OF THE DUMP (.gsa) THAT YtnlmabdbpjbhoaaProg.lean LOADS. Nothing in Lean hashes anything: it is a label: what it is worth is what the hold of that sum in a sandbox is worth. -/
noncomputable def Try.pinned : Pinned := { name := "ytnlmabdbpjbhoaa", sum := "09cb441f19c0fc2d7df4ddfb25acbafc27feabb77141a8afc9da4bcc2ea040df", checked := Try.checked }
namespace Rows
def none {H : Type} : Left H := { results := [], args := [] }

/-- 'palisadelaw8.ImageFrames': WHATEVER THE INPUT: true; the input reads as it did. -/
def imageFramesSpec : ChangeSpec := { name := "imageFrames", fn := fun _ => fun
  | [d1, d2, d3] => { results := [.lit (.bool true)], args := [d1, d2, d3] }
  | _ => none }
def imageFramesRow : OpenClaim := { program := "ytnlmabdbpjbhoaa", sum := "09cb441f19c0fc2d7df4ddfb25acbafc27feabb77141a8afc9da4bcc2ea040df", func := "palisade/palisadelaw8.ImageFrames", spec := "imageFrames", apart := false }
def ImageFramesSaid : Prop := imageFramesRow.holds Try.pinned (OpenSpec.ofChange imageFramesSpec)

/-- ITS FALSE NEIGHBOUR: 'it returns false'. Refute it at one input. -/
def imageFramesWrong : ChangeSpec := { name := "imageFrames", fn := fun _ => fun
  | [d1, d2, d3] => { results := [.lit (.bool false)], args := [d1, d2, d3] }
  | _ => none }
def ImageFramesWrongFalsely : Prop := imageFramesRow.holds Try.pinned (OpenSpec.ofChange imageFramesWrong)

/-- 'palisadelaw8.ImageAreas': WHATEVER THE INPUT: true; the input reads as it did. -/
def imageAreasSpec : ChangeSpec := { name := "imageAreas", fn := fun _ => fun
  | [d1, d2] => { results := [.lit (.bool true)], args := [d1, d2] }
  | _ => none }
def imageAreasRow : OpenClaim := { program := "ytnlmabdbpjbhoaa", sum := "09cb441f19c0fc2d7df4ddfb25acbafc27feabb77141a8afc9da4bcc2ea040df", func := "palisade/palisadelaw8.ImageAreas", spec := "imageAreas", apart := false }
def ImageAreasSaid : Prop := imageAreasRow.holds Try.pinned (OpenSpec.ofChange imageAreasSpec)

/-- ITS FALSE NEIGHBOUR: 'it returns false'. Refute it at one input. -/
def imageAreasWrong : ChangeSpec := { name := "imageAreas", fn := fun _ => fun
  | [d1, d2] => { results := [.lit (.bool false)], args := [d1, d2] }
  | _ => none }
def ImageAreasWrongFalsely : Prop := imageAreasRow.holds Try.pinned (OpenSpec.ofChange imageAreasWrong)

/-- 'palisadelaw8.ImageTurns': WHATEVER THE INPUT: true; the input reads as it did. -/
def imageTurnsSpec : ChangeSpec := { name := "imageTurns", fn := fun _ => fun
  | [d] => { results := [.lit (.bool true)], args := [d] }
  | _ => none }
def imageTurnsRow : OpenClaim := { program := "ytnlmabdbpjbhoaa", sum := "09cb441f19c0fc2d7df4ddfb25acbafc27feabb77141a8afc9da4bcc2ea040df", func := "palisade/palisadelaw8.ImageTurns", spec := "imageTurns", apart := false }
def ImageTurnsSaid : Prop := imageTurnsRow.holds Try.pinned (OpenSpec.ofChange imageTurnsSpec)

/-- ITS FALSE NEIGHBOUR: 'it returns false'. Refute it at one input. -/
def imageTurnsWrong : ChangeSpec := { name := "imageTurns", fn := fun _ => fun
  | [d] => { results := [.lit (.bool false)], args := [d] }
  | _ => none }
def ImageTurnsWrongFalsely : Prop := imageTurnsRow.holds Try.pinned (OpenSpec.ofChange imageTurnsWrong)

/-- 'palisadelaw8.ImageSpoilt': WHATEVER THE INPUT: true; the input reads as it did. -/
def imageSpoiltSpec : ChangeSpec := { name := "imageSpoilt", fn := fun _ => fun
  | [d1, d2, d3, d4] => { results := [.lit (.bool true)], args := [d1, d2, d3, d4] }
  | _ => none }
def imageSpoiltRow : OpenClaim := { program := "ytnlmabdbpjbhoaa", sum := "09cb441f19c0fc2d7df4ddfb25acbafc27feabb77141a8afc9da4bcc2ea040df", func := "palisade/palisadelaw8.ImageSpoilt", spec := "imageSpoilt", apart := false }
def ImageSpoiltSaid : Prop := imageSpoiltRow.holds Try.pinned (OpenSpec.ofChange imageSpoiltSpec)

/-- ITS FALSE NEIGHBOUR: 'it returns false'. Refute it at one input. -/
def imageSpoiltWrong : ChangeSpec := { name := "imageSpoilt", fn := fun _ => fun
  | [d1, d2, d3, d4] => { results := [.lit (.bool false)], args := [d1, d2, d3, d4] }
  | _ => none }
def ImageSpoiltWrongFalsely : Prop := imageSpoiltRow.holds Try.pinned (OpenSpec.ofChange imageSpoiltWrong)

/-- 'palisadelaw8.ImageCuts': WHATEVER THE INPUT: true; the input reads as it did. -/
def imageCutsSpec : ChangeSpec := { name := "imageCuts", fn := fun _ => fun
  | [d1, d2] => { results := [.lit (.bool true)], args := [d1, d2] }
  | _ => none }
def imageCutsRow : OpenClaim := { program := "ytnlmabdbpjbhoaa", sum := "09cb441f19c0fc2d7df4ddfb25acbafc27feabb77141a8afc9da4bcc2ea040df", func := "palisade/palisadelaw8.ImageCuts", spec := "imageCuts", apart := false }
def ImageCutsSaid : Prop := imageCutsRow.holds Try.pinned (OpenSpec.ofChange imageCutsSpec)

/-- ITS FALSE NEIGHBOUR: 'it returns false'. Refute it at one input. -/
def imageCutsWrong : ChangeSpec := { name := "imageCuts", fn := fun _ => fun
  | [d1, d2] => { results := [.lit (.bool false)], args := [d1, d2] }
  | _ => none }
def ImageCutsWrongFalsely : Prop := imageCutsRow.holds Try.pinned (OpenSpec.ofChange imageCutsWrong)

/- THE SECOND FORM. 'bulk': how many values and letters a reading holds, each counted each time it is reached (what is shared counts as often as it is met; a slice's spare places count too). A statement '..UptoSaid' is the law's where the arguments, and the package variables that the reading takes, are together of bulk at most 1048576: NARROWER than '..Said'. Prove '..Said' where nothing that the law and all that it calls make is longer than what came in: it says more and counts as full. Else prove '..UptoSaid'. A law counts once. -/
mutual
def uptoBulk {H : Type} : DataW H → Nat
  | .lit (.string bytes) => bytes.length + 1
  | .lit _ => 1
  | .nil => 1
  | .ptr d => uptoBulk d + 1
  | .slice elems spare => uptoBulkAll elems + uptoBulkAll spare + 1
  | .agg parts => uptoBulkAll parts + 1
  | .iface _ d => uptoBulk d + 1
  | .map entries => uptoBulkEntries entries + 1
  | .held _ => 1
def uptoBulkAll {H : Type} : List (DataW H) → Nat
  | [] => 0
  | d :: r => uptoBulk d + uptoBulkAll r
def uptoBulkEntries {H : Type} : List (Lit × DataW H) → Nat
  | [] => 0
  | x :: r => uptoBulkEntry x + uptoBulkEntries r
def uptoBulkEntry {H : Type} : Lit × DataW H → Nat
  | (.string bytes, d) => bytes.length + uptoBulk d + 1
  | (_, d) => uptoBulk d + 1
 end
def uptoSmall : (H : Type) → List (DataW H) → Bool := fun _ ds => decide (uptoBulkAll ds ≤ 1048576)
def OpenSpec.upto (s : _root_.Go.ChangeSpec) : _root_.Go.OpenSpec := { _root_.Go.OpenSpec.ofChange s with cond := some uptoSmall }

/-- 'palisadelaw8.ImageFrames', WHERE WHAT IT READS IS OF BULK AT MOST 1048576: true; the input reads as it did. -/
def imageFramesUptoRow : OpenClaim := { program := "ytnlmabdbpjbhoaa", sum := "09cb441f19c0fc2d7df4ddfb25acbafc27feabb77141a8afc9da4bcc2ea040df", func := "palisade/palisadelaw8.ImageFrames", spec := "imageFrames", apart := false, narrowed := true }
def ImageFramesUptoSaid : Prop := imageFramesUptoRow.holds Try.pinned (OpenSpec.upto imageFramesSpec)

/-- 'palisadelaw8.ImageAreas', WHERE WHAT IT READS IS OF BULK AT MOST 1048576: true; the input reads as it did. -/
def imageAreasUptoRow : OpenClaim := { program := "ytnlmabdbpjbhoaa", sum := "09cb441f19c0fc2d7df4ddfb25acbafc27feabb77141a8afc9da4bcc2ea040df", func := "palisade/palisadelaw8.ImageAreas", spec := "imageAreas", apart := false, narrowed := true }
def ImageAreasUptoSaid : Prop := imageAreasUptoRow.holds Try.pinned (OpenSpec.upto imageAreasSpec)

/-- 'palisadelaw8.ImageTurns', WHERE WHAT IT READS IS OF BULK AT MOST 1048576: true; the input reads as it did. -/
def imageTurnsUptoRow : OpenClaim := { program := "ytnlmabdbpjbhoaa", sum := "09cb441f19c0fc2d7df4ddfb25acbafc27feabb77141a8afc9da4bcc2ea040df", func := "palisade/palisadelaw8.ImageTurns", spec := "imageTurns", apart := false, narrowed := true }
def ImageTurnsUptoSaid : Prop := imageTurnsUptoRow.holds Try.pinned (OpenSpec.upto imageTurnsSpec)

/-- 'palisadelaw8.ImageSpoilt', WHERE WHAT IT READS IS OF BULK AT MOST 1048576: true; the input reads as it did. -/
def imageSpoiltUptoRow : OpenClaim := { program := "ytnlmabdbpjbhoaa", sum := "09cb441f19c0fc2d7df4ddfb25acbafc27feabb77141a8afc9da4bcc2ea040df", func := "palisade/palisadelaw8.ImageSpoilt", spec := "imageSpoilt", apart := false, narrowed := true }
def ImageSpoiltUptoSaid : Prop := imageSpoiltUptoRow.holds Try.pinned (OpenSpec.upto imageSpoiltSpec)

/-- 'palisadelaw8.ImageCuts', WHERE WHAT IT READS IS OF BULK AT MOST 1048576: true; the input reads as it did. -/
def imageCutsUptoRow : OpenClaim := { program := "ytnlmabdbpjbhoaa", sum := "09cb441f19c0fc2d7df4ddfb25acbafc27feabb77141a8afc9da4bcc2ea040df", func := "palisade/palisadelaw8.ImageCuts", spec := "imageCuts", apart := false, narrowed := true }
def ImageCutsUptoSaid : Prop := imageCutsUptoRow.holds Try.pinned (OpenSpec.upto imageCutsSpec)

end Rows
end Go.Proofs.Ytnlmabdbpjbhoaa
