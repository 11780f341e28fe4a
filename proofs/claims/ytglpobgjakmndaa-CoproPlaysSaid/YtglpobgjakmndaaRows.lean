/-
  No cell of these rows narrows 'for every input' (looked for: loops, veiled, ifaces, maps, wideKeys, modest, calm, conditions, laid).
  DERIVED. THE GIVEN ROWS OF THIS SEAT. 4 by the template 'for every input the law returns true; each argument reads behind the call as it read before'; 0 by the template 'total and deterministic' (their statements: YtglpobgjakmndaaTotals.lean).
  GIVEN WITH THE SEED: the statements are not yours to turn. If you find one false, say at which input.
  Laid BY PROGRAM, IN A SANDBOX (cutbox-rows.mjs): the forced cells as the released guide's own fill.sh prints them over the translation a045d35217809757… (all of the seat's roots in one cut). By AI agents, Wed Nov 11 2026. No macro, syntax, notation, axiom, sorry.
-/
import Derived.Test.YtglpobgjakmndaaChecked
import GoSem.Claim
import GoSem.ClaimJoined
import GoSem.ClaimMapViews
import Derived.JoinedTies
import Derived.KernelRfl
namespace Go.Proofs.Ytglpobgjakmndaa
/- THE CELL 'sum', in the pinned program and in every row, IS THE sha256 OF THE DUMP (.gsa) THAT YtglpobgjakmndaaProg.lean LOADS. Nothing in Lean hashes anything: it is a label: what it is worth is what the hold of that sum in a sandbox is worth. -/
noncomputable def Try.pinned : Pinned := { name := "ytglpobgjakmndaa", sum := "a045d35217809757be52f7e26a2c0684ec431e66cbc9e7f267cfefdf9653abcc", checked := Try.checked }
namespace Rows
def none {H : Type} : Left H := { results := [], args := [] }

/-- 'palisadelaw5.CoproMeets': WHATEVER THE INPUT: true; the input reads as it did. -/
def coproMeetsSpec : ChangeSpec := { name := "coproMeets", fn := fun _ => fun
  | [d] => { results := [.lit (.bool true)], args := [d] }
  | _ => none }
def coproMeetsRow : OpenClaim := { program := "ytglpobgjakmndaa", sum := "a045d35217809757be52f7e26a2c0684ec431e66cbc9e7f267cfefdf9653abcc", func := "palisade/palisadelaw5.CoproMeets", spec := "coproMeets", apart := false }
def CoproMeetsSaid : Prop := coproMeetsRow.holds Try.pinned (OpenSpec.ofChange coproMeetsSpec)

/-- ITS FALSE NEIGHBOUR: 'it returns false'. Refute it at one input. -/
def coproMeetsWrong : ChangeSpec := { name := "coproMeets", fn := fun _ => fun
  | [d] => { results := [.lit (.bool false)], args := [d] }
  | _ => none }
def CoproMeetsWrongFalsely : Prop := coproMeetsRow.holds Try.pinned (OpenSpec.ofChange coproMeetsWrong)

/-- 'palisadelaw5.CoproViews': WHATEVER THE INPUT: true; the input reads as it did. -/
def coproViewsSpec : ChangeSpec := { name := "coproViews", fn := fun _ => fun
  | [d] => { results := [.lit (.bool true)], args := [d] }
  | _ => none }
def coproViewsRow : OpenClaim := { program := "ytglpobgjakmndaa", sum := "a045d35217809757be52f7e26a2c0684ec431e66cbc9e7f267cfefdf9653abcc", func := "palisade/palisadelaw5.CoproViews", spec := "coproViews", apart := false }
def CoproViewsSaid : Prop := coproViewsRow.holds Try.pinned (OpenSpec.ofChange coproViewsSpec)

/-- ITS FALSE NEIGHBOUR: 'it returns false'. Refute it at one input. -/
def coproViewsWrong : ChangeSpec := { name := "coproViews", fn := fun _ => fun
  | [d] => { results := [.lit (.bool false)], args := [d] }
  | _ => none }
def CoproViewsWrongFalsely : Prop := coproViewsRow.holds Try.pinned (OpenSpec.ofChange coproViewsWrong)

/-- 'palisadelaw5.CoproCounts': WHATEVER THE INPUT: true; the input reads as it did. -/
def coproCountsSpec : ChangeSpec := { name := "coproCounts", fn := fun _ => fun
  | [d1, d2] => { results := [.lit (.bool true)], args := [d1, d2] }
  | _ => none }
def coproCountsRow : OpenClaim := { program := "ytglpobgjakmndaa", sum := "a045d35217809757be52f7e26a2c0684ec431e66cbc9e7f267cfefdf9653abcc", func := "palisade/palisadelaw5.CoproCounts", spec := "coproCounts", apart := false }
def CoproCountsSaid : Prop := coproCountsRow.holds Try.pinned (OpenSpec.ofChange coproCountsSpec)

/-- ITS FALSE NEIGHBOUR: 'it returns false'. Refute it at one input. -/
def coproCountsWrong : ChangeSpec := { name := "coproCounts", fn := fun _ => fun
  | [d1, d2] => { results := [.lit (.bool false)], args := [d1, d2] }
  | _ => none }
def CoproCountsWrongFalsely : Prop := coproCountsRow.holds Try.pinned (OpenSpec.ofChange coproCountsWrong)

/-- 'palisadelaw5.CoproPlays': WHATEVER THE INPUT: true; the input reads as it did. -/
def coproPlaysSpec : ChangeSpec := { name := "coproPlays", fn := fun _ => fun
  | [d1, d2, d3] => { results := [.lit (.bool true)], args := [d1, d2, d3] }
  | _ => none }
def coproPlaysRow : OpenClaim := { program := "ytglpobgjakmndaa", sum := "a045d35217809757be52f7e26a2c0684ec431e66cbc9e7f267cfefdf9653abcc", func := "palisade/palisadelaw5.CoproPlays", spec := "coproPlays", apart := false }
def CoproPlaysSaid : Prop := coproPlaysRow.holds Try.pinned (OpenSpec.ofChange coproPlaysSpec)

/-- ITS FALSE NEIGHBOUR: 'it returns false'. Refute it at one input. -/
def coproPlaysWrong : ChangeSpec := { name := "coproPlays", fn := fun _ => fun
  | [d1, d2, d3] => { results := [.lit (.bool false)], args := [d1, d2, d3] }
  | _ => none }
def CoproPlaysWrongFalsely : Prop := coproPlaysRow.holds Try.pinned (OpenSpec.ofChange coproPlaysWrong)

/- THE SECOND FORM. 'bulk': how many values and letters a reading holds, each counted each time it is reached (what is shared counts as often as it is met; a slice's spare places count too). A statement '..UptoSaid' is the law's where the arguments, and the package variables that the reading takes, are together of bulk at most 1048576: NARROWER than '..Said'. Prove '..Said' where nothing that the law and all that it calls make is longer than what came in: it says more and counts as full. Else prove '..UptoSaid'. A law counts once. -/
mutual
def uptoBulk {H : Type} : DataW H → Nat
  | .lit (.string bytes) => bytes.length + 1
  | .lit _ => 1
  | .nil => 1
  | .ptr d => uptoBulk d + 1
  | .slice elems spare => uptoBulkAll elems + uptoBulkAll spare + 1
  | .agg parts => uptoBulkAll parts + 1
  | .iface _ d => uptoBulk d + 1
  | .map entries => uptoBulkEntries entries + 1
  | .held _ => 1
def uptoBulkAll {H : Type} : List (DataW H) → Nat
  | [] => 0
  | d :: r => uptoBulk d + uptoBulkAll r
def uptoBulkEntries {H : Type} : List (Lit × DataW H) → Nat
  | [] => 0
  | x :: r => uptoBulkEntry x + uptoBulkEntries r
def uptoBulkEntry {H : Type} : Lit × DataW H → Nat
  | (.string bytes, d) => bytes.length + uptoBulk d + 1
  | (_, d) => uptoBulk d + 1
 end
def uptoSmall : (H : Type) → List (DataW H) → Bool := fun _ ds => decide (uptoBulkAll ds ≤ 1048576)
def OpenSpec.upto (s : _root_.Go.ChangeSpec) : _root_.Go.OpenSpec := { _root_.Go.OpenSpec.ofChange s with cond := some uptoSmall }

/-- 'palisadelaw5.CoproMeets', WHERE WHAT IT READS IS OF BULK AT MOST 1048576: true; the input reads as it did. -/
def coproMeetsUptoRow : OpenClaim := { program := "ytglpobgjakmndaa", sum := "a045d35217809757be52f7e26a2c0684ec431e66cbc9e7f267cfefdf9653abcc", func := "palisade/palisadelaw5.CoproMeets", spec := "coproMeets", apart := false, narrowed := true }
def CoproMeetsUptoSaid : Prop := coproMeetsUptoRow.holds Try.pinned (OpenSpec.upto coproMeetsSpec)

/-- 'palisadelaw5.CoproViews', WHERE WHAT IT READS IS OF BULK AT MOST 1048576: true; the input reads as it did. -/
def coproViewsUptoRow : OpenClaim := { program := "ytglpobgjakmndaa", sum := "a045d35217809757be52f7e26a2c0684ec431e66cbc9e7f267cfefdf9653abcc", func := "palisade/palisadelaw5.CoproViews", spec := "coproViews", apart := false, narrowed := true }
def CoproViewsUptoSaid : Prop := coproViewsUptoRow.holds Try.pinned (OpenSpec.upto coproViewsSpec)

/-- 'palisadelaw5.CoproCounts', WHERE WHAT IT READS IS OF BULK AT MOST 1048576: true; the input reads as it did. -/
def coproCountsUptoRow : OpenClaim := { program := "ytglpobgjakmndaa", sum := "a045d35217809757be52f7e26a2c0684ec431e66cbc9e7f267cfefdf9653abcc", func := "palisade/palisadelaw5.CoproCounts", spec := "coproCounts", apart := false, narrowed := true }
def CoproCountsUptoSaid : Prop := coproCountsUptoRow.holds Try.pinned (OpenSpec.upto coproCountsSpec)

/-- 'palisadelaw5.CoproPlays', WHERE WHAT IT READS IS OF BULK AT MOST 1048576: true; the input reads as it did. -/
def coproPlaysUptoRow : OpenClaim := { program := "ytglpobgjakmndaa", sum := "a045d35217809757be52f7e26a2c0684ec431e66cbc9e7f267cfefdf9653abcc", func := "palisade/palisadelaw5.CoproPlays", spec := "coproPlays", apart := false, narrowed := true }
def CoproPlaysUptoSaid : Prop := coproPlaysUptoRow.holds Try.pinned (OpenSpec.upto coproPlaysSpec)

end Rows
end Go.Proofs.Ytglpobgjakmndaa
