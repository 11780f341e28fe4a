/-
  No cell of these rows narrows 'for every input' (looked for: loops, veiled, ifaces, maps, wideKeys, modest, calm, conditions, laid).
  DERIVED. THE GIVEN ROWS OF THIS SEAT. 3 by the template 'for every input the law returns true; each argument reads behind the call as it read before'; 0 by the template 'total and deterministic' (their statements: YtbjkdikiomhmgaaTotals.lean).
  GIVEN WITH THE SEED: the statements are not yours to turn. If you find one false, say at which input.
  Laid BY PROGRAM, IN A SANDBOX (cutbox-rows.mjs): the forced cells as the released guide's own fill.sh prints them over the translation f9776493c3229a15… (all of the seat's roots in one cut). By AI agents, Wed Nov 11 2026. No macro, syntax, notation, axiom, sorry.
-/
import Derived.Test.YtbjkdikiomhmgaaChecked
import GoSem.Claim
import GoSem.ClaimJoined
import GoSem.ClaimMapViews
import Derived.JoinedTies
import Derived.KernelRfl
namespace Go.Proofs.Ytbjkdikiomhmgaa
/- THE CELL 'sum', in the pinned program and in every row, IS THE sha256 OF THE DUMP (.gsa) THAT YtbjkdikiomhmgaaProg.lean LOADS. Nothing in Lean hashes anything: it is a label: what it is worth is what the hold of that sum in a sandbox is worth. -/
noncomputable def Try.pinned : Pinned := { name := "ytbjkdikiomhmgaa", sum := "f9776493c3229a15e76a5404163290f84d3e3c3ce0017121c188e3530f039493", checked := Try.checked }
namespace Rows
def none {H : Type} : Left H := { results := [], args := [] }

/-- 'palisadelaw9.PageBack': WHATEVER THE INPUT: true; the input reads as it did. -/
def pageBackSpec : ChangeSpec := { name := "pageBack", fn := fun _ => fun
  | [d1, d2, d3] => { results := [.lit (.bool true)], args := [d1, d2, d3] }
  | _ => none }
def pageBackRow : OpenClaim := { program := "ytbjkdikiomhmgaa", sum := "f9776493c3229a15e76a5404163290f84d3e3c3ce0017121c188e3530f039493", func := "palisade/palisadelaw9.PageBack", spec := "pageBack", apart := false }
def PageBackSaid : Prop := pageBackRow.holds Try.pinned (OpenSpec.ofChange pageBackSpec)

/-- ITS FALSE NEIGHBOUR: 'it returns false'. Refute it at one input. -/
def pageBackWrong : ChangeSpec := { name := "pageBack", fn := fun _ => fun
  | [d1, d2, d3] => { results := [.lit (.bool false)], args := [d1, d2, d3] }
  | _ => none }
def PageBackWrongFalsely : Prop := pageBackRow.holds Try.pinned (OpenSpec.ofChange pageBackWrong)

/-- 'palisadelaw9.PageKeys': WHATEVER THE INPUT: true; the input reads as it did. -/
def pageKeysSpec : ChangeSpec := { name := "pageKeys", fn := fun _ => fun
  | [d] => { results := [.lit (.bool true)], args := [d] }
  | _ => none }
def pageKeysRow : OpenClaim := { program := "ytbjkdikiomhmgaa", sum := "f9776493c3229a15e76a5404163290f84d3e3c3ce0017121c188e3530f039493", func := "palisade/palisadelaw9.PageKeys", spec := "pageKeys", apart := false }
def PageKeysSaid : Prop := pageKeysRow.holds Try.pinned (OpenSpec.ofChange pageKeysSpec)

/-- ITS FALSE NEIGHBOUR: 'it returns false'. Refute it at one input. -/
def pageKeysWrong : ChangeSpec := { name := "pageKeys", fn := fun _ => fun
  | [d] => { results := [.lit (.bool false)], args := [d] }
  | _ => none }
def PageKeysWrongFalsely : Prop := pageKeysRow.holds Try.pinned (OpenSpec.ofChange pageKeysWrong)

/-- 'palisadelaw9.PageClients': WHATEVER THE INPUT: true; the input reads as it did. -/
def pageClientsSpec : ChangeSpec := { name := "pageClients", fn := fun _ => fun
  | [d1, d2] => { results := [.lit (.bool true)], args := [d1, d2] }
  | _ => none }
def pageClientsRow : OpenClaim := { program := "ytbjkdikiomhmgaa", sum := "f9776493c3229a15e76a5404163290f84d3e3c3ce0017121c188e3530f039493", func := "palisade/palisadelaw9.PageClients", spec := "pageClients", apart := false }
def PageClientsSaid : Prop := pageClientsRow.holds Try.pinned (OpenSpec.ofChange pageClientsSpec)

/-- ITS FALSE NEIGHBOUR: 'it returns false'. Refute it at one input. -/
def pageClientsWrong : ChangeSpec := { name := "pageClients", fn := fun _ => fun
  | [d1, d2] => { results := [.lit (.bool false)], args := [d1, d2] }
  | _ => none }
def PageClientsWrongFalsely : Prop := pageClientsRow.holds Try.pinned (OpenSpec.ofChange pageClientsWrong)

/- THE SECOND FORM. 'bulk': how many values and letters a reading holds, each counted each time it is reached (what is shared counts as often as it is met; a slice's spare places count too). A statement '..UptoSaid' is the law's where the arguments, and the package variables that the reading takes, are together of bulk at most 1048576: NARROWER than '..Said'. Prove '..Said' where nothing that the law and all that it calls make is longer than what came in: it says more and counts as full. Else prove '..UptoSaid'. A law counts once. -/
mutual
def uptoBulk {H : Type} : DataW H → Nat
  | .lit (.string bytes) => bytes.length + 1
  | .lit _ => 1
  | .nil => 1
  | .ptr d => uptoBulk d + 1
  | .slice elems spare => uptoBulkAll elems + uptoBulkAll spare + 1
  | .agg parts => uptoBulkAll parts + 1
  | .iface _ d => uptoBulk d + 1
  | .map entries => uptoBulkEntries entries + 1
  | .held _ => 1
def uptoBulkAll {H : Type} : List (DataW H) → Nat
  | [] => 0
  | d :: r => uptoBulk d + uptoBulkAll r
def uptoBulkEntries {H : Type} : List (Lit × DataW H) → Nat
  | [] => 0
  | x :: r => uptoBulkEntry x + uptoBulkEntries r
def uptoBulkEntry {H : Type} : Lit × DataW H → Nat
  | (.string bytes, d) => bytes.length + uptoBulk d + 1
  | (_, d) => uptoBulk d + 1
 end
def uptoSmall : (H : Type) → List (DataW H) → Bool := fun _ ds => decide (uptoBulkAll ds ≤ 1048576)
def OpenSpec.upto (s : _root_.Go.ChangeSpec) : _root_.Go.OpenSpec := { _root_.Go.OpenSpec.ofChange s with cond := some uptoSmall }

/-- 'palisadelaw9.PageBack', WHERE WHAT IT READS IS OF BULK AT MOST 1048576: true; the input reads as it did. -/
def pageBackUptoRow : OpenClaim := { program := "ytbjkdikiomhmgaa", sum := "f9776493c3229a15e76a5404163290f84d3e3c3ce0017121c188e3530f039493", func := "palisade/palisadelaw9.PageBack", spec := "pageBack", apart := false, narrowed := true }
def PageBackUptoSaid : Prop := pageBackUptoRow.holds Try.pinned (OpenSpec.upto pageBackSpec)

/-- 'palisadelaw9.PageKeys', WHERE WHAT IT READS IS OF BULK AT MOST 1048576: true; the input reads as it did. -/
def pageKeysUptoRow : OpenClaim := { program := "ytbjkdikiomhmgaa", sum := "f9776493c3229a15e76a5404163290f84d3e3c3ce0017121c188e3530f039493", func := "palisade/palisadelaw9.PageKeys", spec := "pageKeys", apart := false, narrowed := true }
def PageKeysUptoSaid : Prop := pageKeysUptoRow.holds Try.pinned (OpenSpec.upto pageKeysSpec)

/-- 'palisadelaw9.PageClients', WHERE WHAT IT READS IS OF BULK AT MOST 1048576: true; the input reads as it did. -/
def pageClientsUptoRow : OpenClaim := { program := "ytbjkdikiomhmgaa", sum := "f9776493c3229a15e76a5404163290f84d3e3c3ce0017121c188e3530f039493", func := "palisade/palisadelaw9.PageClients", spec := "pageClients", apart := false, narrowed := true }
def PageClientsUptoSaid : Prop := pageClientsUptoRow.holds Try.pinned (OpenSpec.upto pageClientsSpec)

end Rows
end Go.Proofs.Ytbjkdikiomhmgaa
