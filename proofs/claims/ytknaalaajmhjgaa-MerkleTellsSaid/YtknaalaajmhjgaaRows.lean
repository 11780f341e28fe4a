/-
  No cell of these rows narrows 'for every input' (looked for: loops, veiled, ifaces, maps, wideKeys, modest, calm, conditions, laid).
  DERIVED. THE GIVEN ROWS OF THIS SEAT. 5 by the template 'for every input the law returns true; each argument reads behind the call as it read before'; 0 by the template 'total and deterministic' (their statements: YtknaalaajmhjgaaTotals.lean).
  GIVEN WITH THE SEED: the statements are not yours to turn. If you find one false, say at which input.
  Laid BY PROGRAM, IN A SANDBOX (cutbox-rows.mjs): the forced cells as the released guide's own fill.sh prints them over the translation 8a115db1bf5fbf0a… (all of the seat's roots in one cut). By AI agents, Wed Nov 11 2026. No macro, syntax, notation, axiom, sorry.
-/
import Derived.Test.YtknaalaajmhjgaaChecked
import GoSem.Claim
import GoSem.ClaimJoined
import GoSem.ClaimMapViews
import Derived.JoinedTies
import Derived.KernelRfl
namespace Go.Proofs.Ytknaalaajmhjgaa
/- THE CELL 'sum', in the pinned program and in every row, IS THE sha256 OF THE DUMP (.gsa) THAT YtknaalaajmhjgaaProg.lean LOADS. Nothing in Lean hashes anything: it is a label: what it is worth is what the hold of that sum in a sandbox is worth. -/
noncomputable def Try.pinned : Pinned := { name := "ytknaalaajmhjgaa", sum := "8a115db1bf5fbf0a2b9653444e90d69e63eea3692d86b2f1a9f35329dc832742", checked := Try.checked }
namespace Rows
def none {H : Type} : Left H := { results := [], args := [] }

/-- 'palisadelaw10.MerkleTree': WHATEVER THE INPUT: true; the input reads as it did. -/
def merkleTreeSpec : ChangeSpec := { name := "merkleTree", fn := fun _ => fun
  | [d1, d2, d3] => { results := [.lit (.bool true)], args := [d1, d2, d3] }
  | _ => none }
def merkleTreeRow : OpenClaim := { program := "ytknaalaajmhjgaa", sum := "8a115db1bf5fbf0a2b9653444e90d69e63eea3692d86b2f1a9f35329dc832742", func := "palisade/palisadelaw10.MerkleTree", spec := "merkleTree", apart := false }
def MerkleTreeSaid : Prop := merkleTreeRow.holds Try.pinned (OpenSpec.ofChange merkleTreeSpec)

/-- ITS FALSE NEIGHBOUR: 'it returns false'. Refute it at one input. -/
def merkleTreeWrong : ChangeSpec := { name := "merkleTree", fn := fun _ => fun
  | [d1, d2, d3] => { results := [.lit (.bool false)], args := [d1, d2, d3] }
  | _ => none }
def MerkleTreeWrongFalsely : Prop := merkleTreeRow.holds Try.pinned (OpenSpec.ofChange merkleTreeWrong)

/-- 'palisadelaw10.MerkleLeaf': WHATEVER THE INPUT: true; the input reads as it did. -/
def merkleLeafSpec : ChangeSpec := { name := "merkleLeaf", fn := fun _ => fun
  | [d1, d2, d3, d4] => { results := [.lit (.bool true)], args := [d1, d2, d3, d4] }
  | _ => none }
def merkleLeafRow : OpenClaim := { program := "ytknaalaajmhjgaa", sum := "8a115db1bf5fbf0a2b9653444e90d69e63eea3692d86b2f1a9f35329dc832742", func := "palisade/palisadelaw10.MerkleLeaf", spec := "merkleLeaf", apart := false }
def MerkleLeafSaid : Prop := merkleLeafRow.holds Try.pinned (OpenSpec.ofChange merkleLeafSpec)

/-- ITS FALSE NEIGHBOUR: 'it returns false'. Refute it at one input. -/
def merkleLeafWrong : ChangeSpec := { name := "merkleLeaf", fn := fun _ => fun
  | [d1, d2, d3, d4] => { results := [.lit (.bool false)], args := [d1, d2, d3, d4] }
  | _ => none }
def MerkleLeafWrongFalsely : Prop := merkleLeafRow.holds Try.pinned (OpenSpec.ofChange merkleLeafWrong)

/-- 'palisadelaw10.MerkleFinds': WHATEVER THE INPUT: true; the input reads as it did. -/
def merkleFindsSpec : ChangeSpec := { name := "merkleFinds", fn := fun _ => fun
  | [d1, d2, d3] => { results := [.lit (.bool true)], args := [d1, d2, d3] }
  | _ => none }
def merkleFindsRow : OpenClaim := { program := "ytknaalaajmhjgaa", sum := "8a115db1bf5fbf0a2b9653444e90d69e63eea3692d86b2f1a9f35329dc832742", func := "palisade/palisadelaw10.MerkleFinds", spec := "merkleFinds", apart := false }
def MerkleFindsSaid : Prop := merkleFindsRow.holds Try.pinned (OpenSpec.ofChange merkleFindsSpec)

/-- ITS FALSE NEIGHBOUR: 'it returns false'. Refute it at one input. -/
def merkleFindsWrong : ChangeSpec := { name := "merkleFinds", fn := fun _ => fun
  | [d1, d2, d3] => { results := [.lit (.bool false)], args := [d1, d2, d3] }
  | _ => none }
def MerkleFindsWrongFalsely : Prop := merkleFindsRow.holds Try.pinned (OpenSpec.ofChange merkleFindsWrong)

/-- 'palisadelaw10.MerkleTells': WHATEVER THE INPUT: true; the input reads as it did. -/
def merkleTellsSpec : ChangeSpec := { name := "merkleTells", fn := fun _ => fun
  | [d1, d2, d3, d4, d5, d6, d7] => { results := [.lit (.bool true)], args := [d1, d2, d3, d4, d5, d6, d7] }
  | _ => none }
def merkleTellsRow : OpenClaim := { program := "ytknaalaajmhjgaa", sum := "8a115db1bf5fbf0a2b9653444e90d69e63eea3692d86b2f1a9f35329dc832742", func := "palisade/palisadelaw10.MerkleTells", spec := "merkleTells", apart := false }
def MerkleTellsSaid : Prop := merkleTellsRow.holds Try.pinned (OpenSpec.ofChange merkleTellsSpec)

/-- ITS FALSE NEIGHBOUR: 'it returns false'. Refute it at one input. -/
def merkleTellsWrong : ChangeSpec := { name := "merkleTells", fn := fun _ => fun
  | [d1, d2, d3, d4, d5, d6, d7] => { results := [.lit (.bool false)], args := [d1, d2, d3, d4, d5, d6, d7] }
  | _ => none }
def MerkleTellsWrongFalsely : Prop := merkleTellsRow.holds Try.pinned (OpenSpec.ofChange merkleTellsWrong)

/-- 'palisadelaw10.MerkleSame': WHATEVER THE INPUT: true; the input reads as it did. -/
def merkleSameSpec : ChangeSpec := { name := "merkleSame", fn := fun _ => fun
  | [d1, d2] => { results := [.lit (.bool true)], args := [d1, d2] }
  | _ => none }
def merkleSameRow : OpenClaim := { program := "ytknaalaajmhjgaa", sum := "8a115db1bf5fbf0a2b9653444e90d69e63eea3692d86b2f1a9f35329dc832742", func := "palisade/palisadelaw10.MerkleSame", spec := "merkleSame", apart := false }
def MerkleSameSaid : Prop := merkleSameRow.holds Try.pinned (OpenSpec.ofChange merkleSameSpec)

/-- ITS FALSE NEIGHBOUR: 'it returns false'. Refute it at one input. -/
def merkleSameWrong : ChangeSpec := { name := "merkleSame", fn := fun _ => fun
  | [d1, d2] => { results := [.lit (.bool false)], args := [d1, d2] }
  | _ => none }
def MerkleSameWrongFalsely : Prop := merkleSameRow.holds Try.pinned (OpenSpec.ofChange merkleSameWrong)

/- THE SECOND FORM. 'bulk': how many values and letters a reading holds, each counted each time it is reached (what is shared counts as often as it is met; a slice's spare places count too). A statement '..UptoSaid' is the law's where the arguments, and the package variables that the reading takes, are together of bulk at most 1048576: NARROWER than '..Said'. Prove '..Said' where nothing that the law and all that it calls make is longer than what came in: it says more and counts as full. Else prove '..UptoSaid'. A law counts once. -/
mutual
def uptoBulk {H : Type} : DataW H → Nat
  | .lit (.string bytes) => bytes.length + 1
  | .lit _ => 1
  | .nil => 1
  | .ptr d => uptoBulk d + 1
  | .slice elems spare => uptoBulkAll elems + uptoBulkAll spare + 1
  | .agg parts => uptoBulkAll parts + 1
  | .iface _ d => uptoBulk d + 1
  | .map entries => uptoBulkEntries entries + 1
  | .held _ => 1
def uptoBulkAll {H : Type} : List (DataW H) → Nat
  | [] => 0
  | d :: r => uptoBulk d + uptoBulkAll r
def uptoBulkEntries {H : Type} : List (Lit × DataW H) → Nat
  | [] => 0
  | x :: r => uptoBulkEntry x + uptoBulkEntries r
def uptoBulkEntry {H : Type} : Lit × DataW H → Nat
  | (.string bytes, d) => bytes.length + uptoBulk d + 1
  | (_, d) => uptoBulk d + 1
 end
def uptoSmall : (H : Type) → List (DataW H) → Bool := fun _ ds => decide (uptoBulkAll ds ≤ 1048576)
def OpenSpec.upto (s : _root_.Go.ChangeSpec) : _root_.Go.OpenSpec := { _root_.Go.OpenSpec.ofChange s with cond := some uptoSmall }

/-- 'palisadelaw10.MerkleTree', WHERE WHAT IT READS IS OF BULK AT MOST 1048576: true; the input reads as it did. -/
def merkleTreeUptoRow : OpenClaim := { program := "ytknaalaajmhjgaa", sum := "8a115db1bf5fbf0a2b9653444e90d69e63eea3692d86b2f1a9f35329dc832742", func := "palisade/palisadelaw10.MerkleTree", spec := "merkleTree", apart := false, narrowed := true }
def MerkleTreeUptoSaid : Prop := merkleTreeUptoRow.holds Try.pinned (OpenSpec.upto merkleTreeSpec)

/-- 'palisadelaw10.MerkleLeaf', WHERE WHAT IT READS IS OF BULK AT MOST 1048576: true; the input reads as it did. -/
def merkleLeafUptoRow : OpenClaim := { program := "ytknaalaajmhjgaa", sum := "8a115db1bf5fbf0a2b9653444e90d69e63eea3692d86b2f1a9f35329dc832742", func := "palisade/palisadelaw10.MerkleLeaf", spec := "merkleLeaf", apart := false, narrowed := true }
def MerkleLeafUptoSaid : Prop := merkleLeafUptoRow.holds Try.pinned (OpenSpec.upto merkleLeafSpec)

/-- 'palisadelaw10.MerkleFinds', WHERE WHAT IT READS IS OF BULK AT MOST 1048576: true; the input reads as it did. -/
def merkleFindsUptoRow : OpenClaim := { program := "ytknaalaajmhjgaa", sum := "8a115db1bf5fbf0a2b9653444e90d69e63eea3692d86b2f1a9f35329dc832742", func := "palisade/palisadelaw10.MerkleFinds", spec := "merkleFinds", apart := false, narrowed := true }
def MerkleFindsUptoSaid : Prop := merkleFindsUptoRow.holds Try.pinned (OpenSpec.upto merkleFindsSpec)

/-- 'palisadelaw10.MerkleTells', WHERE WHAT IT READS IS OF BULK AT MOST 1048576: true; the input reads as it did. -/
def merkleTellsUptoRow : OpenClaim := { program := "ytknaalaajmhjgaa", sum := "8a115db1bf5fbf0a2b9653444e90d69e63eea3692d86b2f1a9f35329dc832742", func := "palisade/palisadelaw10.MerkleTells", spec := "merkleTells", apart := false, narrowed := true }
def MerkleTellsUptoSaid : Prop := merkleTellsUptoRow.holds Try.pinned (OpenSpec.upto merkleTellsSpec)

/-- 'palisadelaw10.MerkleSame', WHERE WHAT IT READS IS OF BULK AT MOST 1048576: true; the input reads as it did. -/
def merkleSameUptoRow : OpenClaim := { program := "ytknaalaajmhjgaa", sum := "8a115db1bf5fbf0a2b9653444e90d69e63eea3692d86b2f1a9f35329dc832742", func := "palisade/palisadelaw10.MerkleSame", spec := "merkleSame", apart := false, narrowed := true }
def MerkleSameUptoSaid : Prop := merkleSameUptoRow.holds Try.pinned (OpenSpec.upto merkleSameSpec)

end Rows
end Go.Proofs.Ytknaalaajmhjgaa
