/-
  No cell of these rows narrows 'for every input' (looked for: loops, veiled, ifaces, maps, wideKeys, modest, calm, conditions, laid).
  DERIVED. THE GIVEN ROWS OF THIS SEAT. 3 by the template 'for every input the law returns true; each argument reads behind the call as it read before'; 0 by the template 'total and deterministic' (their statements: YtabmbppolmikcaaTotals.lean).
  GIVEN WITH THE SEED: the statements are not yours to turn. If you find one false, say at which input.
  Laid BY PROGRAM, IN A SANDBOX (cutbox-rows.mjs): the forced cells as the released guide's own fill.sh prints them over the translation 7407d3213bf4eec0… (all of the seat's roots in one cut). By AI agents, Wed Nov 11 2026. No macro, syntax, notation, axiom, sorry.
-/
import Derived.Test.YtabmbppolmikcaaChecked
import GoSem.Claim
import GoSem.ClaimJoined
import GoSem.ClaimMapViews
import Derived.JoinedTies
import Derived.KernelRfl
namespace Go.Proofs.Ytabmbppolmikcaa
/- THE CELL 'sum', in the pinned program and in every row, IS THE sha256 OF THE DUMP (.gsa) THAT YtabmbppolmikcaaProg.lean LOADS. Nothing in Lean hashes anything: it is a label: what it is worth is what the hold of that sum in a sandbox is worth. -/
noncomputable def Try.pinned : Pinned := { name := "ytabmbppolmikcaa", sum := "7407d3213bf4eec0ec2f7223f094656b5c80c08f66e3a7a57ef58192d092e3a6", checked := Try.checked }
namespace Rows
def none {H : Type} : Left H := { results := [], args := [] }

/-- 'palisadelaw19.QueueLast': WHATEVER THE INPUT: true; the input reads as it did. -/
def queueLastSpec : ChangeSpec := { name := "queueLast", fn := fun _ => fun
  | [d] => { results := [.lit (.bool true)], args := [d] }
  | _ => none }
def queueLastRow : OpenClaim := { program := "ytabmbppolmikcaa", sum := "7407d3213bf4eec0ec2f7223f094656b5c80c08f66e3a7a57ef58192d092e3a6", func := "palisade/palisadelaw19.QueueLast", spec := "queueLast", unfollowed := true, recurses := true, plainKeys := false, apart := false }
def QueueLastSaid : Prop := queueLastRow.holds Try.pinned (OpenSpec.ofChange queueLastSpec)

/-- ITS FALSE NEIGHBOUR: 'it returns false'. Refute it at one input. -/
def queueLastWrong : ChangeSpec := { name := "queueLast", fn := fun _ => fun
  | [d] => { results := [.lit (.bool false)], args := [d] }
  | _ => none }
def QueueLastWrongFalsely : Prop := queueLastRow.holds Try.pinned (OpenSpec.ofChange queueLastWrong)

/-- 'palisadelaw19.QueuePlays': WHATEVER THE INPUT: true; the input reads as it did. -/
def queuePlaysSpec : ChangeSpec := { name := "queuePlays", fn := fun _ => fun
  | [d] => { results := [.lit (.bool true)], args := [d] }
  | _ => none }
def queuePlaysRow : OpenClaim := { program := "ytabmbppolmikcaa", sum := "7407d3213bf4eec0ec2f7223f094656b5c80c08f66e3a7a57ef58192d092e3a6", func := "palisade/palisadelaw19.QueuePlays", spec := "queuePlays", unfollowed := true, recurses := true, plainKeys := false, apart := false }
def QueuePlaysSaid : Prop := queuePlaysRow.holds Try.pinned (OpenSpec.ofChange queuePlaysSpec)

/-- ITS FALSE NEIGHBOUR: 'it returns false'. Refute it at one input. -/
def queuePlaysWrong : ChangeSpec := { name := "queuePlays", fn := fun _ => fun
  | [d] => { results := [.lit (.bool false)], args := [d] }
  | _ => none }
def QueuePlaysWrongFalsely : Prop := queuePlaysRow.holds Try.pinned (OpenSpec.ofChange queuePlaysWrong)

/-- 'palisadelaw19.QueueDone': WHATEVER THE INPUT: true; the input reads as it did. -/
def queueDoneSpec : ChangeSpec := { name := "queueDone", fn := fun _ => fun
  | [d1, d2, d3, d4] => { results := [.lit (.bool true)], args := [d1, d2, d3, d4] }
  | _ => none }
def queueDoneRow : OpenClaim := { program := "ytabmbppolmikcaa", sum := "7407d3213bf4eec0ec2f7223f094656b5c80c08f66e3a7a57ef58192d092e3a6", func := "palisade/palisadelaw19.QueueDone", spec := "queueDone", unfollowed := true, recurses := true, plainKeys := false, apart := false }
def QueueDoneSaid : Prop := queueDoneRow.holds Try.pinned (OpenSpec.ofChange queueDoneSpec)

/-- ITS FALSE NEIGHBOUR: 'it returns false'. Refute it at one input. -/
def queueDoneWrong : ChangeSpec := { name := "queueDone", fn := fun _ => fun
  | [d1, d2, d3, d4] => { results := [.lit (.bool false)], args := [d1, d2, d3, d4] }
  | _ => none }
def QueueDoneWrongFalsely : Prop := queueDoneRow.holds Try.pinned (OpenSpec.ofChange queueDoneWrong)

/- THE SECOND FORM. 'bulk': how many values and letters a reading holds, each counted each time it is reached (what is shared counts as often as it is met; a slice's spare places count too). A statement '..UptoSaid' is the law's where the arguments, and the package variables that the reading takes, are together of bulk at most 1048576: NARROWER than '..Said'. Prove '..Said' where nothing that the law and all that it calls make is longer than what came in: it says more and counts as full. Else prove '..UptoSaid'. A law counts once. -/
mutual
def uptoBulk {H : Type} : DataW H → Nat
  | .lit (.string bytes) => bytes.length + 1
  | .lit _ => 1
  | .nil => 1
  | .ptr d => uptoBulk d + 1
  | .slice elems spare => uptoBulkAll elems + uptoBulkAll spare + 1
  | .agg parts => uptoBulkAll parts + 1
  | .iface _ d => uptoBulk d + 1
  | .map entries => uptoBulkEntries entries + 1
  | .held _ => 1
def uptoBulkAll {H : Type} : List (DataW H) → Nat
  | [] => 0
  | d :: r => uptoBulk d + uptoBulkAll r
def uptoBulkEntries {H : Type} : List (Lit × DataW H) → Nat
  | [] => 0
  | x :: r => uptoBulkEntry x + uptoBulkEntries r
def uptoBulkEntry {H : Type} : Lit × DataW H → Nat
  | (.string bytes, d) => bytes.length + uptoBulk d + 1
  | (_, d) => uptoBulk d + 1
 end
def uptoSmall : (H : Type) → List (DataW H) → Bool := fun _ ds => decide (uptoBulkAll ds ≤ 1048576)
def OpenSpec.upto (s : _root_.Go.ChangeSpec) : _root_.Go.OpenSpec := { _root_.Go.OpenSpec.ofChange s with cond := some uptoSmall }

/-- 'palisadelaw19.QueueLast', WHERE WHAT IT READS IS OF BULK AT MOST 1048576: true; the input reads as it did. -/
def queueLastUptoRow : OpenClaim := { program := "ytabmbppolmikcaa", sum := "7407d3213bf4eec0ec2f7223f094656b5c80c08f66e3a7a57ef58192d092e3a6", func := "palisade/palisadelaw19.QueueLast", spec := "queueLast", unfollowed := true, recurses := true, plainKeys := false, apart := false, narrowed := true }
def QueueLastUptoSaid : Prop := queueLastUptoRow.holds Try.pinned (OpenSpec.upto queueLastSpec)

/-- 'palisadelaw19.QueuePlays', WHERE WHAT IT READS IS OF BULK AT MOST 1048576: true; the input reads as it did. -/
def queuePlaysUptoRow : OpenClaim := { program := "ytabmbppolmikcaa", sum := "7407d3213bf4eec0ec2f7223f094656b5c80c08f66e3a7a57ef58192d092e3a6", func := "palisade/palisadelaw19.QueuePlays", spec := "queuePlays", unfollowed := true, recurses := true, plainKeys := false, apart := false, narrowed := true }
def QueuePlaysUptoSaid : Prop := queuePlaysUptoRow.holds Try.pinned (OpenSpec.upto queuePlaysSpec)

/-- 'palisadelaw19.QueueDone', WHERE WHAT IT READS IS OF BULK AT MOST 1048576: true; the input reads as it did. -/
def queueDoneUptoRow : OpenClaim := { program := "ytabmbppolmikcaa", sum := "7407d3213bf4eec0ec2f7223f094656b5c80c08f66e3a7a57ef58192d092e3a6", func := "palisade/palisadelaw19.QueueDone", spec := "queueDone", unfollowed := true, recurses := true, plainKeys := false, apart := false, narrowed := true }
def QueueDoneUptoSaid : Prop := queueDoneUptoRow.holds Try.pinned (OpenSpec.upto queueDoneSpec)

end Rows
end Go.Proofs.Ytabmbppolmikcaa
