/-
  DERIVED. GIVEN WITH THE SEED: THE CARDS: each row of YtkpeoenbeaapoaaDoorRows.lean that lists a variable, with what it lists TIED to the program's text (the seventh form; the later family's looks); each row that meets fmt, with fmt's text TOLD by the authors' own Lean function (tested against real Go, not proved from fmt's source: count such statements apart). THE CARD IS WHAT COUNTS. Prove the row's statement (the work); the ties are given (YtkpeoenbeaapoaaDoorTie.lean); close each card by the builder's one call (the guide's Derived/Test/ToyasCard.lean, 'card_holds'). Laid BY PROGRAM, IN A SANDBOX (cutbox-door.mjs). By AI agents, Wed Nov 11 2026. No macro, syntax, notation, axiom, sorry.
-/
import Derived.Test.YtkpeoenbeaapoaaDoorRows
import GoSem.ClaimSeven
namespace Go.Proofs.YtkpeoenbeaapoaaDoor
namespace Rows

/-- THE TIED CARD OF 'palisadelaw16.ViewsJoin'. -/
def viewsJoinCard : Claim7 := { stood := { row := viewsJoinRow, standIns := [], harness := (true, "fe82523414a84504a91cddaba042cdb4baf1f90ffd774255209cb1608518fea4"), looks := false }, kinds := [], alts := [], laidByText := true, laidKinds := [.data, .data, .data], laidTests := true, laidLooks := .later }
def ViewsJoinCardSaid : Prop := Claim7.holds Tryd.pinned (.plain (OpenSpec.ofChange viewsJoinSpec)) viewsJoinCard

/-- THE TIED CARD OF 'palisadelaw16.ViewsPlay'. -/
def viewsPlayCard : Claim7 := { stood := { row := viewsPlayRow, standIns := [], harness := (true, "fe82523414a84504a91cddaba042cdb4baf1f90ffd774255209cb1608518fea4"), looks := false }, kinds := [], alts := [], laidByText := true, laidKinds := [.data, .data, .data], laidTests := true, laidLooks := .later }
def ViewsPlayCardSaid : Prop := Claim7.holds Tryd.pinned (.plain (OpenSpec.ofChange viewsPlaySpec)) viewsPlayCard

/-- THE TIED CARD OF 'palisadelaw16.ViewsFor'. -/
def viewsForCard : Claim7 := { stood := { row := viewsForRow, standIns := [], harness := (true, "fe82523414a84504a91cddaba042cdb4baf1f90ffd774255209cb1608518fea4"), looks := false }, kinds := [], alts := [], laidByText := true, laidKinds := [.data, .data, .data], laidTests := true, laidLooks := .later }
def ViewsForCardSaid : Prop := Claim7.holds Tryd.pinned (.plain (OpenSpec.ofChange viewsForSpec)) viewsForCard

/-- THE SECOND FORM's CARD OF 'palisadelaw16.ViewsJoin'. -/
def viewsJoinUptoCard : Claim7 := { stood := { row := viewsJoinUptoRow, standIns := [], harness := (true, "fe82523414a84504a91cddaba042cdb4baf1f90ffd774255209cb1608518fea4"), looks := false }, kinds := [], alts := [], laidByText := true, laidKinds := [.data, .data, .data], laidTests := true, laidLooks := .later }
def ViewsJoinUptoCardSaid : Prop := Claim7.holds Tryd.pinned (.plain (OpenSpec.upto viewsJoinSpec)) viewsJoinUptoCard

/-- THE SECOND FORM's CARD OF 'palisadelaw16.ViewsPlay'. -/
def viewsPlayUptoCard : Claim7 := { stood := { row := viewsPlayUptoRow, standIns := [], harness := (true, "fe82523414a84504a91cddaba042cdb4baf1f90ffd774255209cb1608518fea4"), looks := false }, kinds := [], alts := [], laidByText := true, laidKinds := [.data, .data, .data], laidTests := true, laidLooks := .later }
def ViewsPlayUptoCardSaid : Prop := Claim7.holds Tryd.pinned (.plain (OpenSpec.upto viewsPlaySpec)) viewsPlayUptoCard

/-- THE SECOND FORM's CARD OF 'palisadelaw16.ViewsFor'. -/
def viewsForUptoCard : Claim7 := { stood := { row := viewsForUptoRow, standIns := [], harness := (true, "fe82523414a84504a91cddaba042cdb4baf1f90ffd774255209cb1608518fea4"), looks := false }, kinds := [], alts := [], laidByText := true, laidKinds := [.data, .data, .data], laidTests := true, laidLooks := .later }
def ViewsForUptoCardSaid : Prop := Claim7.holds Tryd.pinned (.plain (OpenSpec.upto viewsForSpec)) viewsForUptoCard
end Rows
end Go.Proofs.YtkpeoenbeaapoaaDoor
