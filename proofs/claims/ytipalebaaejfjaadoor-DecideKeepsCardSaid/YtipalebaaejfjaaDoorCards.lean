/-
  DERIVED. GIVEN WITH THE SEED: THE CARDS: each row of YtipalebaaejfjaaDoorRows.lean that lists a variable, with what it lists TIED to the program's text (the seventh form; the later family's looks); each row that meets fmt, with fmt's text TOLD by the authors' own Lean function (tested against real Go, not proved from fmt's source: count such statements apart). THE CARD IS WHAT COUNTS. Prove the row's statement (the work); the ties are given (YtipalebaaejfjaaDoorTie.lean); close each card by the builder's one call (the guide's Derived/Test/ToyasCard.lean, 'card_holds'). Laid BY PROGRAM, IN A SANDBOX (cutbox-door.mjs). By AI agents, Wed Nov 11 2026. No macro, syntax, notation, axiom, sorry.
-/
import Derived.Test.YtipalebaaejfjaaDoorRows
import GoSem.ClaimSeven
namespace Go.Proofs.YtipalebaaejfjaaDoor
namespace Rows

/-- THE TIED CARD OF 'palisadelaw15.DecideTells'. -/
def decideTellsCard : Claim7 := { stood := { row := decideTellsRow, standIns := [], harness := (true, "a263c148e69ae17a23b16cbd7be5de41df30ad7ff9cb9b12d8811a0e172db3ab"), looks := false }, kinds := [], alts := [], laidByText := true, laidKinds := [.data, .data, .data], laidTests := true, laidLooks := .later }
def DecideTellsCardSaid : Prop := Claim7.holds Tryd.pinned (.plain (OpenSpec.ofChange decideTellsSpec)) decideTellsCard

/-- THE TIED CARD OF 'palisadelaw15.DecideKeeps'. -/
def decideKeepsCard : Claim7 := { stood := { row := decideKeepsRow, standIns := [], harness := (true, "a263c148e69ae17a23b16cbd7be5de41df30ad7ff9cb9b12d8811a0e172db3ab"), looks := false }, kinds := [], alts := [], laidByText := true, laidKinds := [.data, .data, .data], laidTests := true, laidLooks := .later }
def DecideKeepsCardSaid : Prop := Claim7.holds Tryd.pinned (.plain (OpenSpec.ofChange decideKeepsSpec)) decideKeepsCard

/-- THE TIED CARD OF 'palisadelaw15.DecideEmpty'. -/
def decideEmptyCard : Claim7 := { stood := { row := decideEmptyRow, standIns := [], harness := (true, "a263c148e69ae17a23b16cbd7be5de41df30ad7ff9cb9b12d8811a0e172db3ab"), looks := false }, kinds := [], alts := [], laidByText := true, laidKinds := [.data, .data, .data], laidTests := true, laidLooks := .later }
def DecideEmptyCardSaid : Prop := Claim7.holds Tryd.pinned (.plain (OpenSpec.ofChange decideEmptySpec)) decideEmptyCard

/-- THE TIED CARD OF 'palisadelaw15.DecideLast'. -/
def decideLastCard : Claim7 := { stood := { row := decideLastRow, standIns := [], harness := (true, "a263c148e69ae17a23b16cbd7be5de41df30ad7ff9cb9b12d8811a0e172db3ab"), looks := false }, kinds := [], alts := [], laidByText := true, laidKinds := [.data, .data, .data], laidTests := true, laidLooks := .later }
def DecideLastCardSaid : Prop := Claim7.holds Tryd.pinned (.plain (OpenSpec.ofChange decideLastSpec)) decideLastCard

/-- THE TIED CARD OF 'palisadelaw15.DecideFew'. -/
def decideFewCard : Claim7 := { stood := { row := decideFewRow, standIns := [], harness := (true, "a263c148e69ae17a23b16cbd7be5de41df30ad7ff9cb9b12d8811a0e172db3ab"), looks := false }, kinds := [], alts := [], laidByText := true, laidKinds := [.data, .data, .data], laidTests := true, laidLooks := .later }
def DecideFewCardSaid : Prop := Claim7.holds Tryd.pinned (.plain (OpenSpec.ofChange decideFewSpec)) decideFewCard

/-- THE TIED CARD OF 'palisadelaw15.DecideLies'. -/
def decideLiesCard : Claim7 := { stood := { row := decideLiesRow, standIns := [], harness := (true, "a263c148e69ae17a23b16cbd7be5de41df30ad7ff9cb9b12d8811a0e172db3ab"), looks := false }, kinds := [], alts := [], laidByText := true, laidKinds := [.data, .data, .data], laidTests := true, laidLooks := .later }
def DecideLiesCardSaid : Prop := Claim7.holds Tryd.pinned (.plain (OpenSpec.ofChange decideLiesSpec)) decideLiesCard

/-- THE SECOND FORM's CARD OF 'palisadelaw15.DecideTells'. -/
def decideTellsUptoCard : Claim7 := { stood := { row := decideTellsUptoRow, standIns := [], harness := (true, "a263c148e69ae17a23b16cbd7be5de41df30ad7ff9cb9b12d8811a0e172db3ab"), looks := false }, kinds := [], alts := [], laidByText := true, laidKinds := [.data, .data, .data], laidTests := true, laidLooks := .later }
def DecideTellsUptoCardSaid : Prop := Claim7.holds Tryd.pinned (.plain (OpenSpec.upto decideTellsSpec)) decideTellsUptoCard

/-- THE SECOND FORM's CARD OF 'palisadelaw15.DecideKeeps'. -/
def decideKeepsUptoCard : Claim7 := { stood := { row := decideKeepsUptoRow, standIns := [], harness := (true, "a263c148e69ae17a23b16cbd7be5de41df30ad7ff9cb9b12d8811a0e172db3ab"), looks := false }, kinds := [], alts := [], laidByText := true, laidKinds := [.data, .data, .data], laidTests := true, laidLooks := .later }
def DecideKeepsUptoCardSaid : Prop := Claim7.holds Tryd.pinned (.plain (OpenSpec.upto decideKeepsSpec)) decideKeepsUptoCard

/-- THE SECOND FORM's CARD OF 'palisadelaw15.DecideEmpty'. -/
def decideEmptyUptoCard : Claim7 := { stood := { row := decideEmptyUptoRow, standIns := [], harness := (true, "a263c148e69ae17a23b16cbd7be5de41df30ad7ff9cb9b12d8811a0e172db3ab"), looks := false }, kinds := [], alts := [], laidByText := true, laidKinds := [.data, .data, .data], laidTests := true, laidLooks := .later }
def DecideEmptyUptoCardSaid : Prop := Claim7.holds Tryd.pinned (.plain (OpenSpec.upto decideEmptySpec)) decideEmptyUptoCard

/-- THE SECOND FORM's CARD OF 'palisadelaw15.DecideLast'. -/
def decideLastUptoCard : Claim7 := { stood := { row := decideLastUptoRow, standIns := [], harness := (true, "a263c148e69ae17a23b16cbd7be5de41df30ad7ff9cb9b12d8811a0e172db3ab"), looks := false }, kinds := [], alts := [], laidByText := true, laidKinds := [.data, .data, .data], laidTests := true, laidLooks := .later }
def DecideLastUptoCardSaid : Prop := Claim7.holds Tryd.pinned (.plain (OpenSpec.upto decideLastSpec)) decideLastUptoCard

/-- THE SECOND FORM's CARD OF 'palisadelaw15.DecideFew'. -/
def decideFewUptoCard : Claim7 := { stood := { row := decideFewUptoRow, standIns := [], harness := (true, "a263c148e69ae17a23b16cbd7be5de41df30ad7ff9cb9b12d8811a0e172db3ab"), looks := false }, kinds := [], alts := [], laidByText := true, laidKinds := [.data, .data, .data], laidTests := true, laidLooks := .later }
def DecideFewUptoCardSaid : Prop := Claim7.holds Tryd.pinned (.plain (OpenSpec.upto decideFewSpec)) decideFewUptoCard

/-- THE SECOND FORM's CARD OF 'palisadelaw15.DecideLies'. -/
def decideLiesUptoCard : Claim7 := { stood := { row := decideLiesUptoRow, standIns := [], harness := (true, "a263c148e69ae17a23b16cbd7be5de41df30ad7ff9cb9b12d8811a0e172db3ab"), looks := false }, kinds := [], alts := [], laidByText := true, laidKinds := [.data, .data, .data], laidTests := true, laidLooks := .later }
def DecideLiesUptoCardSaid : Prop := Claim7.holds Tryd.pinned (.plain (OpenSpec.upto decideLiesSpec)) decideLiesUptoCard
end Rows
end Go.Proofs.YtipalebaaejfjaaDoor
