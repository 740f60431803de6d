/-
  DERIVED. GIVEN WITH THE SEED: THE CARDS: each row of YtaonjmkfbfhanaaDoorRows.lean that lists a variable, with what it lists TIED to the program's text (the seventh form; the later family's looks); each row that meets fmt, with fmt's text TOLD by the authors' own Lean function (tested against real Go, not proved from fmt's source: count such statements apart). THE CARD IS WHAT COUNTS. Prove the row's statement (the work); the ties are given (YtaonjmkfbfhanaaDoorTie.lean); close each card by the builder's one call (the guide's Derived/Test/ToyasCard.lean, 'card_holds'). Laid BY PROGRAM, IN A SANDBOX (cutbox-door.mjs). By AI agents, Wed Nov 11 2026. No macro, syntax, notation, axiom, sorry.
-/
import Derived.Test.YtaonjmkfbfhanaaDoorRows
import GoSem.ClaimSeven
namespace Go.Proofs.YtaonjmkfbfhanaaDoor
namespace Rows

/-- THE TIED CARD OF 'screelaw9.BlockOpens'. -/
def blockOpensCard : Claim7 := { stood := { row := blockOpensRow, standIns := [], harness := (true, "5c7066f349931db9ed832f5c029a4a4b9bb465c86371027399e7b6359aa2f655"), looks := false }, kinds := [], alts := [], laidByText := true, laidKinds := [.data], laidTests := true, laidLooks := .later }
def BlockOpensCardSaid : Prop := Claim7.holds Tryd.pinned (.plain (OpenSpec.ofChange blockOpensSpec)) blockOpensCard

/-- THE TIED CARD OF 'screelaw9.BlockReads'. -/
def blockReadsCard : Claim7 := { stood := { row := blockReadsRow, standIns := [], harness := (true, "5c7066f349931db9ed832f5c029a4a4b9bb465c86371027399e7b6359aa2f655"), looks := false }, kinds := [], alts := [], laidByText := true, laidKinds := [.data], laidTests := true, laidLooks := .later }
def BlockReadsCardSaid : Prop := Claim7.holds Tryd.pinned (.plain (OpenSpec.ofChange blockReadsSpec)) blockReadsCard

/-- THE TIED CARD OF 'screelaw9.BlockTurns'. -/
def blockTurnsCard : Claim7 := { stood := { row := blockTurnsRow, standIns := [], harness := (true, "5c7066f349931db9ed832f5c029a4a4b9bb465c86371027399e7b6359aa2f655"), looks := false }, kinds := [], alts := [], laidByText := true, laidKinds := [.data], laidTests := true, laidLooks := .later }
def BlockTurnsCardSaid : Prop := Claim7.holds Tryd.pinned (.plain (OpenSpec.ofChange blockTurnsSpec)) blockTurnsCard

/-- THE TIED CARD OF 'screelaw9.BlockBack'. -/
def blockBackCard : Claim7 := { stood := { row := blockBackRow, standIns := [], harness := (true, "5c7066f349931db9ed832f5c029a4a4b9bb465c86371027399e7b6359aa2f655"), looks := false }, kinds := [], alts := [], laidByText := true, laidKinds := [.data], laidTests := true, laidLooks := .later }
def BlockBackCardSaid : Prop := Claim7.holds Tryd.pinned (.plain (OpenSpec.ofChange blockBackSpec)) blockBackCard

/-- THE TIED CARD OF 'screelaw9.BlockAgain'. -/
def blockAgainCard : Claim7 := { stood := { row := blockAgainRow, standIns := [], harness := (true, "5c7066f349931db9ed832f5c029a4a4b9bb465c86371027399e7b6359aa2f655"), looks := false }, kinds := [], alts := [], laidByText := true, laidKinds := [.data], laidTests := true, laidLooks := .later }
def BlockAgainCardSaid : Prop := Claim7.holds Tryd.pinned (.plain (OpenSpec.ofChange blockAgainSpec)) blockAgainCard

/-- THE TIED CARD OF 'screelaw9.BlockTurned'. -/
def blockTurnedCard : Claim7 := { stood := { row := blockTurnedRow, standIns := [], harness := (true, "5c7066f349931db9ed832f5c029a4a4b9bb465c86371027399e7b6359aa2f655"), looks := false }, kinds := [], alts := [], laidByText := true, laidKinds := [.data], laidTests := true, laidLooks := .later }
def BlockTurnedCardSaid : Prop := Claim7.holds Tryd.pinned (.plain (OpenSpec.ofChange blockTurnedSpec)) blockTurnedCard

/-- THE SECOND FORM's CARD OF 'screelaw9.BlockOpens'. -/
def blockOpensUptoCard : Claim7 := { stood := { row := blockOpensUptoRow, standIns := [], harness := (true, "5c7066f349931db9ed832f5c029a4a4b9bb465c86371027399e7b6359aa2f655"), looks := false }, kinds := [], alts := [], laidByText := true, laidKinds := [.data], laidTests := true, laidLooks := .later }
def BlockOpensUptoCardSaid : Prop := Claim7.holds Tryd.pinned (.plain (OpenSpec.upto blockOpensSpec)) blockOpensUptoCard

/-- THE SECOND FORM's CARD OF 'screelaw9.BlockReads'. -/
def blockReadsUptoCard : Claim7 := { stood := { row := blockReadsUptoRow, standIns := [], harness := (true, "5c7066f349931db9ed832f5c029a4a4b9bb465c86371027399e7b6359aa2f655"), looks := false }, kinds := [], alts := [], laidByText := true, laidKinds := [.data], laidTests := true, laidLooks := .later }
def BlockReadsUptoCardSaid : Prop := Claim7.holds Tryd.pinned (.plain (OpenSpec.upto blockReadsSpec)) blockReadsUptoCard

/-- THE SECOND FORM's CARD OF 'screelaw9.BlockTurns'. -/
def blockTurnsUptoCard : Claim7 := { stood := { row := blockTurnsUptoRow, standIns := [], harness := (true, "5c7066f349931db9ed832f5c029a4a4b9bb465c86371027399e7b6359aa2f655"), looks := false }, kinds := [], alts := [], laidByText := true, laidKinds := [.data], laidTests := true, laidLooks := .later }
def BlockTurnsUptoCardSaid : Prop := Claim7.holds Tryd.pinned (.plain (OpenSpec.upto blockTurnsSpec)) blockTurnsUptoCard

/-- THE SECOND FORM's CARD OF 'screelaw9.BlockBack'. -/
def blockBackUptoCard : Claim7 := { stood := { row := blockBackUptoRow, standIns := [], harness := (true, "5c7066f349931db9ed832f5c029a4a4b9bb465c86371027399e7b6359aa2f655"), looks := false }, kinds := [], alts := [], laidByText := true, laidKinds := [.data], laidTests := true, laidLooks := .later }
def BlockBackUptoCardSaid : Prop := Claim7.holds Tryd.pinned (.plain (OpenSpec.upto blockBackSpec)) blockBackUptoCard

/-- THE SECOND FORM's CARD OF 'screelaw9.BlockAgain'. -/
def blockAgainUptoCard : Claim7 := { stood := { row := blockAgainUptoRow, standIns := [], harness := (true, "5c7066f349931db9ed832f5c029a4a4b9bb465c86371027399e7b6359aa2f655"), looks := false }, kinds := [], alts := [], laidByText := true, laidKinds := [.data], laidTests := true, laidLooks := .later }
def BlockAgainUptoCardSaid : Prop := Claim7.holds Tryd.pinned (.plain (OpenSpec.upto blockAgainSpec)) blockAgainUptoCard

/-- THE SECOND FORM's CARD OF 'screelaw9.BlockTurned'. -/
def blockTurnedUptoCard : Claim7 := { stood := { row := blockTurnedUptoRow, standIns := [], harness := (true, "5c7066f349931db9ed832f5c029a4a4b9bb465c86371027399e7b6359aa2f655"), looks := false }, kinds := [], alts := [], laidByText := true, laidKinds := [.data], laidTests := true, laidLooks := .later }
def BlockTurnedUptoCardSaid : Prop := Claim7.holds Tryd.pinned (.plain (OpenSpec.upto blockTurnedSpec)) blockTurnedUptoCard
end Rows
end Go.Proofs.YtaonjmkfbfhanaaDoor
