/-
  DERIVED. GIVEN WITH THE SEED: THE CARDS: each row of YtlcohooognjmaaaGreatDoorRows.lean that lists a variable, with what it lists TIED to the program's text (the seventh form; the later family's looks); each row that meets fmt, with fmt's text TOLD by the authors' own Lean function (tested against real Go, not proved from fmt's source: count such statements apart). THE CARD IS WHAT COUNTS. Prove the row's statement (the work); the ties are given (YtlcohooognjmaaaGreatDoorTie.lean); close each card by the builder's one call (the guide's Derived/Test/ToyasCard.lean, 'card_holds'). Laid BY PROGRAM, IN A SANDBOX (cutbox-door.mjs). By AI agents, Wed Nov 11 2026. No macro, syntax, notation, axiom, sorry.
-/
import Derived.Test.YtlcohooognjmaaaGreatDoorRows
import GoSem.ClaimSeven
namespace Go.Proofs.YtlcohooognjmaaaGreatDoor
namespace Rows

/-- THE TIED CARD OF 'screelaw8.BloomFresh'. -/
def bloomFreshCard : Claim7 := { stood := { row := bloomFreshRow, standIns := [], harness := (true, "30726ad38318e9582f2cf5d84c71badf63e63772ca128698f54d77bbfa67283c"), looks := false }, kinds := [], alts := [], laidByText := true, laidKinds := [.data, .data, .data, .data], laidTests := true, laidLooks := .later }
def BloomFreshCardSaid : Prop := Claim7.holds Tryz.pinned (.plain (OpenSpec.ofChange bloomFreshSpec)) bloomFreshCard

/-- THE SECOND FORM's CARD OF 'screelaw8.BloomFresh'. -/
def bloomFreshUptoCard : Claim7 := { stood := { row := bloomFreshUptoRow, standIns := [], harness := (true, "30726ad38318e9582f2cf5d84c71badf63e63772ca128698f54d77bbfa67283c"), looks := false }, kinds := [], alts := [], laidByText := true, laidKinds := [.data, .data, .data, .data], laidTests := true, laidLooks := .later }
def BloomFreshUptoCardSaid : Prop := Claim7.holds Tryz.pinned (.plain (OpenSpec.upto bloomFreshSpec)) bloomFreshUptoCard
end Rows
end Go.Proofs.YtlcohooognjmaaaGreatDoor
