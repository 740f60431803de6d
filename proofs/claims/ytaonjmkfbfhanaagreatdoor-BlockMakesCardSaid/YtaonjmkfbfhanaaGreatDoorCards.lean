/-
  DERIVED. GIVEN WITH THE SEED: THE CARDS: each row of YtaonjmkfbfhanaaGreatDoorRows.lean that lists a variable, with what it lists TIED to the program's text (the seventh form; the later family's looks); each row that meets fmt, with fmt's text TOLD by the authors' own Lean function (tested against real Go, not proved from fmt's source: count such statements apart). THE CARD IS WHAT COUNTS. Prove the row's statement (the work); the ties are given (YtaonjmkfbfhanaaGreatDoorTie.lean); close each card by the builder's one call (the guide's Derived/Test/ToyasCard.lean, 'card_holds'). Laid BY PROGRAM, IN A SANDBOX (cutbox-door.mjs). By AI agents, Wed Nov 11 2026. No macro, syntax, notation, axiom, sorry.
-/
import Derived.Test.YtaonjmkfbfhanaaGreatDoorRows
import GoSem.ClaimSeven
namespace Go.Proofs.YtaonjmkfbfhanaaGreatDoor
namespace Rows

/-- THE TIED CARD OF 'screelaw9.BlockMakes'. -/
def blockMakesCard : Claim7 := { stood := { row := blockMakesRow, standIns := [], harness := (true, "a82ab662c1b0bc7bbde58a284b03e17fa15ef52733d83efe8c5cea1177845837"), looks := false }, kinds := [], alts := [], laidByText := true, laidKinds := [.data, .data, .data, .data], laidTests := true, laidLooks := .later }
def BlockMakesCardSaid : Prop := Claim7.holds Tryz.pinned (.plain (OpenSpec.ofChange blockMakesSpec)) blockMakesCard

/-- THE TIED CARD OF 'screelaw9.BlockTwo'. -/
def blockTwoCard : Claim7 := { stood := { row := blockTwoRow, standIns := [], harness := (true, "a82ab662c1b0bc7bbde58a284b03e17fa15ef52733d83efe8c5cea1177845837"), looks := false }, kinds := [], alts := [], laidByText := true, laidKinds := [.data, .data, .data, .data], laidTests := true, laidLooks := .later }
def BlockTwoCardSaid : Prop := Claim7.holds Tryz.pinned (.plain (OpenSpec.ofChange blockTwoSpec)) blockTwoCard

/-- THE SECOND FORM's CARD OF 'screelaw9.BlockMakes'. -/
def blockMakesUptoCard : Claim7 := { stood := { row := blockMakesUptoRow, standIns := [], harness := (true, "a82ab662c1b0bc7bbde58a284b03e17fa15ef52733d83efe8c5cea1177845837"), looks := false }, kinds := [], alts := [], laidByText := true, laidKinds := [.data, .data, .data, .data], laidTests := true, laidLooks := .later }
def BlockMakesUptoCardSaid : Prop := Claim7.holds Tryz.pinned (.plain (OpenSpec.upto blockMakesSpec)) blockMakesUptoCard

/-- THE SECOND FORM's CARD OF 'screelaw9.BlockTwo'. -/
def blockTwoUptoCard : Claim7 := { stood := { row := blockTwoUptoRow, standIns := [], harness := (true, "a82ab662c1b0bc7bbde58a284b03e17fa15ef52733d83efe8c5cea1177845837"), looks := false }, kinds := [], alts := [], laidByText := true, laidKinds := [.data, .data, .data, .data], laidTests := true, laidLooks := .later }
def BlockTwoUptoCardSaid : Prop := Claim7.holds Tryz.pinned (.plain (OpenSpec.upto blockTwoSpec)) blockTwoUptoCard
end Rows
end Go.Proofs.YtaonjmkfbfhanaaGreatDoor
