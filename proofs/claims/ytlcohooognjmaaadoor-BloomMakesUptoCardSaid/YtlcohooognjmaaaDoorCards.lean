/-
  DERIVED. GIVEN WITH THE SEED: THE CARDS: each row of YtlcohooognjmaaaDoorRows.lean that lists a variable, with what it lists TIED to the program's text (the seventh form; the later family's looks); each row that meets fmt, with fmt's text TOLD by the authors' own Lean function (tested against real Go, not proved from fmt's source: count such statements apart). THE CARD IS WHAT COUNTS. Prove the row's statement (the work); the ties are given (YtlcohooognjmaaaDoorTie.lean); close each card by the builder's one call (the guide's Derived/Test/ToyasCard.lean, 'card_holds'). Laid BY PROGRAM, IN A SANDBOX (cutbox-door.mjs). By AI agents, Wed Nov 11 2026. No macro, syntax, notation, axiom, sorry.
-/
import Derived.Test.YtlcohooognjmaaaDoorRows
import GoSem.ClaimSeven
namespace Go.Proofs.YtlcohooognjmaaaDoor
namespace Rows

/-- THE TIED CARD OF 'screelaw8.BloomMakes'. -/
def bloomMakesCard : Claim7 := { stood := { row := bloomMakesRow, standIns := [], harness := (true, "07cfec10fbc34347cb3e18abcdb994627aeaec5a73611dfc2f39ed35d001cbeb"), looks := false }, kinds := [], alts := [], laidByText := true, laidKinds := [.data], laidTests := true, laidLooks := .later }
def BloomMakesCardSaid : Prop := Claim7.holds Tryd.pinned (.plain (OpenSpec.ofChange bloomMakesSpec)) bloomMakesCard

/-- THE TIED CARD OF 'screelaw8.BloomMays'. -/
def bloomMaysCard : Claim7 := { stood := { row := bloomMaysRow, standIns := [], harness := (true, "07cfec10fbc34347cb3e18abcdb994627aeaec5a73611dfc2f39ed35d001cbeb"), looks := false }, kinds := [], alts := [], laidByText := true, laidKinds := [.data], laidTests := true, laidLooks := .later }
def BloomMaysCardSaid : Prop := Claim7.holds Tryd.pinned (.plain (OpenSpec.ofChange bloomMaysSpec)) bloomMaysCard

/-- THE TIED CARD OF 'screelaw8.BloomHolds'. -/
def bloomHoldsCard : Claim7 := { stood := { row := bloomHoldsRow, standIns := [], harness := (true, "07cfec10fbc34347cb3e18abcdb994627aeaec5a73611dfc2f39ed35d001cbeb"), looks := false }, kinds := [], alts := [], laidByText := true, laidKinds := [.data], laidTests := true, laidLooks := .later }
def BloomHoldsCardSaid : Prop := Claim7.holds Tryd.pinned (.plain (OpenSpec.ofChange bloomHoldsSpec)) bloomHoldsCard

/-- THE TIED CARD OF 'screelaw8.BloomOrder'. -/
def bloomOrderCard : Claim7 := { stood := { row := bloomOrderRow, standIns := [], harness := (true, "07cfec10fbc34347cb3e18abcdb994627aeaec5a73611dfc2f39ed35d001cbeb"), looks := false }, kinds := [], alts := [], laidByText := true, laidKinds := [.data], laidTests := true, laidLooks := .later }
def BloomOrderCardSaid : Prop := Claim7.holds Tryd.pinned (.plain (OpenSpec.ofChange bloomOrderSpec)) bloomOrderCard

/-- THE SECOND FORM's CARD OF 'screelaw8.BloomMakes'. -/
def bloomMakesUptoCard : Claim7 := { stood := { row := bloomMakesUptoRow, standIns := [], harness := (true, "07cfec10fbc34347cb3e18abcdb994627aeaec5a73611dfc2f39ed35d001cbeb"), looks := false }, kinds := [], alts := [], laidByText := true, laidKinds := [.data], laidTests := true, laidLooks := .later }
def BloomMakesUptoCardSaid : Prop := Claim7.holds Tryd.pinned (.plain (OpenSpec.upto bloomMakesSpec)) bloomMakesUptoCard

/-- THE SECOND FORM's CARD OF 'screelaw8.BloomMays'. -/
def bloomMaysUptoCard : Claim7 := { stood := { row := bloomMaysUptoRow, standIns := [], harness := (true, "07cfec10fbc34347cb3e18abcdb994627aeaec5a73611dfc2f39ed35d001cbeb"), looks := false }, kinds := [], alts := [], laidByText := true, laidKinds := [.data], laidTests := true, laidLooks := .later }
def BloomMaysUptoCardSaid : Prop := Claim7.holds Tryd.pinned (.plain (OpenSpec.upto bloomMaysSpec)) bloomMaysUptoCard

/-- THE SECOND FORM's CARD OF 'screelaw8.BloomHolds'. -/
def bloomHoldsUptoCard : Claim7 := { stood := { row := bloomHoldsUptoRow, standIns := [], harness := (true, "07cfec10fbc34347cb3e18abcdb994627aeaec5a73611dfc2f39ed35d001cbeb"), looks := false }, kinds := [], alts := [], laidByText := true, laidKinds := [.data], laidTests := true, laidLooks := .later }
def BloomHoldsUptoCardSaid : Prop := Claim7.holds Tryd.pinned (.plain (OpenSpec.upto bloomHoldsSpec)) bloomHoldsUptoCard

/-- THE SECOND FORM's CARD OF 'screelaw8.BloomOrder'. -/
def bloomOrderUptoCard : Claim7 := { stood := { row := bloomOrderUptoRow, standIns := [], harness := (true, "07cfec10fbc34347cb3e18abcdb994627aeaec5a73611dfc2f39ed35d001cbeb"), looks := false }, kinds := [], alts := [], laidByText := true, laidKinds := [.data], laidTests := true, laidLooks := .later }
def BloomOrderUptoCardSaid : Prop := Claim7.holds Tryd.pinned (.plain (OpenSpec.upto bloomOrderSpec)) bloomOrderUptoCard
end Rows
end Go.Proofs.YtlcohooognjmaaaDoor
