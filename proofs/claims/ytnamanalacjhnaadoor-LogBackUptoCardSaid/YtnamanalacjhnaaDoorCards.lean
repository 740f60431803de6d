/-
  DERIVED. GIVEN WITH THE SEED: THE CARDS: each row of YtnamanalacjhnaaDoorRows.lean that lists a variable, with what it lists TIED to the program's text (the seventh form; the later family's looks); each row that meets fmt, with fmt's text TOLD by the authors' own Lean function (tested against real Go, not proved from fmt's source: count such statements apart). THE CARD IS WHAT COUNTS. Prove the row's statement (the work); the ties are given (YtnamanalacjhnaaDoorTie.lean); close each card by the builder's one call (the guide's Derived/Test/ToyasCard.lean, 'card_holds'). Laid BY PROGRAM, IN A SANDBOX (cutbox-door.mjs). By AI agents, Wed Nov 11 2026. No macro, syntax, notation, axiom, sorry.
-/
import Derived.Test.YtnamanalacjhnaaDoorRows
import GoSem.ClaimSeven
namespace Go.Proofs.YtnamanalacjhnaaDoor
namespace Rows

/-- THE TIED CARD OF 'screelaw7.LogAppends'. -/
def logAppendsCard : Claim7 := { stood := { row := logAppendsRow, standIns := [], harness := (true, "8868f6da647ab130d99e3092bb7cf0cc981360d499143f944ad0010cd1f12eb6"), looks := false }, kinds := [], alts := [], laidByText := true, laidKinds := [.data], laidTests := true, laidLooks := .later }
def LogAppendsCardSaid : Prop := Claim7.holds Tryd.pinned (.plain (OpenSpec.ofChange logAppendsSpec)) logAppendsCard

/-- THE TIED CARD OF 'screelaw7.LogLent'. -/
def logLentCard : Claim7 := { stood := { row := logLentRow, standIns := [], harness := (true, "8868f6da647ab130d99e3092bb7cf0cc981360d499143f944ad0010cd1f12eb6"), looks := false }, kinds := [], alts := [], goes := true, laidByText := true, laidKinds := [.data], laidTests := true, laidLooks := .later }
def LogLentCardSaid : Prop := Claim7.holds Tryd.pinned (.plain (OpenSpec.ofChange logLentSpec)) logLentCard

/-- THE TIED CARD OF 'screelaw7.LogReads'. -/
def logReadsCard : Claim7 := { stood := { row := logReadsRow, standIns := [], harness := (true, "8868f6da647ab130d99e3092bb7cf0cc981360d499143f944ad0010cd1f12eb6"), looks := false }, kinds := [], alts := [], goes := true, laidByText := true, laidKinds := [.data], laidTests := true, laidLooks := .later }
def LogReadsCardSaid : Prop := Claim7.holds Tryd.pinned (.plain (OpenSpec.ofChange logReadsSpec)) logReadsCard

/-- THE TIED CARD OF 'screelaw7.LogBack'. -/
def logBackCard : Claim7 := { stood := { row := logBackRow, standIns := [], harness := (true, "8868f6da647ab130d99e3092bb7cf0cc981360d499143f944ad0010cd1f12eb6"), looks := false }, kinds := [], alts := [], laidByText := true, laidKinds := [.data], laidTests := true, laidLooks := .later }
def LogBackCardSaid : Prop := Claim7.holds Tryd.pinned (.plain (OpenSpec.ofChange logBackSpec)) logBackCard

/-- THE TIED CARD OF 'screelaw7.LogGroup'. -/
def logGroupCard : Claim7 := { stood := { row := logGroupRow, standIns := [], harness := (true, "8868f6da647ab130d99e3092bb7cf0cc981360d499143f944ad0010cd1f12eb6"), looks := false }, kinds := [], alts := [], laidByText := true, laidKinds := [.data], laidTests := true, laidLooks := .later }
def LogGroupCardSaid : Prop := Claim7.holds Tryd.pinned (.plain (OpenSpec.ofChange logGroupSpec)) logGroupCard

/-- THE TIED CARD OF 'screelaw7.LogFits'. -/
def logFitsCard : Claim7 := { stood := { row := logFitsRow, standIns := [], harness := (true, "8868f6da647ab130d99e3092bb7cf0cc981360d499143f944ad0010cd1f12eb6"), looks := false }, kinds := [], alts := [], laidByText := true, laidKinds := [.data], laidTests := true, laidLooks := .later }
def LogFitsCardSaid : Prop := Claim7.holds Tryd.pinned (.plain (OpenSpec.ofChange logFitsSpec)) logFitsCard

/-- THE SECOND FORM's CARD OF 'screelaw7.LogAppends'. -/
def logAppendsUptoCard : Claim7 := { stood := { row := logAppendsUptoRow, standIns := [], harness := (true, "8868f6da647ab130d99e3092bb7cf0cc981360d499143f944ad0010cd1f12eb6"), looks := false }, kinds := [], alts := [], laidByText := true, laidKinds := [.data], laidTests := true, laidLooks := .later }
def LogAppendsUptoCardSaid : Prop := Claim7.holds Tryd.pinned (.plain (OpenSpec.upto logAppendsSpec)) logAppendsUptoCard

/-- THE SECOND FORM's CARD OF 'screelaw7.LogLent'. -/
def logLentUptoCard : Claim7 := { stood := { row := logLentUptoRow, standIns := [], harness := (true, "8868f6da647ab130d99e3092bb7cf0cc981360d499143f944ad0010cd1f12eb6"), looks := false }, kinds := [], alts := [], goes := true, laidByText := true, laidKinds := [.data], laidTests := true, laidLooks := .later }
def LogLentUptoCardSaid : Prop := Claim7.holds Tryd.pinned (.plain (OpenSpec.upto logLentSpec)) logLentUptoCard

/-- THE SECOND FORM's CARD OF 'screelaw7.LogReads'. -/
def logReadsUptoCard : Claim7 := { stood := { row := logReadsUptoRow, standIns := [], harness := (true, "8868f6da647ab130d99e3092bb7cf0cc981360d499143f944ad0010cd1f12eb6"), looks := false }, kinds := [], alts := [], goes := true, laidByText := true, laidKinds := [.data], laidTests := true, laidLooks := .later }
def LogReadsUptoCardSaid : Prop := Claim7.holds Tryd.pinned (.plain (OpenSpec.upto logReadsSpec)) logReadsUptoCard

/-- THE SECOND FORM's CARD OF 'screelaw7.LogBack'. -/
def logBackUptoCard : Claim7 := { stood := { row := logBackUptoRow, standIns := [], harness := (true, "8868f6da647ab130d99e3092bb7cf0cc981360d499143f944ad0010cd1f12eb6"), looks := false }, kinds := [], alts := [], laidByText := true, laidKinds := [.data], laidTests := true, laidLooks := .later }
def LogBackUptoCardSaid : Prop := Claim7.holds Tryd.pinned (.plain (OpenSpec.upto logBackSpec)) logBackUptoCard

/-- THE SECOND FORM's CARD OF 'screelaw7.LogGroup'. -/
def logGroupUptoCard : Claim7 := { stood := { row := logGroupUptoRow, standIns := [], harness := (true, "8868f6da647ab130d99e3092bb7cf0cc981360d499143f944ad0010cd1f12eb6"), looks := false }, kinds := [], alts := [], laidByText := true, laidKinds := [.data], laidTests := true, laidLooks := .later }
def LogGroupUptoCardSaid : Prop := Claim7.holds Tryd.pinned (.plain (OpenSpec.upto logGroupSpec)) logGroupUptoCard

/-- THE SECOND FORM's CARD OF 'screelaw7.LogFits'. -/
def logFitsUptoCard : Claim7 := { stood := { row := logFitsUptoRow, standIns := [], harness := (true, "8868f6da647ab130d99e3092bb7cf0cc981360d499143f944ad0010cd1f12eb6"), looks := false }, kinds := [], alts := [], laidByText := true, laidKinds := [.data], laidTests := true, laidLooks := .later }
def LogFitsUptoCardSaid : Prop := Claim7.holds Tryd.pinned (.plain (OpenSpec.upto logFitsSpec)) logFitsUptoCard
end Rows
end Go.Proofs.YtnamanalacjhnaaDoor
