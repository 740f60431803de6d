/-
  DERIVED. GIVEN WITH THE SEED: THE CARDS: each row of YtipefhadafildaaDoorRows.lean that lists a variable, with what it lists TIED to the program's text (the seventh form; the later family's looks); each row that meets fmt, with fmt's text TOLD by the authors' own Lean function (tested against real Go, not proved from fmt's source: count such statements apart). THE CARD IS WHAT COUNTS. Prove the row's statement (the work); the ties are given (YtipefhadafildaaDoorTie.lean); close each card by the builder's one call (the guide's Derived/Test/ToyasCard.lean, 'card_holds'). Laid BY PROGRAM, IN A SANDBOX (cutbox-door.mjs). By AI agents, Wed Nov 11 2026. No macro, syntax, notation, axiom, sorry.
-/
import Derived.Test.YtipefhadafildaaDoorRows
import GoSem.ClaimSeven
namespace Go.Proofs.YtipefhadafildaaDoor
namespace Rows

/-- THE TIED CARD OF 'screelaw2.CodecSums'. -/
def codecSumsCard : Claim7 := { stood := { row := codecSumsRow, standIns := [], harness := (true, "e589d460014f8327f8783711d1fda39eddce4703370302da42e11d9fa9949117"), looks := false }, kinds := [], alts := [], laidByText := true, laidKinds := [.data], laidTests := true, laidLooks := .later }
def CodecSumsCardSaid : Prop := Claim7.holds Tryd.pinned (.plain (OpenSpec.ofChange codecSumsSpec)) codecSumsCard

/-- THE TIED CARD OF 'screelaw2.CodecFrames'. -/
def codecFramesCard : Claim7 := { stood := { row := codecFramesRow, standIns := [], harness := (true, "e589d460014f8327f8783711d1fda39eddce4703370302da42e11d9fa9949117"), looks := false }, kinds := [], alts := [], laidByText := true, laidKinds := [.data], laidTests := true, laidLooks := .later }
def CodecFramesCardSaid : Prop := Claim7.holds Tryd.pinned (.plain (OpenSpec.ofChange codecFramesSpec)) codecFramesCard

/-- THE TIED CARD OF 'screelaw2.CodecDamage'. -/
def codecDamageCard : Claim7 := { stood := { row := codecDamageRow, standIns := [], harness := (true, "e589d460014f8327f8783711d1fda39eddce4703370302da42e11d9fa9949117"), looks := false }, kinds := [], alts := [], laidByText := true, laidKinds := [.data], laidTests := true, laidLooks := .later }
def CodecDamageCardSaid : Prop := Claim7.holds Tryd.pinned (.plain (OpenSpec.ofChange codecDamageSpec)) codecDamageCard

/-- THE TIED CARD OF 'screelaw2.CodecBack'. -/
def codecBackCard : Claim7 := { stood := { row := codecBackRow, standIns := [], harness := (true, "e589d460014f8327f8783711d1fda39eddce4703370302da42e11d9fa9949117"), looks := false }, kinds := [], alts := [], laidByText := true, laidKinds := [.data], laidTests := true, laidLooks := .later }
def CodecBackCardSaid : Prop := Claim7.holds Tryd.pinned (.plain (OpenSpec.ofChange codecBackSpec)) codecBackCard

/-- THE TIED CARD OF 'screelaw2.CodecForm'. -/
def codecFormCard : Claim7 := { stood := { row := codecFormRow, standIns := [], harness := (true, "e589d460014f8327f8783711d1fda39eddce4703370302da42e11d9fa9949117"), looks := false }, kinds := [], alts := [], laidByText := true, laidKinds := [.data], laidTests := true, laidLooks := .later }
def CodecFormCardSaid : Prop := Claim7.holds Tryd.pinned (.plain (OpenSpec.ofChange codecFormSpec)) codecFormCard

/-- THE SECOND FORM's CARD OF 'screelaw2.CodecSums'. -/
def codecSumsUptoCard : Claim7 := { stood := { row := codecSumsUptoRow, standIns := [], harness := (true, "e589d460014f8327f8783711d1fda39eddce4703370302da42e11d9fa9949117"), looks := false }, kinds := [], alts := [], laidByText := true, laidKinds := [.data], laidTests := true, laidLooks := .later }
def CodecSumsUptoCardSaid : Prop := Claim7.holds Tryd.pinned (.plain (OpenSpec.upto codecSumsSpec)) codecSumsUptoCard

/-- THE SECOND FORM's CARD OF 'screelaw2.CodecFrames'. -/
def codecFramesUptoCard : Claim7 := { stood := { row := codecFramesUptoRow, standIns := [], harness := (true, "e589d460014f8327f8783711d1fda39eddce4703370302da42e11d9fa9949117"), looks := false }, kinds := [], alts := [], laidByText := true, laidKinds := [.data], laidTests := true, laidLooks := .later }
def CodecFramesUptoCardSaid : Prop := Claim7.holds Tryd.pinned (.plain (OpenSpec.upto codecFramesSpec)) codecFramesUptoCard

/-- THE SECOND FORM's CARD OF 'screelaw2.CodecDamage'. -/
def codecDamageUptoCard : Claim7 := { stood := { row := codecDamageUptoRow, standIns := [], harness := (true, "e589d460014f8327f8783711d1fda39eddce4703370302da42e11d9fa9949117"), looks := false }, kinds := [], alts := [], laidByText := true, laidKinds := [.data], laidTests := true, laidLooks := .later }
def CodecDamageUptoCardSaid : Prop := Claim7.holds Tryd.pinned (.plain (OpenSpec.upto codecDamageSpec)) codecDamageUptoCard

/-- THE SECOND FORM's CARD OF 'screelaw2.CodecBack'. -/
def codecBackUptoCard : Claim7 := { stood := { row := codecBackUptoRow, standIns := [], harness := (true, "e589d460014f8327f8783711d1fda39eddce4703370302da42e11d9fa9949117"), looks := false }, kinds := [], alts := [], laidByText := true, laidKinds := [.data], laidTests := true, laidLooks := .later }
def CodecBackUptoCardSaid : Prop := Claim7.holds Tryd.pinned (.plain (OpenSpec.upto codecBackSpec)) codecBackUptoCard

/-- THE SECOND FORM's CARD OF 'screelaw2.CodecForm'. -/
def codecFormUptoCard : Claim7 := { stood := { row := codecFormUptoRow, standIns := [], harness := (true, "e589d460014f8327f8783711d1fda39eddce4703370302da42e11d9fa9949117"), looks := false }, kinds := [], alts := [], laidByText := true, laidKinds := [.data], laidTests := true, laidLooks := .later }
def CodecFormUptoCardSaid : Prop := Claim7.holds Tryd.pinned (.plain (OpenSpec.upto codecFormSpec)) codecFormUptoCard
end Rows
end Go.Proofs.YtipefhadafildaaDoor
