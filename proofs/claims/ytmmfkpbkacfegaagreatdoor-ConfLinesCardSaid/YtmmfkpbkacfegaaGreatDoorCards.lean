/-
  DERIVED. GIVEN WITH THE SEED: THE CARDS: each row of YtmmfkpbkacfegaaGreatDoorRows.lean that lists a variable, with what it lists TIED to the program's text (the seventh form; the later family's looks); each row that meets fmt, with fmt's text TOLD by the authors' own Lean function (tested against real Go, not proved from fmt's source: count such statements apart). THE CARD IS WHAT COUNTS. Prove the row's statement (the work); the ties are given (YtmmfkpbkacfegaaGreatDoorTie.lean); close each card by the builder's one call (the guide's Derived/Test/ToyasCard.lean, 'card_holds'). Laid BY PROGRAM, IN A SANDBOX (cutbox-door.mjs). By AI agents, Wed Nov 11 2026. No macro, syntax, notation, axiom, sorry.
-/
import Derived.Test.YtmmfkpbkacfegaaGreatDoorRows
import GoSem.ClaimSeven
namespace Go.Proofs.YtmmfkpbkacfegaaGreatDoor
namespace Rows

/-- THE TIED CARD OF 'bilgelaw07.ConfReads'. -/
def confReadsCard : Claim7 := { stood := { row := confReadsRow, standIns := [], harness := (true, "a6ffd89b9cdcdadc0cc43f40d568460d83dbc2bb2197c6b7dbb37ca034f3d67a"), looks := true }, kinds := [], alts := [], laidByText := true, laidKinds := [.data, .data, .data, .data, .sentinel, .sentinel, .pinned], laidTests := true, laidLooks := .later }
def ConfReadsCardSaid : Prop := Claim7.holds Tryz.pinned (.plain (OpenSpec.ofChange confReadsSpec)) confReadsCard

/-- THE TIED CARD OF 'bilgelaw07.ConfPrints'. -/
def confPrintsCard : Claim7 := { stood := { row := confPrintsRow, standIns := [], harness := (true, "a6ffd89b9cdcdadc0cc43f40d568460d83dbc2bb2197c6b7dbb37ca034f3d67a"), looks := true }, kinds := [], alts := [], laidByText := true, laidKinds := [.data, .data, .data, .data, .sentinel, .sentinel, .pinned], laidTests := true, laidLooks := .later }
def ConfPrintsCardSaid : Prop := Claim7.holds Tryz.pinned (.plain (OpenSpec.ofChange confPrintsSpec)) confPrintsCard

/-- THE TIED CARD OF 'bilgelaw07.ConfBack'. -/
def confBackCard : Claim7 := { stood := { row := confBackRow, standIns := [], harness := (true, "a6ffd89b9cdcdadc0cc43f40d568460d83dbc2bb2197c6b7dbb37ca034f3d67a"), looks := true }, kinds := [], alts := [], laidByText := true, laidKinds := [.data, .data, .data, .data, .sentinel, .sentinel, .pinned], laidTests := true, laidLooks := .later }
def ConfBackCardSaid : Prop := Claim7.holds Tryz.pinned (.plain (OpenSpec.ofChange confBackSpec)) confBackCard

/-- THE TIED CARD OF 'bilgelaw07.ConfLines'. -/
def confLinesCard : Claim7 := { stood := { row := confLinesRow, standIns := [], harness := (true, "a6ffd89b9cdcdadc0cc43f40d568460d83dbc2bb2197c6b7dbb37ca034f3d67a"), looks := true }, kinds := [], alts := [], laidByText := true, laidKinds := [.data, .data, .data, .data, .sentinel, .sentinel, .pinned], laidTests := true, laidLooks := .later }
def ConfLinesCardSaid : Prop := Claim7.holds Tryz.pinned (.plain (OpenSpec.ofChange confLinesSpec)) confLinesCard

/-- THE TIED CARD OF 'bilgelaw07.ConfKeeps'. -/
def confKeepsCard : Claim7 := { stood := { row := confKeepsRow, standIns := [], harness := (true, "a6ffd89b9cdcdadc0cc43f40d568460d83dbc2bb2197c6b7dbb37ca034f3d67a"), looks := true }, kinds := [], alts := [], laidByText := true, laidKinds := [.data, .data, .data, .data, .sentinel, .sentinel, .pinned], laidTests := true, laidLooks := .later }
def ConfKeepsCardSaid : Prop := Claim7.holds Tryz.pinned (.plain (OpenSpec.ofChange confKeepsSpec)) confKeepsCard

/-- THE TIED CARD OF 'bilgelaw07.ConfErrs'. -/
def confErrsCard : Claim7 := { stood := { row := confErrsRow, standIns := [], harness := (true, "a6ffd89b9cdcdadc0cc43f40d568460d83dbc2bb2197c6b7dbb37ca034f3d67a"), looks := true }, kinds := [], alts := [], laidByText := true, laidKinds := [.data, .data, .data, .data, .sentinel, .sentinel, .pinned], laidTests := true, laidLooks := .later }
def ConfErrsCardSaid : Prop := Claim7.holds Tryz.pinned (.plain (OpenSpec.ofChange confErrsSpec)) confErrsCard

/-- THE SECOND FORM's CARD OF 'bilgelaw07.ConfReads'. -/
def confReadsUptoCard : Claim7 := { stood := { row := confReadsUptoRow, standIns := [], harness := (true, "a6ffd89b9cdcdadc0cc43f40d568460d83dbc2bb2197c6b7dbb37ca034f3d67a"), looks := true }, kinds := [], alts := [], laidByText := true, laidKinds := [.data, .data, .data, .data, .sentinel, .sentinel, .pinned], laidTests := true, laidLooks := .later }
def ConfReadsUptoCardSaid : Prop := Claim7.holds Tryz.pinned (.plain (OpenSpec.upto confReadsSpec)) confReadsUptoCard

/-- THE SECOND FORM's CARD OF 'bilgelaw07.ConfPrints'. -/
def confPrintsUptoCard : Claim7 := { stood := { row := confPrintsUptoRow, standIns := [], harness := (true, "a6ffd89b9cdcdadc0cc43f40d568460d83dbc2bb2197c6b7dbb37ca034f3d67a"), looks := true }, kinds := [], alts := [], laidByText := true, laidKinds := [.data, .data, .data, .data, .sentinel, .sentinel, .pinned], laidTests := true, laidLooks := .later }
def ConfPrintsUptoCardSaid : Prop := Claim7.holds Tryz.pinned (.plain (OpenSpec.upto confPrintsSpec)) confPrintsUptoCard

/-- THE SECOND FORM's CARD OF 'bilgelaw07.ConfBack'. -/
def confBackUptoCard : Claim7 := { stood := { row := confBackUptoRow, standIns := [], harness := (true, "a6ffd89b9cdcdadc0cc43f40d568460d83dbc2bb2197c6b7dbb37ca034f3d67a"), looks := true }, kinds := [], alts := [], laidByText := true, laidKinds := [.data, .data, .data, .data, .sentinel, .sentinel, .pinned], laidTests := true, laidLooks := .later }
def ConfBackUptoCardSaid : Prop := Claim7.holds Tryz.pinned (.plain (OpenSpec.upto confBackSpec)) confBackUptoCard

/-- THE SECOND FORM's CARD OF 'bilgelaw07.ConfLines'. -/
def confLinesUptoCard : Claim7 := { stood := { row := confLinesUptoRow, standIns := [], harness := (true, "a6ffd89b9cdcdadc0cc43f40d568460d83dbc2bb2197c6b7dbb37ca034f3d67a"), looks := true }, kinds := [], alts := [], laidByText := true, laidKinds := [.data, .data, .data, .data, .sentinel, .sentinel, .pinned], laidTests := true, laidLooks := .later }
def ConfLinesUptoCardSaid : Prop := Claim7.holds Tryz.pinned (.plain (OpenSpec.upto confLinesSpec)) confLinesUptoCard

/-- THE SECOND FORM's CARD OF 'bilgelaw07.ConfKeeps'. -/
def confKeepsUptoCard : Claim7 := { stood := { row := confKeepsUptoRow, standIns := [], harness := (true, "a6ffd89b9cdcdadc0cc43f40d568460d83dbc2bb2197c6b7dbb37ca034f3d67a"), looks := true }, kinds := [], alts := [], laidByText := true, laidKinds := [.data, .data, .data, .data, .sentinel, .sentinel, .pinned], laidTests := true, laidLooks := .later }
def ConfKeepsUptoCardSaid : Prop := Claim7.holds Tryz.pinned (.plain (OpenSpec.upto confKeepsSpec)) confKeepsUptoCard

/-- THE SECOND FORM's CARD OF 'bilgelaw07.ConfErrs'. -/
def confErrsUptoCard : Claim7 := { stood := { row := confErrsUptoRow, standIns := [], harness := (true, "a6ffd89b9cdcdadc0cc43f40d568460d83dbc2bb2197c6b7dbb37ca034f3d67a"), looks := true }, kinds := [], alts := [], laidByText := true, laidKinds := [.data, .data, .data, .data, .sentinel, .sentinel, .pinned], laidTests := true, laidLooks := .later }
def ConfErrsUptoCardSaid : Prop := Claim7.holds Tryz.pinned (.plain (OpenSpec.upto confErrsSpec)) confErrsUptoCard
end Rows
end Go.Proofs.YtmmfkpbkacfegaaGreatDoor
