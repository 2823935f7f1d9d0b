/-
  DERIVED. GIVEN WITH THE SEED: THE CARDS: each row of YtlpihekflkjkfaaDoorRows.lean that lists a variable, with what it lists TIED to the program's text (the seventh form; the later family's looks); each row that meets fmt, with fmt's text TOLD by the authors' own Lean function (tested against real Go, not proved from fmt's source: count such statements apart). THE CARD IS WHAT COUNTS. Prove the row's statement (the work); the ties are given (YtlpihekflkjkfaaDoorTie.lean); close each card by the builder's one call (the guide's Derived/Test/ToyasCard.lean, 'card_holds'). Laid BY PROGRAM, IN A SANDBOX (cutbox-door.mjs). By AI agents, Wed Nov 11 2026. No macro, syntax, notation, axiom, sorry.
-/
import Derived.Test.YtlpihekflkjkfaaDoorRows
import GoSem.ClaimSeven
namespace Go.Proofs.YtlpihekflkjkfaaDoor
namespace Rows

/-- THE TIED CARD OF 'bilgelaw05.QuantKeeps'. -/
def quantKeepsCard : Claim7 := { stood := { row := quantKeepsRow, standIns := [], harness := (true, "79535a2d67384628581768af397b558197774a79311beb29ca93fbe7f4aaa96f"), looks := true }, kinds := [], alts := [], laidByText := true, laidKinds := [.data, .data, .data, .data, .pinned], laidTests := true, laidLooks := .later }
def QuantKeepsCardSaid : Prop := Claim7.holds Tryd.pinned (.plain (OpenSpec.ofChange quantKeepsSpec)) quantKeepsCard

/-- THE TIED CARD OF 'bilgelaw05.QuantOrder'. -/
def quantOrderCard : Claim7 := { stood := { row := quantOrderRow, standIns := [], harness := (true, "79535a2d67384628581768af397b558197774a79311beb29ca93fbe7f4aaa96f"), looks := true }, kinds := [], alts := [], laidByText := true, laidKinds := [.data, .data, .data, .data, .pinned], laidTests := true, laidLooks := .later }
def QuantOrderCardSaid : Prop := Claim7.holds Tryd.pinned (.plain (OpenSpec.ofChange quantOrderSpec)) quantOrderCard

/-- THE TIED CARD OF 'bilgelaw27.LogLines'. -/
def logLinesCard : Claim7 := { stood := { row := logLinesRow, standIns := [], harness := (true, "79535a2d67384628581768af397b558197774a79311beb29ca93fbe7f4aaa96f"), looks := true }, kinds := [], alts := [], laidByText := true, laidKinds := [.data, .data, .data, .data, .sentinel, .sentinel, .pinned], laidTests := true, laidLooks := .later }
def LogLinesCardSaid : Prop := Claim7.holds Tryd.pinned (.plain (OpenSpec.ofChange logLinesSpec)) logLinesCard

/-- THE TIED CARD OF 'bilgelaw27.LogReads'. -/
def logReadsCard : Claim7 := { stood := { row := logReadsRow, standIns := [], harness := (true, "79535a2d67384628581768af397b558197774a79311beb29ca93fbe7f4aaa96f"), looks := true }, kinds := [], alts := [], laidByText := true, laidKinds := [.data, .data, .data, .data, .sentinel, .sentinel, .pinned], laidTests := true, laidLooks := .later }
def LogReadsCardSaid : Prop := Claim7.holds Tryd.pinned (.plain (OpenSpec.ofChange logReadsSpec)) logReadsCard

/-- THE TIED CARD OF 'bilgelaw27.LogBack'. -/
def logBackCard : Claim7 := { stood := { row := logBackRow, standIns := [], harness := (true, "79535a2d67384628581768af397b558197774a79311beb29ca93fbe7f4aaa96f"), looks := true }, kinds := [], alts := [], laidByText := true, laidKinds := [.data, .data, .data, .data, .sentinel, .sentinel, .pinned], laidTests := true, laidLooks := .later }
def LogBackCardSaid : Prop := Claim7.holds Tryd.pinned (.plain (OpenSpec.ofChange logBackSpec)) logBackCard

/-- THE TIED CARD OF 'bilgelaw27.LogUnlike'. -/
def logUnlikeCard : Claim7 := { stood := { row := logUnlikeRow, standIns := [], harness := (true, "79535a2d67384628581768af397b558197774a79311beb29ca93fbe7f4aaa96f"), looks := true }, kinds := [], alts := [], laidByText := true, laidKinds := [.data, .data, .data, .data, .sentinel, .sentinel, .pinned], laidTests := true, laidLooks := .later }
def LogUnlikeCardSaid : Prop := Claim7.holds Tryd.pinned (.plain (OpenSpec.ofChange logUnlikeSpec)) logUnlikeCard

/-- THE TIED CARD OF 'bilgelaw27.LogAll'. -/
def logAllCard : Claim7 := { stood := { row := logAllRow, standIns := [], harness := (true, "79535a2d67384628581768af397b558197774a79311beb29ca93fbe7f4aaa96f"), looks := true }, kinds := [], alts := [], laidByText := true, laidKinds := [.data, .data, .data, .data, .sentinel, .sentinel, .pinned], laidTests := true, laidLooks := .later }
def LogAllCardSaid : Prop := Claim7.holds Tryd.pinned (.plain (OpenSpec.ofChange logAllSpec)) logAllCard

/-- THE TIED CARD OF 'bilgelaw27.LogParts'. -/
def logPartsCard : Claim7 := { stood := { row := logPartsRow, standIns := [], harness := (true, "79535a2d67384628581768af397b558197774a79311beb29ca93fbe7f4aaa96f"), looks := true }, kinds := [], alts := [], laidByText := true, laidKinds := [.data, .data, .data, .data, .sentinel, .sentinel, .pinned], laidTests := true, laidLooks := .later }
def LogPartsCardSaid : Prop := Claim7.holds Tryd.pinned (.plain (OpenSpec.ofChange logPartsSpec)) logPartsCard

/-- THE TIED CARD OF 'bilgelaw27.LogKeeps'. -/
def logKeepsCard : Claim7 := { stood := { row := logKeepsRow, standIns := [], harness := (true, "79535a2d67384628581768af397b558197774a79311beb29ca93fbe7f4aaa96f"), looks := true }, kinds := [], alts := [], laidByText := true, laidKinds := [.data, .data, .data, .data, .sentinel, .sentinel, .pinned], laidTests := true, laidLooks := .later }
def LogKeepsCardSaid : Prop := Claim7.holds Tryd.pinned (.plain (OpenSpec.ofChange logKeepsSpec)) logKeepsCard

/-- THE TIED CARD OF 'bilgelaw06.ThreshReads'. -/
def threshReadsCard : Claim7 := { stood := { row := threshReadsRow, standIns := [], harness := (true, "79535a2d67384628581768af397b558197774a79311beb29ca93fbe7f4aaa96f"), looks := true }, kinds := [], alts := [], laidByText := true, laidKinds := [.data, .data, .data, .data, .sentinel, .sentinel, .pinned], laidTests := true, laidLooks := .later }
def ThreshReadsCardSaid : Prop := Claim7.holds Tryd.pinned (.plain (OpenSpec.ofChange threshReadsSpec)) threshReadsCard

/-- THE TIED CARD OF 'bilgelaw06.ThreshBack'. -/
def threshBackCard : Claim7 := { stood := { row := threshBackRow, standIns := [], harness := (true, "79535a2d67384628581768af397b558197774a79311beb29ca93fbe7f4aaa96f"), looks := true }, kinds := [], alts := [], laidByText := true, laidKinds := [.data, .data, .data, .data, .sentinel, .sentinel, .pinned], laidTests := true, laidLooks := .later }
def ThreshBackCardSaid : Prop := Claim7.holds Tryd.pinned (.plain (OpenSpec.ofChange threshBackSpec)) threshBackCard

/-- THE TIED CARD OF 'bilgelaw06.ThreshShares'. -/
def threshSharesCard : Claim7 := { stood := { row := threshSharesRow, standIns := [], harness := (true, "79535a2d67384628581768af397b558197774a79311beb29ca93fbe7f4aaa96f"), looks := true }, kinds := [], alts := [], laidByText := true, laidKinds := [.data, .data, .data, .data, .sentinel, .sentinel, .pinned], laidTests := true, laidLooks := .later }
def ThreshSharesCardSaid : Prop := Claim7.holds Tryd.pinned (.plain (OpenSpec.ofChange threshSharesSpec)) threshSharesCard

/-- THE TIED CARD OF 'bilgelaw06.ThreshTexts'. -/
def threshTextsCard : Claim7 := { stood := { row := threshTextsRow, standIns := [], harness := (true, "79535a2d67384628581768af397b558197774a79311beb29ca93fbe7f4aaa96f"), looks := true }, kinds := [], alts := [], laidByText := true, laidKinds := [.data, .data, .data, .data, .sentinel, .sentinel, .pinned], laidTests := true, laidLooks := .later }
def ThreshTextsCardSaid : Prop := Claim7.holds Tryd.pinned (.plain (OpenSpec.ofChange threshTextsSpec)) threshTextsCard

/-- THE SECOND FORM's CARD OF 'bilgelaw05.QuantKeeps'. -/
def quantKeepsUptoCard : Claim7 := { stood := { row := quantKeepsUptoRow, standIns := [], harness := (true, "79535a2d67384628581768af397b558197774a79311beb29ca93fbe7f4aaa96f"), looks := true }, kinds := [], alts := [], laidByText := true, laidKinds := [.data, .data, .data, .data, .pinned], laidTests := true, laidLooks := .later }
def QuantKeepsUptoCardSaid : Prop := Claim7.holds Tryd.pinned (.plain (OpenSpec.upto quantKeepsSpec)) quantKeepsUptoCard

/-- THE SECOND FORM's CARD OF 'bilgelaw05.QuantOrder'. -/
def quantOrderUptoCard : Claim7 := { stood := { row := quantOrderUptoRow, standIns := [], harness := (true, "79535a2d67384628581768af397b558197774a79311beb29ca93fbe7f4aaa96f"), looks := true }, kinds := [], alts := [], laidByText := true, laidKinds := [.data, .data, .data, .data, .pinned], laidTests := true, laidLooks := .later }
def QuantOrderUptoCardSaid : Prop := Claim7.holds Tryd.pinned (.plain (OpenSpec.upto quantOrderSpec)) quantOrderUptoCard

/-- THE SECOND FORM's CARD OF 'bilgelaw27.LogLines'. -/
def logLinesUptoCard : Claim7 := { stood := { row := logLinesUptoRow, standIns := [], harness := (true, "79535a2d67384628581768af397b558197774a79311beb29ca93fbe7f4aaa96f"), looks := true }, kinds := [], alts := [], laidByText := true, laidKinds := [.data, .data, .data, .data, .sentinel, .sentinel, .pinned], laidTests := true, laidLooks := .later }
def LogLinesUptoCardSaid : Prop := Claim7.holds Tryd.pinned (.plain (OpenSpec.upto logLinesSpec)) logLinesUptoCard

/-- THE SECOND FORM's CARD OF 'bilgelaw27.LogReads'. -/
def logReadsUptoCard : Claim7 := { stood := { row := logReadsUptoRow, standIns := [], harness := (true, "79535a2d67384628581768af397b558197774a79311beb29ca93fbe7f4aaa96f"), looks := true }, kinds := [], alts := [], laidByText := true, laidKinds := [.data, .data, .data, .data, .sentinel, .sentinel, .pinned], laidTests := true, laidLooks := .later }
def LogReadsUptoCardSaid : Prop := Claim7.holds Tryd.pinned (.plain (OpenSpec.upto logReadsSpec)) logReadsUptoCard

/-- THE SECOND FORM's CARD OF 'bilgelaw27.LogBack'. -/
def logBackUptoCard : Claim7 := { stood := { row := logBackUptoRow, standIns := [], harness := (true, "79535a2d67384628581768af397b558197774a79311beb29ca93fbe7f4aaa96f"), looks := true }, kinds := [], alts := [], laidByText := true, laidKinds := [.data, .data, .data, .data, .sentinel, .sentinel, .pinned], laidTests := true, laidLooks := .later }
def LogBackUptoCardSaid : Prop := Claim7.holds Tryd.pinned (.plain (OpenSpec.upto logBackSpec)) logBackUptoCard

/-- THE SECOND FORM's CARD OF 'bilgelaw27.LogUnlike'. -/
def logUnlikeUptoCard : Claim7 := { stood := { row := logUnlikeUptoRow, standIns := [], harness := (true, "79535a2d67384628581768af397b558197774a79311beb29ca93fbe7f4aaa96f"), looks := true }, kinds := [], alts := [], laidByText := true, laidKinds := [.data, .data, .data, .data, .sentinel, .sentinel, .pinned], laidTests := true, laidLooks := .later }
def LogUnlikeUptoCardSaid : Prop := Claim7.holds Tryd.pinned (.plain (OpenSpec.upto logUnlikeSpec)) logUnlikeUptoCard

/-- THE SECOND FORM's CARD OF 'bilgelaw27.LogAll'. -/
def logAllUptoCard : Claim7 := { stood := { row := logAllUptoRow, standIns := [], harness := (true, "79535a2d67384628581768af397b558197774a79311beb29ca93fbe7f4aaa96f"), looks := true }, kinds := [], alts := [], laidByText := true, laidKinds := [.data, .data, .data, .data, .sentinel, .sentinel, .pinned], laidTests := true, laidLooks := .later }
def LogAllUptoCardSaid : Prop := Claim7.holds Tryd.pinned (.plain (OpenSpec.upto logAllSpec)) logAllUptoCard

/-- THE SECOND FORM's CARD OF 'bilgelaw27.LogParts'. -/
def logPartsUptoCard : Claim7 := { stood := { row := logPartsUptoRow, standIns := [], harness := (true, "79535a2d67384628581768af397b558197774a79311beb29ca93fbe7f4aaa96f"), looks := true }, kinds := [], alts := [], laidByText := true, laidKinds := [.data, .data, .data, .data, .sentinel, .sentinel, .pinned], laidTests := true, laidLooks := .later }
def LogPartsUptoCardSaid : Prop := Claim7.holds Tryd.pinned (.plain (OpenSpec.upto logPartsSpec)) logPartsUptoCard

/-- THE SECOND FORM's CARD OF 'bilgelaw27.LogKeeps'. -/
def logKeepsUptoCard : Claim7 := { stood := { row := logKeepsUptoRow, standIns := [], harness := (true, "79535a2d67384628581768af397b558197774a79311beb29ca93fbe7f4aaa96f"), looks := true }, kinds := [], alts := [], laidByText := true, laidKinds := [.data, .data, .data, .data, .sentinel, .sentinel, .pinned], laidTests := true, laidLooks := .later }
def LogKeepsUptoCardSaid : Prop := Claim7.holds Tryd.pinned (.plain (OpenSpec.upto logKeepsSpec)) logKeepsUptoCard

/-- THE SECOND FORM's CARD OF 'bilgelaw06.ThreshReads'. -/
def threshReadsUptoCard : Claim7 := { stood := { row := threshReadsUptoRow, standIns := [], harness := (true, "79535a2d67384628581768af397b558197774a79311beb29ca93fbe7f4aaa96f"), looks := true }, kinds := [], alts := [], laidByText := true, laidKinds := [.data, .data, .data, .data, .sentinel, .sentinel, .pinned], laidTests := true, laidLooks := .later }
def ThreshReadsUptoCardSaid : Prop := Claim7.holds Tryd.pinned (.plain (OpenSpec.upto threshReadsSpec)) threshReadsUptoCard

/-- THE SECOND FORM's CARD OF 'bilgelaw06.ThreshBack'. -/
def threshBackUptoCard : Claim7 := { stood := { row := threshBackUptoRow, standIns := [], harness := (true, "79535a2d67384628581768af397b558197774a79311beb29ca93fbe7f4aaa96f"), looks := true }, kinds := [], alts := [], laidByText := true, laidKinds := [.data, .data, .data, .data, .sentinel, .sentinel, .pinned], laidTests := true, laidLooks := .later }
def ThreshBackUptoCardSaid : Prop := Claim7.holds Tryd.pinned (.plain (OpenSpec.upto threshBackSpec)) threshBackUptoCard

/-- THE SECOND FORM's CARD OF 'bilgelaw06.ThreshShares'. -/
def threshSharesUptoCard : Claim7 := { stood := { row := threshSharesUptoRow, standIns := [], harness := (true, "79535a2d67384628581768af397b558197774a79311beb29ca93fbe7f4aaa96f"), looks := true }, kinds := [], alts := [], laidByText := true, laidKinds := [.data, .data, .data, .data, .sentinel, .sentinel, .pinned], laidTests := true, laidLooks := .later }
def ThreshSharesUptoCardSaid : Prop := Claim7.holds Tryd.pinned (.plain (OpenSpec.upto threshSharesSpec)) threshSharesUptoCard

/-- THE SECOND FORM's CARD OF 'bilgelaw06.ThreshTexts'. -/
def threshTextsUptoCard : Claim7 := { stood := { row := threshTextsUptoRow, standIns := [], harness := (true, "79535a2d67384628581768af397b558197774a79311beb29ca93fbe7f4aaa96f"), looks := true }, kinds := [], alts := [], laidByText := true, laidKinds := [.data, .data, .data, .data, .sentinel, .sentinel, .pinned], laidTests := true, laidLooks := .later }
def ThreshTextsUptoCardSaid : Prop := Claim7.holds Tryd.pinned (.plain (OpenSpec.upto threshTextsSpec)) threshTextsUptoCard
end Rows
end Go.Proofs.YtlpihekflkjkfaaDoor
