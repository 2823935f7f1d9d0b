/-
  DERIVED. GIVEN WITH THE SEED: THE CARDS: each row of YtkdpehhdbjkljaaDoorRows.lean that lists a variable, with what it lists TIED to the program's text (the seventh form; the later family's looks); each row that meets fmt, with fmt's text TOLD by the authors' own Lean function (tested against real Go, not proved from fmt's source: count such statements apart). THE CARD IS WHAT COUNTS. Prove the row's statement (the work); the ties are given (YtkdpehhdbjkljaaDoorTie.lean); close each card by the builder's one call (the guide's Derived/Test/ToyasCard.lean, 'card_holds'). Laid BY PROGRAM, IN A SANDBOX (cutbox-door.mjs). By AI agents, Wed Nov 11 2026. No macro, syntax, notation, axiom, sorry.
-/
import Derived.Test.YtkdpehhdbjkljaaDoorRows
import GoSem.ClaimSeven
namespace Go.Proofs.YtkdpehhdbjkljaaDoor
namespace Rows

/-- THE TIED CARD OF 'bilgelaw04.LexLines'. -/
def lexLinesCard : Claim7 := { stood := { row := lexLinesRow, standIns := [], harness := (true, "64ef979033b8adf170a5116253b3bc251313945849173adac19ca8f58c758097"), looks := false }, kinds := [], alts := [], laidByText := true, laidKinds := [.data, .pinned], laidTests := true, laidLooks := .later }
def LexLinesCardSaid : Prop := Claim7.holds Tryd.pinned (.plain (OpenSpec.ofChange lexLinesSpec)) lexLinesCard

/-- THE TIED CARD OF 'bilgelaw04.LexPlaces'. -/
def lexPlacesCard : Claim7 := { stood := { row := lexPlacesRow, standIns := [], harness := (true, "64ef979033b8adf170a5116253b3bc251313945849173adac19ca8f58c758097"), looks := false }, kinds := [], alts := [], laidByText := true, laidKinds := [.data, .pinned], laidTests := true, laidLooks := .later }
def LexPlacesCardSaid : Prop := Claim7.holds Tryd.pinned (.plain (OpenSpec.ofChange lexPlacesSpec)) lexPlacesCard

/-- THE TIED CARD OF 'bilgelaw04.LexJoins'. -/
def lexJoinsCard : Claim7 := { stood := { row := lexJoinsRow, standIns := [], harness := (true, "64ef979033b8adf170a5116253b3bc251313945849173adac19ca8f58c758097"), looks := false }, kinds := [], alts := [], laidByText := true, laidKinds := [.data, .pinned], laidTests := true, laidLooks := .later }
def LexJoinsCardSaid : Prop := Claim7.holds Tryd.pinned (.plain (OpenSpec.ofChange lexJoinsSpec)) lexJoinsCard

/-- THE TIED CARD OF 'bilgelaw04.LexTwo'. -/
def lexTwoCard : Claim7 := { stood := { row := lexTwoRow, standIns := [], harness := (true, "64ef979033b8adf170a5116253b3bc251313945849173adac19ca8f58c758097"), looks := false }, kinds := [], alts := [], laidByText := true, laidKinds := [.data, .pinned], laidTests := true, laidLooks := .later }
def LexTwoCardSaid : Prop := Claim7.holds Tryd.pinned (.plain (OpenSpec.ofChange lexTwoSpec)) lexTwoCard

/-- THE TIED CARD OF 'bilgelaw04.LexKeeps'. -/
def lexKeepsCard : Claim7 := { stood := { row := lexKeepsRow, standIns := [], harness := (true, "64ef979033b8adf170a5116253b3bc251313945849173adac19ca8f58c758097"), looks := false }, kinds := [], alts := [], laidByText := true, laidKinds := [.data, .pinned], laidTests := true, laidLooks := .later }
def LexKeepsCardSaid : Prop := Claim7.holds Tryd.pinned (.plain (OpenSpec.ofChange lexKeepsSpec)) lexKeepsCard

/-- THE TIED CARD OF 'bilgelaw04.LexRemarks'. -/
def lexRemarksCard : Claim7 := { stood := { row := lexRemarksRow, standIns := [], harness := (true, "64ef979033b8adf170a5116253b3bc251313945849173adac19ca8f58c758097"), looks := false }, kinds := [], alts := [], laidByText := true, laidKinds := [.data, .pinned], laidTests := true, laidLooks := .later }
def LexRemarksCardSaid : Prop := Claim7.holds Tryd.pinned (.plain (OpenSpec.ofChange lexRemarksSpec)) lexRemarksCard

/-- THE TIED CARD OF 'bilgelaw05.QuantReads'. -/
def quantReadsCard : Claim7 := { stood := { row := quantReadsRow, standIns := [], harness := (true, "64ef979033b8adf170a5116253b3bc251313945849173adac19ca8f58c758097"), looks := false }, kinds := [], alts := [], laidByText := true, laidKinds := [.data, .data, .data, .data, .pinned], laidTests := true, laidLooks := .later }
def QuantReadsCardSaid : Prop := Claim7.holds Tryd.pinned (.plain (OpenSpec.ofChange quantReadsSpec)) quantReadsCard

/-- THE TIED CARD OF 'bilgelaw05.QuantBack'. -/
def quantBackCard : Claim7 := { stood := { row := quantBackRow, standIns := [], harness := (true, "64ef979033b8adf170a5116253b3bc251313945849173adac19ca8f58c758097"), looks := false }, kinds := [], alts := [], laidByText := true, laidKinds := [.data, .data, .data, .data, .pinned], laidTests := true, laidLooks := .later }
def QuantBackCardSaid : Prop := Claim7.holds Tryd.pinned (.plain (OpenSpec.ofChange quantBackSpec)) quantBackCard

/-- THE TIED CARD OF 'bilgelaw05.QuantUnits'. -/
def quantUnitsCard : Claim7 := { stood := { row := quantUnitsRow, standIns := [], harness := (true, "64ef979033b8adf170a5116253b3bc251313945849173adac19ca8f58c758097"), looks := false }, kinds := [], alts := [], laidByText := true, laidKinds := [.data, .data, .data, .data, .pinned], laidTests := true, laidLooks := .later }
def QuantUnitsCardSaid : Prop := Claim7.holds Tryd.pinned (.plain (OpenSpec.ofChange quantUnitsSpec)) quantUnitsCard

/-- THE TIED CARD OF 'bilgelaw05.QuantKeeps'. -/
def quantKeepsCard : Claim7 := { stood := { row := quantKeepsRow, standIns := [], harness := (true, "64ef979033b8adf170a5116253b3bc251313945849173adac19ca8f58c758097"), looks := false }, kinds := [], alts := [], laidByText := true, laidKinds := [.data, .data, .data, .data, .pinned], laidTests := true, laidLooks := .later }
def QuantKeepsCardSaid : Prop := Claim7.holds Tryd.pinned (.plain (OpenSpec.ofChange quantKeepsSpec)) quantKeepsCard

/-- THE TIED CARD OF 'bilgelaw05.QuantOrder'. -/
def quantOrderCard : Claim7 := { stood := { row := quantOrderRow, standIns := [], harness := (true, "64ef979033b8adf170a5116253b3bc251313945849173adac19ca8f58c758097"), looks := false }, kinds := [], alts := [], laidByText := true, laidKinds := [.data, .data, .data, .data, .pinned], laidTests := true, laidLooks := .later }
def QuantOrderCardSaid : Prop := Claim7.holds Tryd.pinned (.plain (OpenSpec.ofChange quantOrderSpec)) quantOrderCard

/-- THE SECOND FORM's CARD OF 'bilgelaw04.LexLines'. -/
def lexLinesUptoCard : Claim7 := { stood := { row := lexLinesUptoRow, standIns := [], harness := (true, "64ef979033b8adf170a5116253b3bc251313945849173adac19ca8f58c758097"), looks := false }, kinds := [], alts := [], laidByText := true, laidKinds := [.data, .pinned], laidTests := true, laidLooks := .later }
def LexLinesUptoCardSaid : Prop := Claim7.holds Tryd.pinned (.plain (OpenSpec.upto lexLinesSpec)) lexLinesUptoCard

/-- THE SECOND FORM's CARD OF 'bilgelaw04.LexPlaces'. -/
def lexPlacesUptoCard : Claim7 := { stood := { row := lexPlacesUptoRow, standIns := [], harness := (true, "64ef979033b8adf170a5116253b3bc251313945849173adac19ca8f58c758097"), looks := false }, kinds := [], alts := [], laidByText := true, laidKinds := [.data, .pinned], laidTests := true, laidLooks := .later }
def LexPlacesUptoCardSaid : Prop := Claim7.holds Tryd.pinned (.plain (OpenSpec.upto lexPlacesSpec)) lexPlacesUptoCard

/-- THE SECOND FORM's CARD OF 'bilgelaw04.LexJoins'. -/
def lexJoinsUptoCard : Claim7 := { stood := { row := lexJoinsUptoRow, standIns := [], harness := (true, "64ef979033b8adf170a5116253b3bc251313945849173adac19ca8f58c758097"), looks := false }, kinds := [], alts := [], laidByText := true, laidKinds := [.data, .pinned], laidTests := true, laidLooks := .later }
def LexJoinsUptoCardSaid : Prop := Claim7.holds Tryd.pinned (.plain (OpenSpec.upto lexJoinsSpec)) lexJoinsUptoCard

/-- THE SECOND FORM's CARD OF 'bilgelaw04.LexTwo'. -/
def lexTwoUptoCard : Claim7 := { stood := { row := lexTwoUptoRow, standIns := [], harness := (true, "64ef979033b8adf170a5116253b3bc251313945849173adac19ca8f58c758097"), looks := false }, kinds := [], alts := [], laidByText := true, laidKinds := [.data, .pinned], laidTests := true, laidLooks := .later }
def LexTwoUptoCardSaid : Prop := Claim7.holds Tryd.pinned (.plain (OpenSpec.upto lexTwoSpec)) lexTwoUptoCard

/-- THE SECOND FORM's CARD OF 'bilgelaw04.LexKeeps'. -/
def lexKeepsUptoCard : Claim7 := { stood := { row := lexKeepsUptoRow, standIns := [], harness := (true, "64ef979033b8adf170a5116253b3bc251313945849173adac19ca8f58c758097"), looks := false }, kinds := [], alts := [], laidByText := true, laidKinds := [.data, .pinned], laidTests := true, laidLooks := .later }
def LexKeepsUptoCardSaid : Prop := Claim7.holds Tryd.pinned (.plain (OpenSpec.upto lexKeepsSpec)) lexKeepsUptoCard

/-- THE SECOND FORM's CARD OF 'bilgelaw04.LexRemarks'. -/
def lexRemarksUptoCard : Claim7 := { stood := { row := lexRemarksUptoRow, standIns := [], harness := (true, "64ef979033b8adf170a5116253b3bc251313945849173adac19ca8f58c758097"), looks := false }, kinds := [], alts := [], laidByText := true, laidKinds := [.data, .pinned], laidTests := true, laidLooks := .later }
def LexRemarksUptoCardSaid : Prop := Claim7.holds Tryd.pinned (.plain (OpenSpec.upto lexRemarksSpec)) lexRemarksUptoCard

/-- THE SECOND FORM's CARD OF 'bilgelaw05.QuantReads'. -/
def quantReadsUptoCard : Claim7 := { stood := { row := quantReadsUptoRow, standIns := [], harness := (true, "64ef979033b8adf170a5116253b3bc251313945849173adac19ca8f58c758097"), looks := false }, kinds := [], alts := [], laidByText := true, laidKinds := [.data, .data, .data, .data, .pinned], laidTests := true, laidLooks := .later }
def QuantReadsUptoCardSaid : Prop := Claim7.holds Tryd.pinned (.plain (OpenSpec.upto quantReadsSpec)) quantReadsUptoCard

/-- THE SECOND FORM's CARD OF 'bilgelaw05.QuantBack'. -/
def quantBackUptoCard : Claim7 := { stood := { row := quantBackUptoRow, standIns := [], harness := (true, "64ef979033b8adf170a5116253b3bc251313945849173adac19ca8f58c758097"), looks := false }, kinds := [], alts := [], laidByText := true, laidKinds := [.data, .data, .data, .data, .pinned], laidTests := true, laidLooks := .later }
def QuantBackUptoCardSaid : Prop := Claim7.holds Tryd.pinned (.plain (OpenSpec.upto quantBackSpec)) quantBackUptoCard

/-- THE SECOND FORM's CARD OF 'bilgelaw05.QuantUnits'. -/
def quantUnitsUptoCard : Claim7 := { stood := { row := quantUnitsUptoRow, standIns := [], harness := (true, "64ef979033b8adf170a5116253b3bc251313945849173adac19ca8f58c758097"), looks := false }, kinds := [], alts := [], laidByText := true, laidKinds := [.data, .data, .data, .data, .pinned], laidTests := true, laidLooks := .later }
def QuantUnitsUptoCardSaid : Prop := Claim7.holds Tryd.pinned (.plain (OpenSpec.upto quantUnitsSpec)) quantUnitsUptoCard

/-- THE SECOND FORM's CARD OF 'bilgelaw05.QuantKeeps'. -/
def quantKeepsUptoCard : Claim7 := { stood := { row := quantKeepsUptoRow, standIns := [], harness := (true, "64ef979033b8adf170a5116253b3bc251313945849173adac19ca8f58c758097"), looks := false }, kinds := [], alts := [], laidByText := true, laidKinds := [.data, .data, .data, .data, .pinned], laidTests := true, laidLooks := .later }
def QuantKeepsUptoCardSaid : Prop := Claim7.holds Tryd.pinned (.plain (OpenSpec.upto quantKeepsSpec)) quantKeepsUptoCard

/-- THE SECOND FORM's CARD OF 'bilgelaw05.QuantOrder'. -/
def quantOrderUptoCard : Claim7 := { stood := { row := quantOrderUptoRow, standIns := [], harness := (true, "64ef979033b8adf170a5116253b3bc251313945849173adac19ca8f58c758097"), looks := false }, kinds := [], alts := [], laidByText := true, laidKinds := [.data, .data, .data, .data, .pinned], laidTests := true, laidLooks := .later }
def QuantOrderUptoCardSaid : Prop := Claim7.holds Tryd.pinned (.plain (OpenSpec.upto quantOrderSpec)) quantOrderUptoCard
end Rows
end Go.Proofs.YtkdpehhdbjkljaaDoor
