/-
  DERIVED. GIVEN WITH THE SEED: THE CARDS: each row of YtpfplkbbdoijnaaDoorRows.lean that lists a variable, with what it lists TIED to the program's text (the seventh form; the later family's looks); each row that meets fmt, with fmt's text TOLD by the authors' own Lean function (tested against real Go, not proved from fmt's source: count such statements apart). THE CARD IS WHAT COUNTS. Prove the row's statement (the work); the ties are given (YtpfplkbbdoijnaaDoorTie.lean); close each card by the builder's one call (the guide's Derived/Test/ToyasCard.lean, 'card_holds'). Laid BY PROGRAM, IN A SANDBOX (cutbox-door.mjs). By AI agents, Wed Nov 11 2026. No macro, syntax, notation, axiom, sorry.
-/
import Derived.Test.YtpfplkbbdoijnaaDoorRows
import GoSem.ClaimSeven
namespace Go.Proofs.YtpfplkbbdoijnaaDoor
namespace Rows

/-- THE TIED CARD OF 'bilgelaw05.QuantReads'. -/
def quantReadsCard : Claim7 := { stood := { row := quantReadsRow, standIns := [], harness := (true, "7da14aaa9bab60d402ed6cc0a99da3de09b3b4d22b4ab8966a8a4b208be19e7e"), looks := false }, kinds := [], alts := [], laidByText := true, laidKinds := [.data, .data, .data, .data, .pinned], laidTests := true, laidLooks := .later }
def QuantReadsCardSaid : Prop := Claim7.holds Tryd.pinned (.plain (OpenSpec.ofChange quantReadsSpec)) quantReadsCard

/-- THE TIED CARD OF 'bilgelaw05.QuantBack'. -/
def quantBackCard : Claim7 := { stood := { row := quantBackRow, standIns := [], harness := (true, "7da14aaa9bab60d402ed6cc0a99da3de09b3b4d22b4ab8966a8a4b208be19e7e"), looks := false }, kinds := [], alts := [], laidByText := true, laidKinds := [.data, .data, .data, .data, .pinned], laidTests := true, laidLooks := .later }
def QuantBackCardSaid : Prop := Claim7.holds Tryd.pinned (.plain (OpenSpec.ofChange quantBackSpec)) quantBackCard

/-- THE TIED CARD OF 'bilgelaw05.QuantUnits'. -/
def quantUnitsCard : Claim7 := { stood := { row := quantUnitsRow, standIns := [], harness := (true, "7da14aaa9bab60d402ed6cc0a99da3de09b3b4d22b4ab8966a8a4b208be19e7e"), looks := false }, kinds := [], alts := [], laidByText := true, laidKinds := [.data, .data, .data, .data, .pinned], laidTests := true, laidLooks := .later }
def QuantUnitsCardSaid : Prop := Claim7.holds Tryd.pinned (.plain (OpenSpec.ofChange quantUnitsSpec)) quantUnitsCard

/-- THE TIED CARD OF 'bilgelaw05.QuantKeeps'. -/
def quantKeepsCard : Claim7 := { stood := { row := quantKeepsRow, standIns := [], harness := (true, "7da14aaa9bab60d402ed6cc0a99da3de09b3b4d22b4ab8966a8a4b208be19e7e"), looks := false }, kinds := [], alts := [], laidByText := true, laidKinds := [.data, .data, .data, .data, .pinned], laidTests := true, laidLooks := .later }
def QuantKeepsCardSaid : Prop := Claim7.holds Tryd.pinned (.plain (OpenSpec.ofChange quantKeepsSpec)) quantKeepsCard

/-- THE TIED CARD OF 'bilgelaw05.QuantOrder'. -/
def quantOrderCard : Claim7 := { stood := { row := quantOrderRow, standIns := [], harness := (true, "7da14aaa9bab60d402ed6cc0a99da3de09b3b4d22b4ab8966a8a4b208be19e7e"), looks := false }, kinds := [], alts := [], laidByText := true, laidKinds := [.data, .data, .data, .data, .pinned], laidTests := true, laidLooks := .later }
def QuantOrderCardSaid : Prop := Claim7.holds Tryd.pinned (.plain (OpenSpec.ofChange quantOrderSpec)) quantOrderCard

/-- THE SECOND FORM's CARD OF 'bilgelaw05.QuantReads'. -/
def quantReadsUptoCard : Claim7 := { stood := { row := quantReadsUptoRow, standIns := [], harness := (true, "7da14aaa9bab60d402ed6cc0a99da3de09b3b4d22b4ab8966a8a4b208be19e7e"), looks := false }, kinds := [], alts := [], laidByText := true, laidKinds := [.data, .data, .data, .data, .pinned], laidTests := true, laidLooks := .later }
def QuantReadsUptoCardSaid : Prop := Claim7.holds Tryd.pinned (.plain (OpenSpec.upto quantReadsSpec)) quantReadsUptoCard

/-- THE SECOND FORM's CARD OF 'bilgelaw05.QuantBack'. -/
def quantBackUptoCard : Claim7 := { stood := { row := quantBackUptoRow, standIns := [], harness := (true, "7da14aaa9bab60d402ed6cc0a99da3de09b3b4d22b4ab8966a8a4b208be19e7e"), looks := false }, kinds := [], alts := [], laidByText := true, laidKinds := [.data, .data, .data, .data, .pinned], laidTests := true, laidLooks := .later }
def QuantBackUptoCardSaid : Prop := Claim7.holds Tryd.pinned (.plain (OpenSpec.upto quantBackSpec)) quantBackUptoCard

/-- THE SECOND FORM's CARD OF 'bilgelaw05.QuantUnits'. -/
def quantUnitsUptoCard : Claim7 := { stood := { row := quantUnitsUptoRow, standIns := [], harness := (true, "7da14aaa9bab60d402ed6cc0a99da3de09b3b4d22b4ab8966a8a4b208be19e7e"), looks := false }, kinds := [], alts := [], laidByText := true, laidKinds := [.data, .data, .data, .data, .pinned], laidTests := true, laidLooks := .later }
def QuantUnitsUptoCardSaid : Prop := Claim7.holds Tryd.pinned (.plain (OpenSpec.upto quantUnitsSpec)) quantUnitsUptoCard

/-- THE SECOND FORM's CARD OF 'bilgelaw05.QuantKeeps'. -/
def quantKeepsUptoCard : Claim7 := { stood := { row := quantKeepsUptoRow, standIns := [], harness := (true, "7da14aaa9bab60d402ed6cc0a99da3de09b3b4d22b4ab8966a8a4b208be19e7e"), looks := false }, kinds := [], alts := [], laidByText := true, laidKinds := [.data, .data, .data, .data, .pinned], laidTests := true, laidLooks := .later }
def QuantKeepsUptoCardSaid : Prop := Claim7.holds Tryd.pinned (.plain (OpenSpec.upto quantKeepsSpec)) quantKeepsUptoCard

/-- THE SECOND FORM's CARD OF 'bilgelaw05.QuantOrder'. -/
def quantOrderUptoCard : Claim7 := { stood := { row := quantOrderUptoRow, standIns := [], harness := (true, "7da14aaa9bab60d402ed6cc0a99da3de09b3b4d22b4ab8966a8a4b208be19e7e"), looks := false }, kinds := [], alts := [], laidByText := true, laidKinds := [.data, .data, .data, .data, .pinned], laidTests := true, laidLooks := .later }
def QuantOrderUptoCardSaid : Prop := Claim7.holds Tryd.pinned (.plain (OpenSpec.upto quantOrderSpec)) quantOrderUptoCard
end Rows
end Go.Proofs.YtpfplkbbdoijnaaDoor
