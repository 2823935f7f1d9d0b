/-
  DERIVED. GIVEN WITH THE SEED: THE CARDS: each row of YtgphopeclplahaaGreatDoorRows.lean that lists a variable, with what it lists TIED to the program's text (the seventh form; the later family's looks); each row that meets fmt, with fmt's text TOLD by the authors' own Lean function (tested against real Go, not proved from fmt's source: count such statements apart). THE CARD IS WHAT COUNTS. Prove the row's statement (the work); the ties are given (YtgphopeclplahaaGreatDoorTie.lean); close each card by the builder's one call (the guide's Derived/Test/ToyasCard.lean, 'card_holds'). Laid BY PROGRAM, IN A SANDBOX (cutbox-door.mjs). By AI agents, Wed Nov 11 2026. No macro, syntax, notation, axiom, sorry.
-/
import Derived.Test.YtgphopeclplahaaGreatDoorRows
import GoSem.ClaimSeven
namespace Go.Proofs.YtgphopeclplahaaGreatDoor
namespace Rows

/-- THE TIED CARD OF 'bilgelaw26.ScriptAmounts'. -/
def scriptAmountsCard : Claim7 := { stood := { row := scriptAmountsRow, standIns := [], harness := (true, "ab682c9546fa49cbd9b8b5513cb56ff61275eea1d0f94243b4197f5d50f00be7"), looks := true }, kinds := [], alts := [], laidByText := true, laidKinds := [.data, .data, .data, .data, .sentinel, .sentinel, .pinned], laidTests := true, laidLooks := .later }
def ScriptAmountsCardSaid : Prop := Claim7.holds Tryz.pinned (.plain (OpenSpec.ofChange scriptAmountsSpec)) scriptAmountsCard

/-- THE TIED CARD OF 'bilgelaw26.ScriptReads'. -/
def scriptReadsCard : Claim7 := { stood := { row := scriptReadsRow, standIns := [], harness := (true, "ab682c9546fa49cbd9b8b5513cb56ff61275eea1d0f94243b4197f5d50f00be7"), looks := true }, kinds := [], alts := [], laidByText := true, laidKinds := [.data, .data, .data, .data, .sentinel, .sentinel, .pinned], laidTests := true, laidLooks := .later }
def ScriptReadsCardSaid : Prop := Claim7.holds Tryz.pinned (.plain (OpenSpec.ofChange scriptReadsSpec)) scriptReadsCard

/-- THE TIED CARD OF 'bilgelaw26.ScriptPrints'. -/
def scriptPrintsCard : Claim7 := { stood := { row := scriptPrintsRow, standIns := [], harness := (true, "ab682c9546fa49cbd9b8b5513cb56ff61275eea1d0f94243b4197f5d50f00be7"), looks := true }, kinds := [], alts := [], laidByText := true, laidKinds := [.data, .data, .data, .data, .sentinel, .sentinel, .pinned], laidTests := true, laidLooks := .later }
def ScriptPrintsCardSaid : Prop := Claim7.holds Tryz.pinned (.plain (OpenSpec.ofChange scriptPrintsSpec)) scriptPrintsCard

/-- THE TIED CARD OF 'bilgelaw26.ScriptBack'. -/
def scriptBackCard : Claim7 := { stood := { row := scriptBackRow, standIns := [], harness := (true, "ab682c9546fa49cbd9b8b5513cb56ff61275eea1d0f94243b4197f5d50f00be7"), looks := true }, kinds := [], alts := [], laidByText := true, laidKinds := [.data, .data, .data, .data, .sentinel, .sentinel, .pinned], laidTests := true, laidLooks := .later }
def ScriptBackCardSaid : Prop := Claim7.holds Tryz.pinned (.plain (OpenSpec.ofChange scriptBackSpec)) scriptBackCard

/-- THE TIED CARD OF 'bilgelaw26.ScriptWholes'. -/
def scriptWholesCard : Claim7 := { stood := { row := scriptWholesRow, standIns := [], harness := (true, "ab682c9546fa49cbd9b8b5513cb56ff61275eea1d0f94243b4197f5d50f00be7"), looks := true }, kinds := [], alts := [], laidByText := true, laidKinds := [.data, .data, .data, .data, .sentinel, .sentinel, .pinned], laidTests := true, laidLooks := .later }
def ScriptWholesCardSaid : Prop := Claim7.holds Tryz.pinned (.plain (OpenSpec.ofChange scriptWholesSpec)) scriptWholesCard

/-- THE TIED CARD OF 'bilgelaw26.ScriptLines'. -/
def scriptLinesCard : Claim7 := { stood := { row := scriptLinesRow, standIns := [], harness := (true, "ab682c9546fa49cbd9b8b5513cb56ff61275eea1d0f94243b4197f5d50f00be7"), looks := true }, kinds := [], alts := [], laidByText := true, laidKinds := [.data, .data, .data, .data, .sentinel, .sentinel, .pinned], laidTests := true, laidLooks := .later }
def ScriptLinesCardSaid : Prop := Claim7.holds Tryz.pinned (.plain (OpenSpec.ofChange scriptLinesSpec)) scriptLinesCard

/-- THE TIED CARD OF 'bilgelaw26.ScriptRests'. -/
def scriptRestsCard : Claim7 := { stood := { row := scriptRestsRow, standIns := [], harness := (true, "ab682c9546fa49cbd9b8b5513cb56ff61275eea1d0f94243b4197f5d50f00be7"), looks := true }, kinds := [], alts := [], laidByText := true, laidKinds := [.data, .data, .data, .data, .sentinel, .sentinel, .pinned], laidTests := true, laidLooks := .later }
def ScriptRestsCardSaid : Prop := Claim7.holds Tryz.pinned (.plain (OpenSpec.ofChange scriptRestsSpec)) scriptRestsCard

/-- THE TIED CARD OF 'bilgelaw26.ScriptKeeps'. -/
def scriptKeepsCard : Claim7 := { stood := { row := scriptKeepsRow, standIns := [], harness := (true, "ab682c9546fa49cbd9b8b5513cb56ff61275eea1d0f94243b4197f5d50f00be7"), looks := true }, kinds := [], alts := [], laidByText := true, laidKinds := [.data, .data, .data, .data, .sentinel, .sentinel, .pinned], laidTests := true, laidLooks := .later }
def ScriptKeepsCardSaid : Prop := Claim7.holds Tryz.pinned (.plain (OpenSpec.ofChange scriptKeepsSpec)) scriptKeepsCard

/-- THE SECOND FORM's CARD OF 'bilgelaw26.ScriptAmounts'. -/
def scriptAmountsUptoCard : Claim7 := { stood := { row := scriptAmountsUptoRow, standIns := [], harness := (true, "ab682c9546fa49cbd9b8b5513cb56ff61275eea1d0f94243b4197f5d50f00be7"), looks := true }, kinds := [], alts := [], laidByText := true, laidKinds := [.data, .data, .data, .data, .sentinel, .sentinel, .pinned], laidTests := true, laidLooks := .later }
def ScriptAmountsUptoCardSaid : Prop := Claim7.holds Tryz.pinned (.plain (OpenSpec.upto scriptAmountsSpec)) scriptAmountsUptoCard

/-- THE SECOND FORM's CARD OF 'bilgelaw26.ScriptReads'. -/
def scriptReadsUptoCard : Claim7 := { stood := { row := scriptReadsUptoRow, standIns := [], harness := (true, "ab682c9546fa49cbd9b8b5513cb56ff61275eea1d0f94243b4197f5d50f00be7"), looks := true }, kinds := [], alts := [], laidByText := true, laidKinds := [.data, .data, .data, .data, .sentinel, .sentinel, .pinned], laidTests := true, laidLooks := .later }
def ScriptReadsUptoCardSaid : Prop := Claim7.holds Tryz.pinned (.plain (OpenSpec.upto scriptReadsSpec)) scriptReadsUptoCard

/-- THE SECOND FORM's CARD OF 'bilgelaw26.ScriptPrints'. -/
def scriptPrintsUptoCard : Claim7 := { stood := { row := scriptPrintsUptoRow, standIns := [], harness := (true, "ab682c9546fa49cbd9b8b5513cb56ff61275eea1d0f94243b4197f5d50f00be7"), looks := true }, kinds := [], alts := [], laidByText := true, laidKinds := [.data, .data, .data, .data, .sentinel, .sentinel, .pinned], laidTests := true, laidLooks := .later }
def ScriptPrintsUptoCardSaid : Prop := Claim7.holds Tryz.pinned (.plain (OpenSpec.upto scriptPrintsSpec)) scriptPrintsUptoCard

/-- THE SECOND FORM's CARD OF 'bilgelaw26.ScriptBack'. -/
def scriptBackUptoCard : Claim7 := { stood := { row := scriptBackUptoRow, standIns := [], harness := (true, "ab682c9546fa49cbd9b8b5513cb56ff61275eea1d0f94243b4197f5d50f00be7"), looks := true }, kinds := [], alts := [], laidByText := true, laidKinds := [.data, .data, .data, .data, .sentinel, .sentinel, .pinned], laidTests := true, laidLooks := .later }
def ScriptBackUptoCardSaid : Prop := Claim7.holds Tryz.pinned (.plain (OpenSpec.upto scriptBackSpec)) scriptBackUptoCard

/-- THE SECOND FORM's CARD OF 'bilgelaw26.ScriptWholes'. -/
def scriptWholesUptoCard : Claim7 := { stood := { row := scriptWholesUptoRow, standIns := [], harness := (true, "ab682c9546fa49cbd9b8b5513cb56ff61275eea1d0f94243b4197f5d50f00be7"), looks := true }, kinds := [], alts := [], laidByText := true, laidKinds := [.data, .data, .data, .data, .sentinel, .sentinel, .pinned], laidTests := true, laidLooks := .later }
def ScriptWholesUptoCardSaid : Prop := Claim7.holds Tryz.pinned (.plain (OpenSpec.upto scriptWholesSpec)) scriptWholesUptoCard

/-- THE SECOND FORM's CARD OF 'bilgelaw26.ScriptLines'. -/
def scriptLinesUptoCard : Claim7 := { stood := { row := scriptLinesUptoRow, standIns := [], harness := (true, "ab682c9546fa49cbd9b8b5513cb56ff61275eea1d0f94243b4197f5d50f00be7"), looks := true }, kinds := [], alts := [], laidByText := true, laidKinds := [.data, .data, .data, .data, .sentinel, .sentinel, .pinned], laidTests := true, laidLooks := .later }
def ScriptLinesUptoCardSaid : Prop := Claim7.holds Tryz.pinned (.plain (OpenSpec.upto scriptLinesSpec)) scriptLinesUptoCard

/-- THE SECOND FORM's CARD OF 'bilgelaw26.ScriptRests'. -/
def scriptRestsUptoCard : Claim7 := { stood := { row := scriptRestsUptoRow, standIns := [], harness := (true, "ab682c9546fa49cbd9b8b5513cb56ff61275eea1d0f94243b4197f5d50f00be7"), looks := true }, kinds := [], alts := [], laidByText := true, laidKinds := [.data, .data, .data, .data, .sentinel, .sentinel, .pinned], laidTests := true, laidLooks := .later }
def ScriptRestsUptoCardSaid : Prop := Claim7.holds Tryz.pinned (.plain (OpenSpec.upto scriptRestsSpec)) scriptRestsUptoCard

/-- THE SECOND FORM's CARD OF 'bilgelaw26.ScriptKeeps'. -/
def scriptKeepsUptoCard : Claim7 := { stood := { row := scriptKeepsUptoRow, standIns := [], harness := (true, "ab682c9546fa49cbd9b8b5513cb56ff61275eea1d0f94243b4197f5d50f00be7"), looks := true }, kinds := [], alts := [], laidByText := true, laidKinds := [.data, .data, .data, .data, .sentinel, .sentinel, .pinned], laidTests := true, laidLooks := .later }
def ScriptKeepsUptoCardSaid : Prop := Claim7.holds Tryz.pinned (.plain (OpenSpec.upto scriptKeepsSpec)) scriptKeepsUptoCard
end Rows
end Go.Proofs.YtgphopeclplahaaGreatDoor
