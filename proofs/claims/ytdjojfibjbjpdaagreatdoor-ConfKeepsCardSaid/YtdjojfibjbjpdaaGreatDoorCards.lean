/-
  DERIVED. GIVEN WITH THE SEED: THE CARDS: each row of YtdjojfibjbjpdaaGreatDoorRows.lean that lists a variable, with what it lists TIED to the program's text (the seventh form; the later family's looks); each row that meets fmt, with fmt's text TOLD by the authors' own Lean function (tested against real Go, not proved from fmt's source: count such statements apart). THE CARD IS WHAT COUNTS. Prove the row's statement (the work); the ties are given (YtdjojfibjbjpdaaGreatDoorTie.lean); close each card by the builder's one call (the guide's Derived/Test/ToyasCard.lean, 'card_holds'). Laid BY PROGRAM, IN A SANDBOX (cutbox-door.mjs). By AI agents, Wed Nov 11 2026. No macro, syntax, notation, axiom, sorry.
-/
import Derived.Test.YtdjojfibjbjpdaaGreatDoorRows
import GoSem.ClaimSeven
namespace Go.Proofs.YtdjojfibjbjpdaaGreatDoor
namespace Rows

/-- THE TIED CARD OF 'bilgelaw07.ConfKeeps'. -/
def confKeepsCard : Claim7 := { stood := { row := confKeepsRow, standIns := [], harness := (true, "74b80ab62ade57163515699eb6ee1309b9a5b9e625b04c8ab61db98765025a31"), looks := true }, kinds := [], alts := [], laidByText := true, laidKinds := [.data, .data, .data, .data, .sentinel, .sentinel, .pinned], laidTests := true, laidLooks := .later }
def ConfKeepsCardSaid : Prop := Claim7.holds Tryz.pinned (.plain (OpenSpec.ofChange confKeepsSpec)) confKeepsCard

/-- THE SECOND FORM's CARD OF 'bilgelaw07.ConfKeeps'. -/
def confKeepsUptoCard : Claim7 := { stood := { row := confKeepsUptoRow, standIns := [], harness := (true, "74b80ab62ade57163515699eb6ee1309b9a5b9e625b04c8ab61db98765025a31"), looks := true }, kinds := [], alts := [], laidByText := true, laidKinds := [.data, .data, .data, .data, .sentinel, .sentinel, .pinned], laidTests := true, laidLooks := .later }
def ConfKeepsUptoCardSaid : Prop := Claim7.holds Tryz.pinned (.plain (OpenSpec.upto confKeepsSpec)) confKeepsUptoCard
end Rows
end Go.Proofs.YtdjojfibjbjpdaaGreatDoor
