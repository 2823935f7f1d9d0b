/-
  DERIVED. GIVEN WITH THE SEED: THE CARDS: each row of YtoolgdcjfkjlnaaGreatDoorRows.lean that lists a variable, with what it lists TIED to the program's text (the seventh form; the later family's looks); each row that meets fmt, with fmt's text TOLD by the authors' own Lean function (tested against real Go, not proved from fmt's source: count such statements apart). THE CARD IS WHAT COUNTS. Prove the row's statement (the work); the ties are given (YtoolgdcjfkjlnaaGreatDoorTie.lean); close each card by the builder's one call (the guide's Derived/Test/ToyasCard.lean, 'card_holds'). Laid BY PROGRAM, IN A SANDBOX (cutbox-door.mjs). By AI agents, Wed Nov 11 2026. No macro, syntax, notation, axiom, sorry.
-/
import Derived.Test.YtoolgdcjfkjlnaaGreatDoorRows
import GoSem.ClaimSeven
namespace Go.Proofs.YtoolgdcjfkjlnaaGreatDoor
namespace Rows

/-- THE TIED CARD OF 'bilgelaw25.AgentEnds'. -/
def agentEndsCard : Claim7 := { stood := { row := agentEndsRow, standIns := [], harness := (true, "cd2c87eed28a22f883d43b76b5d5bebb605fe4d7069125758686cd11848f22d2"), looks := true }, kinds := [], alts := [], laidByText := true, laidKinds := [.data, .data, .data, .data, .sentinel, .sentinel, .pinned], laidTests := true, laidLooks := .later }
def AgentEndsCardSaid : Prop := Claim7.holds Tryz.pinned (.plain (OpenSpec.ofChange agentEndsSpec)) agentEndsCard

/-- THE TIED CARD OF 'bilgelaw25.AgentVersions'. -/
def agentVersionsCard : Claim7 := { stood := { row := agentVersionsRow, standIns := [], harness := (true, "cd2c87eed28a22f883d43b76b5d5bebb605fe4d7069125758686cd11848f22d2"), looks := true }, kinds := [], alts := [], laidByText := true, laidKinds := [.data, .data, .data, .data, .sentinel, .sentinel, .pinned], laidTests := true, laidLooks := .later }
def AgentVersionsCardSaid : Prop := Claim7.holds Tryz.pinned (.plain (OpenSpec.ofChange agentVersionsSpec)) agentVersionsCard

/-- THE SECOND FORM's CARD OF 'bilgelaw25.AgentEnds'. -/
def agentEndsUptoCard : Claim7 := { stood := { row := agentEndsUptoRow, standIns := [], harness := (true, "cd2c87eed28a22f883d43b76b5d5bebb605fe4d7069125758686cd11848f22d2"), looks := true }, kinds := [], alts := [], laidByText := true, laidKinds := [.data, .data, .data, .data, .sentinel, .sentinel, .pinned], laidTests := true, laidLooks := .later }
def AgentEndsUptoCardSaid : Prop := Claim7.holds Tryz.pinned (.plain (OpenSpec.upto agentEndsSpec)) agentEndsUptoCard

/-- THE SECOND FORM's CARD OF 'bilgelaw25.AgentVersions'. -/
def agentVersionsUptoCard : Claim7 := { stood := { row := agentVersionsUptoRow, standIns := [], harness := (true, "cd2c87eed28a22f883d43b76b5d5bebb605fe4d7069125758686cd11848f22d2"), looks := true }, kinds := [], alts := [], laidByText := true, laidKinds := [.data, .data, .data, .data, .sentinel, .sentinel, .pinned], laidTests := true, laidLooks := .later }
def AgentVersionsUptoCardSaid : Prop := Claim7.holds Tryz.pinned (.plain (OpenSpec.upto agentVersionsSpec)) agentVersionsUptoCard
end Rows
end Go.Proofs.YtoolgdcjfkjlnaaGreatDoor
