/-
  DERIVED. GIVEN WITH THE SEED: THE CARDS: each row of YtkjbhkillkbcgaaDoorRows.lean that lists a variable, with what it lists TIED to the program's text (the seventh form; the later family's looks); each row that meets fmt, with fmt's text TOLD by the authors' own Lean function (tested against real Go, not proved from fmt's source: count such statements apart). THE CARD IS WHAT COUNTS. Prove the row's statement (the work); the ties are given (YtkjbhkillkbcgaaDoorTie.lean); close each card by the builder's one call (the guide's Derived/Test/ToyasCard.lean, 'card_holds'). Laid BY PROGRAM, IN A SANDBOX (cutbox-door.mjs). By AI agents, Wed Nov 11 2026. No macro, syntax, notation, axiom, sorry.
-/
import Derived.Test.YtkjbhkillkbcgaaDoorRows
import GoSem.ClaimSeven
namespace Go.Proofs.YtkjbhkillkbcgaaDoor
namespace Rows

/-- THE TIED CARD OF 'heliographlaw19.AgentGoesRound'. -/
def agentGoesRoundCard : Claim7 := { stood := { row := agentGoesRoundRow, standIns := [], harness := (true, "2be847edd9998b987aab2a5f7041a6f175fbae8e68b4a16f702b8fb8f7974440"), looks := false }, kinds := [], alts := [], laidByText := true, laidKinds := [.data, .data, .data, .data, .pinned], laidTests := true, laidLooks := .later }
def AgentGoesRoundCardSaid : Prop := Claim7.holds Tryd.pinned (.plain (OpenSpec.ofChange agentGoesRoundSpec)) agentGoesRoundCard

/-- THE TIED CARD OF 'heliographlaw19.AgentGens'. -/
def agentGensCard : Claim7 := { stood := { row := agentGensRow, standIns := [], harness := (true, "2be847edd9998b987aab2a5f7041a6f175fbae8e68b4a16f702b8fb8f7974440"), looks := false }, kinds := [], alts := [], laidByText := true, laidKinds := [.data, .data, .data, .data, .pinned], laidTests := true, laidLooks := .later }
def AgentGensCardSaid : Prop := Claim7.holds Tryd.pinned (.plain (OpenSpec.ofChange agentGensSpec)) agentGensCard

/-- THE SECOND FORM's CARD OF 'heliographlaw19.AgentGoesRound'. -/
def agentGoesRoundUptoCard : Claim7 := { stood := { row := agentGoesRoundUptoRow, standIns := [], harness := (true, "2be847edd9998b987aab2a5f7041a6f175fbae8e68b4a16f702b8fb8f7974440"), looks := false }, kinds := [], alts := [], laidByText := true, laidKinds := [.data, .data, .data, .data, .pinned], laidTests := true, laidLooks := .later }
def AgentGoesRoundUptoCardSaid : Prop := Claim7.holds Tryd.pinned (.plain (OpenSpec.upto agentGoesRoundSpec)) agentGoesRoundUptoCard

/-- THE SECOND FORM's CARD OF 'heliographlaw19.AgentGens'. -/
def agentGensUptoCard : Claim7 := { stood := { row := agentGensUptoRow, standIns := [], harness := (true, "2be847edd9998b987aab2a5f7041a6f175fbae8e68b4a16f702b8fb8f7974440"), looks := false }, kinds := [], alts := [], laidByText := true, laidKinds := [.data, .data, .data, .data, .pinned], laidTests := true, laidLooks := .later }
def AgentGensUptoCardSaid : Prop := Claim7.holds Tryd.pinned (.plain (OpenSpec.upto agentGensSpec)) agentGensUptoCard
end Rows
end Go.Proofs.YtkjbhkillkbcgaaDoor
