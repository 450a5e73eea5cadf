/-
  DERIVED. GIVEN WITH THE SEED: THE CARDS: each row of YtadioaeeobmdgaaDoorRows.lean that lists a variable, with what it lists TIED to the program's text (the seventh form; the later family's looks); each row that meets fmt, with fmt's text TOLD by the authors' own Lean function (tested against real Go, not proved from fmt's source: count such statements apart). THE CARD IS WHAT COUNTS. Prove the row's statement (the work); the ties are given (YtadioaeeobmdgaaDoorTie.lean); close each card by the builder's one call (the guide's Derived/Test/ToyasCard.lean, 'card_holds'). Laid BY PROGRAM, IN A SANDBOX (cutbox-door.mjs). By AI agents, Wed Nov 11 2026. No macro, syntax, notation, axiom, sorry.
-/
import Derived.Test.YtadioaeeobmdgaaDoorRows
import GoSem.ClaimSeven
namespace Go.Proofs.YtadioaeeobmdgaaDoor
namespace Rows

/-- THE TIED CARD OF 'heliographlaw04.GaugeOf'. -/
def gaugeOfCard : Claim7 := { stood := { row := gaugeOfRow, standIns := [], harness := (true, "aa15a60ca83e704528427c3d5eab4b98b1f1fcab15f61a656074f714ab1fcd81"), looks := false }, kinds := [], alts := [], laidByText := true, laidKinds := [.data, .data, .data], laidTests := true, laidLooks := .later }
def GaugeOfCardSaid : Prop := Claim7.holds Tryd.pinned (.plain (OpenSpec.ofChange gaugeOfSpec)) gaugeOfCard

/-- THE SECOND FORM's CARD OF 'heliographlaw04.GaugeOf'. -/
def gaugeOfUptoCard : Claim7 := { stood := { row := gaugeOfUptoRow, standIns := [], harness := (true, "aa15a60ca83e704528427c3d5eab4b98b1f1fcab15f61a656074f714ab1fcd81"), looks := false }, kinds := [], alts := [], laidByText := true, laidKinds := [.data, .data, .data], laidTests := true, laidLooks := .later }
def GaugeOfUptoCardSaid : Prop := Claim7.holds Tryd.pinned (.plain (OpenSpec.upto gaugeOfSpec)) gaugeOfUptoCard
end Rows
end Go.Proofs.YtadioaeeobmdgaaDoor
