/-
  DERIVED. GIVEN WITH THE SEED: THE CARDS: each row of YtbljbdjmgogknaaGreatDoorRows.lean that lists a variable, with what it lists TIED to the program's text (the seventh form; the later family's looks); each row that meets fmt, with fmt's text TOLD by the authors' own Lean function (tested against real Go, not proved from fmt's source: count such statements apart). THE CARD IS WHAT COUNTS. Prove the row's statement (the work); the ties are given (YtbljbdjmgogknaaGreatDoorTie.lean); close each card by the builder's one call (the guide's Derived/Test/ToyasCard.lean, 'card_holds'). Laid BY PROGRAM, IN A SANDBOX (cutbox-door.mjs). By AI agents, Wed Nov 11 2026. No macro, syntax, notation, axiom, sorry.
-/
import Derived.Test.YtbljbdjmgogknaaGreatDoorRows
import GoSem.ClaimSeven
namespace Go.Proofs.YtbljbdjmgogknaaGreatDoor
namespace Rows

/-- THE TIED CARD OF 'heliographlaw15.BagExact'. -/
def bagExactCard : Claim7 := { stood := { row := bagExactRow, standIns := [], harness := (true, "8def18516edb9604ae6baa2356916354320bdb4935a161e9ed64203f6e4d8444"), looks := true }, kinds := [], alts := [], laidByText := true, laidKinds := [.data, .data, .data, .sentinel, .sentinel], laidTests := true, laidLooks := .later }
def BagExactCardSaid : Prop := Claim7.holds Tryz.pinned (.plain (OpenSpec.ofChange bagExactSpec)) bagExactCard

/-- THE TIED CARD OF 'heliographlaw15.BagOnce'. -/
def bagOnceCard : Claim7 := { stood := { row := bagOnceRow, standIns := [], harness := (true, "8def18516edb9604ae6baa2356916354320bdb4935a161e9ed64203f6e4d8444"), looks := true }, kinds := [], alts := [], laidByText := true, laidKinds := [.data, .data, .data, .sentinel, .sentinel], laidTests := true, laidLooks := .later }
def BagOnceCardSaid : Prop := Claim7.holds Tryz.pinned (.plain (OpenSpec.ofChange bagOnceSpec)) bagOnceCard

/-- THE TIED CARD OF 'heliographlaw15.BagKeeps'. -/
def bagKeepsCard : Claim7 := { stood := { row := bagKeepsRow, standIns := [], harness := (true, "8def18516edb9604ae6baa2356916354320bdb4935a161e9ed64203f6e4d8444"), looks := true }, kinds := [], alts := [], laidByText := true, laidKinds := [.data, .data, .data, .sentinel, .sentinel], laidTests := true, laidLooks := .later }
def BagKeepsCardSaid : Prop := Claim7.holds Tryz.pinned (.plain (OpenSpec.ofChange bagKeepsSpec)) bagKeepsCard

/-- THE TIED CARD OF 'heliographlaw15.BagClears'. -/
def bagClearsCard : Claim7 := { stood := { row := bagClearsRow, standIns := [], harness := (true, "8def18516edb9604ae6baa2356916354320bdb4935a161e9ed64203f6e4d8444"), looks := true }, kinds := [], alts := [], laidByText := true, laidKinds := [.data, .data, .data, .sentinel, .sentinel], laidTests := true, laidLooks := .later }
def BagClearsCardSaid : Prop := Claim7.holds Tryz.pinned (.plain (OpenSpec.ofChange bagClearsSpec)) bagClearsCard

/-- THE SECOND FORM's CARD OF 'heliographlaw15.BagExact'. -/
def bagExactUptoCard : Claim7 := { stood := { row := bagExactUptoRow, standIns := [], harness := (true, "8def18516edb9604ae6baa2356916354320bdb4935a161e9ed64203f6e4d8444"), looks := true }, kinds := [], alts := [], laidByText := true, laidKinds := [.data, .data, .data, .sentinel, .sentinel], laidTests := true, laidLooks := .later }
def BagExactUptoCardSaid : Prop := Claim7.holds Tryz.pinned (.plain (OpenSpec.upto bagExactSpec)) bagExactUptoCard

/-- THE SECOND FORM's CARD OF 'heliographlaw15.BagOnce'. -/
def bagOnceUptoCard : Claim7 := { stood := { row := bagOnceUptoRow, standIns := [], harness := (true, "8def18516edb9604ae6baa2356916354320bdb4935a161e9ed64203f6e4d8444"), looks := true }, kinds := [], alts := [], laidByText := true, laidKinds := [.data, .data, .data, .sentinel, .sentinel], laidTests := true, laidLooks := .later }
def BagOnceUptoCardSaid : Prop := Claim7.holds Tryz.pinned (.plain (OpenSpec.upto bagOnceSpec)) bagOnceUptoCard

/-- THE SECOND FORM's CARD OF 'heliographlaw15.BagKeeps'. -/
def bagKeepsUptoCard : Claim7 := { stood := { row := bagKeepsUptoRow, standIns := [], harness := (true, "8def18516edb9604ae6baa2356916354320bdb4935a161e9ed64203f6e4d8444"), looks := true }, kinds := [], alts := [], laidByText := true, laidKinds := [.data, .data, .data, .sentinel, .sentinel], laidTests := true, laidLooks := .later }
def BagKeepsUptoCardSaid : Prop := Claim7.holds Tryz.pinned (.plain (OpenSpec.upto bagKeepsSpec)) bagKeepsUptoCard

/-- THE SECOND FORM's CARD OF 'heliographlaw15.BagClears'. -/
def bagClearsUptoCard : Claim7 := { stood := { row := bagClearsUptoRow, standIns := [], harness := (true, "8def18516edb9604ae6baa2356916354320bdb4935a161e9ed64203f6e4d8444"), looks := true }, kinds := [], alts := [], laidByText := true, laidKinds := [.data, .data, .data, .sentinel, .sentinel], laidTests := true, laidLooks := .later }
def BagClearsUptoCardSaid : Prop := Claim7.holds Tryz.pinned (.plain (OpenSpec.upto bagClearsSpec)) bagClearsUptoCard
end Rows
end Go.Proofs.YtbljbdjmgogknaaGreatDoor
