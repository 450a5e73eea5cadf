/-
  DERIVED. GIVEN WITH THE SEED: THE CARDS: each row of YtikngajopmogcaaDoorRows.lean that lists a variable, with what it lists TIED to the program's text (the seventh form; the later family's looks); each row that meets fmt, with fmt's text TOLD by the authors' own Lean function (tested against real Go, not proved from fmt's source: count such statements apart). THE CARD IS WHAT COUNTS. Prove the row's statement (the work); the ties are given (YtikngajopmogcaaDoorTie.lean); close each card by the builder's one call (the guide's Derived/Test/ToyasCard.lean, 'card_holds'). Laid BY PROGRAM, IN A SANDBOX (cutbox-door.mjs). By AI agents, Wed Nov 11 2026. No macro, syntax, notation, axiom, sorry.
-/
import Derived.Test.YtikngajopmogcaaDoorRows
import GoSem.ClaimSeven
namespace Go.Proofs.YtikngajopmogcaaDoor
namespace Rows

/-- THE TIED CARD OF 'heliographlaw01.BeadWrites'. -/
def beadWritesCard : Claim7 := { stood := { row := beadWritesRow, standIns := [], harness := (true, "264094b6919679fc87b4c47cbf6206921946018b952799443b8c62c9cf4885d0"), looks := true }, kinds := [], alts := [], laidByText := true, laidKinds := [.data, .data, .data, .sentinel, .sentinel], laidTests := true, laidLooks := .later }
def BeadWritesCardSaid : Prop := Claim7.holds Tryd.pinned (.plain (OpenSpec.ofChange beadWritesSpec)) beadWritesCard

/-- THE TIED CARD OF 'heliographlaw01.BeadReads'. -/
def beadReadsCard : Claim7 := { stood := { row := beadReadsRow, standIns := [], harness := (true, "264094b6919679fc87b4c47cbf6206921946018b952799443b8c62c9cf4885d0"), looks := true }, kinds := [], alts := [], laidByText := true, laidKinds := [.data, .data, .data, .sentinel, .sentinel], laidTests := true, laidLooks := .later }
def BeadReadsCardSaid : Prop := Claim7.holds Tryd.pinned (.plain (OpenSpec.ofChange beadReadsSpec)) beadReadsCard

/-- THE TIED CARD OF 'heliographlaw01.BeadBack'. -/
def beadBackCard : Claim7 := { stood := { row := beadBackRow, standIns := [], harness := (true, "264094b6919679fc87b4c47cbf6206921946018b952799443b8c62c9cf4885d0"), looks := true }, kinds := [], alts := [], laidByText := true, laidKinds := [.data, .data, .data, .sentinel, .sentinel], laidTests := true, laidLooks := .later }
def BeadBackCardSaid : Prop := Claim7.holds Tryd.pinned (.plain (OpenSpec.ofChange beadBackSpec)) beadBackCard

/-- THE TIED CARD OF 'heliographlaw01.BeadOne'. -/
def beadOneCard : Claim7 := { stood := { row := beadOneRow, standIns := [], harness := (true, "264094b6919679fc87b4c47cbf6206921946018b952799443b8c62c9cf4885d0"), looks := true }, kinds := [], alts := [], laidByText := true, laidKinds := [.data, .data, .data, .sentinel, .sentinel], laidTests := true, laidLooks := .later }
def BeadOneCardSaid : Prop := Claim7.holds Tryd.pinned (.plain (OpenSpec.ofChange beadOneSpec)) beadOneCard

/-- THE TIED CARD OF 'heliographlaw01.BeadApart'. -/
def beadApartCard : Claim7 := { stood := { row := beadApartRow, standIns := [], harness := (true, "264094b6919679fc87b4c47cbf6206921946018b952799443b8c62c9cf4885d0"), looks := true }, kinds := [], alts := [], laidByText := true, laidKinds := [.data, .data, .data, .sentinel, .sentinel], laidTests := true, laidLooks := .later }
def BeadApartCardSaid : Prop := Claim7.holds Tryd.pinned (.plain (OpenSpec.ofChange beadApartSpec)) beadApartCard

/-- THE TIED CARD OF 'heliographlaw01.BeadStays'. -/
def beadStaysCard : Claim7 := { stood := { row := beadStaysRow, standIns := [], harness := (true, "264094b6919679fc87b4c47cbf6206921946018b952799443b8c62c9cf4885d0"), looks := true }, kinds := [], alts := [], laidByText := true, laidKinds := [.data, .data, .data, .sentinel, .sentinel], laidTests := true, laidLooks := .later }
def BeadStaysCardSaid : Prop := Claim7.holds Tryd.pinned (.plain (OpenSpec.ofChange beadStaysSpec)) beadStaysCard

/-- THE TIED CARD OF 'heliographlaw01.BeadCuts'. -/
def beadCutsCard : Claim7 := { stood := { row := beadCutsRow, standIns := [], harness := (true, "264094b6919679fc87b4c47cbf6206921946018b952799443b8c62c9cf4885d0"), looks := true }, kinds := [], alts := [], laidByText := true, laidKinds := [.data, .data, .data, .sentinel, .sentinel], laidTests := true, laidLooks := .later }
def BeadCutsCardSaid : Prop := Claim7.holds Tryd.pinned (.plain (OpenSpec.ofChange beadCutsSpec)) beadCutsCard

/-- THE TIED CARD OF 'heliographlaw01.BeadMost'. -/
def beadMostCard : Claim7 := { stood := { row := beadMostRow, standIns := [], harness := (true, "264094b6919679fc87b4c47cbf6206921946018b952799443b8c62c9cf4885d0"), looks := true }, kinds := [], alts := [], laidByText := true, laidKinds := [.data, .data, .data, .sentinel, .sentinel], laidTests := true, laidLooks := .later }
def BeadMostCardSaid : Prop := Claim7.holds Tryd.pinned (.plain (OpenSpec.ofChange beadMostSpec)) beadMostCard

/-- THE SECOND FORM's CARD OF 'heliographlaw01.BeadWrites'. -/
def beadWritesUptoCard : Claim7 := { stood := { row := beadWritesUptoRow, standIns := [], harness := (true, "264094b6919679fc87b4c47cbf6206921946018b952799443b8c62c9cf4885d0"), looks := true }, kinds := [], alts := [], laidByText := true, laidKinds := [.data, .data, .data, .sentinel, .sentinel], laidTests := true, laidLooks := .later }
def BeadWritesUptoCardSaid : Prop := Claim7.holds Tryd.pinned (.plain (OpenSpec.upto beadWritesSpec)) beadWritesUptoCard

/-- THE SECOND FORM's CARD OF 'heliographlaw01.BeadReads'. -/
def beadReadsUptoCard : Claim7 := { stood := { row := beadReadsUptoRow, standIns := [], harness := (true, "264094b6919679fc87b4c47cbf6206921946018b952799443b8c62c9cf4885d0"), looks := true }, kinds := [], alts := [], laidByText := true, laidKinds := [.data, .data, .data, .sentinel, .sentinel], laidTests := true, laidLooks := .later }
def BeadReadsUptoCardSaid : Prop := Claim7.holds Tryd.pinned (.plain (OpenSpec.upto beadReadsSpec)) beadReadsUptoCard

/-- THE SECOND FORM's CARD OF 'heliographlaw01.BeadBack'. -/
def beadBackUptoCard : Claim7 := { stood := { row := beadBackUptoRow, standIns := [], harness := (true, "264094b6919679fc87b4c47cbf6206921946018b952799443b8c62c9cf4885d0"), looks := true }, kinds := [], alts := [], laidByText := true, laidKinds := [.data, .data, .data, .sentinel, .sentinel], laidTests := true, laidLooks := .later }
def BeadBackUptoCardSaid : Prop := Claim7.holds Tryd.pinned (.plain (OpenSpec.upto beadBackSpec)) beadBackUptoCard

/-- THE SECOND FORM's CARD OF 'heliographlaw01.BeadOne'. -/
def beadOneUptoCard : Claim7 := { stood := { row := beadOneUptoRow, standIns := [], harness := (true, "264094b6919679fc87b4c47cbf6206921946018b952799443b8c62c9cf4885d0"), looks := true }, kinds := [], alts := [], laidByText := true, laidKinds := [.data, .data, .data, .sentinel, .sentinel], laidTests := true, laidLooks := .later }
def BeadOneUptoCardSaid : Prop := Claim7.holds Tryd.pinned (.plain (OpenSpec.upto beadOneSpec)) beadOneUptoCard

/-- THE SECOND FORM's CARD OF 'heliographlaw01.BeadApart'. -/
def beadApartUptoCard : Claim7 := { stood := { row := beadApartUptoRow, standIns := [], harness := (true, "264094b6919679fc87b4c47cbf6206921946018b952799443b8c62c9cf4885d0"), looks := true }, kinds := [], alts := [], laidByText := true, laidKinds := [.data, .data, .data, .sentinel, .sentinel], laidTests := true, laidLooks := .later }
def BeadApartUptoCardSaid : Prop := Claim7.holds Tryd.pinned (.plain (OpenSpec.upto beadApartSpec)) beadApartUptoCard

/-- THE SECOND FORM's CARD OF 'heliographlaw01.BeadStays'. -/
def beadStaysUptoCard : Claim7 := { stood := { row := beadStaysUptoRow, standIns := [], harness := (true, "264094b6919679fc87b4c47cbf6206921946018b952799443b8c62c9cf4885d0"), looks := true }, kinds := [], alts := [], laidByText := true, laidKinds := [.data, .data, .data, .sentinel, .sentinel], laidTests := true, laidLooks := .later }
def BeadStaysUptoCardSaid : Prop := Claim7.holds Tryd.pinned (.plain (OpenSpec.upto beadStaysSpec)) beadStaysUptoCard

/-- THE SECOND FORM's CARD OF 'heliographlaw01.BeadCuts'. -/
def beadCutsUptoCard : Claim7 := { stood := { row := beadCutsUptoRow, standIns := [], harness := (true, "264094b6919679fc87b4c47cbf6206921946018b952799443b8c62c9cf4885d0"), looks := true }, kinds := [], alts := [], laidByText := true, laidKinds := [.data, .data, .data, .sentinel, .sentinel], laidTests := true, laidLooks := .later }
def BeadCutsUptoCardSaid : Prop := Claim7.holds Tryd.pinned (.plain (OpenSpec.upto beadCutsSpec)) beadCutsUptoCard

/-- THE SECOND FORM's CARD OF 'heliographlaw01.BeadMost'. -/
def beadMostUptoCard : Claim7 := { stood := { row := beadMostUptoRow, standIns := [], harness := (true, "264094b6919679fc87b4c47cbf6206921946018b952799443b8c62c9cf4885d0"), looks := true }, kinds := [], alts := [], laidByText := true, laidKinds := [.data, .data, .data, .sentinel, .sentinel], laidTests := true, laidLooks := .later }
def BeadMostUptoCardSaid : Prop := Claim7.holds Tryd.pinned (.plain (OpenSpec.upto beadMostSpec)) beadMostUptoCard
end Rows
end Go.Proofs.YtikngajopmogcaaDoor
