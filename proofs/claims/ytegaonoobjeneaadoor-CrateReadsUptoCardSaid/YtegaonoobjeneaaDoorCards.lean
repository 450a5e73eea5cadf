/-
  DERIVED. GIVEN WITH THE SEED: THE CARDS: each row of YtegaonoobjeneaaDoorRows.lean that lists a variable, with what it lists TIED to the program's text (the seventh form; the later family's looks); each row that meets fmt, with fmt's text TOLD by the authors' own Lean function (tested against real Go, not proved from fmt's source: count such statements apart). THE CARD IS WHAT COUNTS. Prove the row's statement (the work); the ties are given (YtegaonoobjeneaaDoorTie.lean); close each card by the builder's one call (the guide's Derived/Test/ToyasCard.lean, 'card_holds'). Laid BY PROGRAM, IN A SANDBOX (cutbox-door.mjs). By AI agents, Wed Nov 11 2026. No macro, syntax, notation, axiom, sorry.
-/
import Derived.Test.YtegaonoobjeneaaDoorRows
import GoSem.ClaimSeven
namespace Go.Proofs.YtegaonoobjeneaaDoor
namespace Rows

/-- THE TIED CARD OF 'heliographlaw03.CrateWrites'. -/
def crateWritesCard : Claim7 := { stood := { row := crateWritesRow, standIns := [], harness := (true, "07e2c4def88c214c839906b08190360f81887af2cad4e6086450e536d3dd9528"), looks := true }, kinds := [], alts := [], laidByText := true, laidKinds := [.data, .data, .data, .sentinel, .sentinel], laidTests := true, laidLooks := .later }
def CrateWritesCardSaid : Prop := Claim7.holds Tryd.pinned (.plain (OpenSpec.ofChange crateWritesSpec)) crateWritesCard

/-- THE TIED CARD OF 'heliographlaw03.CrateReads'. -/
def crateReadsCard : Claim7 := { stood := { row := crateReadsRow, standIns := [], harness := (true, "07e2c4def88c214c839906b08190360f81887af2cad4e6086450e536d3dd9528"), looks := true }, kinds := [], alts := [], laidByText := true, laidKinds := [.data, .data, .data, .sentinel, .sentinel], laidTests := true, laidLooks := .later }
def CrateReadsCardSaid : Prop := Claim7.holds Tryd.pinned (.plain (OpenSpec.ofChange crateReadsSpec)) crateReadsCard

/-- THE TIED CARD OF 'heliographlaw03.CratePacks'. -/
def cratePacksCard : Claim7 := { stood := { row := cratePacksRow, standIns := [], harness := (true, "07e2c4def88c214c839906b08190360f81887af2cad4e6086450e536d3dd9528"), looks := true }, kinds := [], alts := [], laidByText := true, laidKinds := [.data, .data, .data, .sentinel, .sentinel], laidTests := true, laidLooks := .later }
def CratePacksCardSaid : Prop := Claim7.holds Tryd.pinned (.plain (OpenSpec.ofChange cratePacksSpec)) cratePacksCard

/-- THE TIED CARD OF 'heliographlaw03.CrateBack'. -/
def crateBackCard : Claim7 := { stood := { row := crateBackRow, standIns := [], harness := (true, "07e2c4def88c214c839906b08190360f81887af2cad4e6086450e536d3dd9528"), looks := true }, kinds := [], alts := [], laidByText := true, laidKinds := [.data, .data, .data, .sentinel, .sentinel], laidTests := true, laidLooks := .later }
def CrateBackCardSaid : Prop := Claim7.holds Tryd.pinned (.plain (OpenSpec.ofChange crateBackSpec)) crateBackCard

/-- THE TIED CARD OF 'heliographlaw03.CrateKeeps'. -/
def crateKeepsCard : Claim7 := { stood := { row := crateKeepsRow, standIns := [], harness := (true, "07e2c4def88c214c839906b08190360f81887af2cad4e6086450e536d3dd9528"), looks := true }, kinds := [], alts := [], laidByText := true, laidKinds := [.data, .data, .data, .sentinel, .sentinel], laidTests := true, laidLooks := .later }
def CrateKeepsCardSaid : Prop := Claim7.holds Tryd.pinned (.plain (OpenSpec.ofChange crateKeepsSpec)) crateKeepsCard

/-- THE TIED CARD OF 'heliographlaw03.CrateLess'. -/
def crateLessCard : Claim7 := { stood := { row := crateLessRow, standIns := [], harness := (true, "07e2c4def88c214c839906b08190360f81887af2cad4e6086450e536d3dd9528"), looks := true }, kinds := [], alts := [], laidByText := true, laidKinds := [.data, .data, .data, .sentinel, .sentinel], laidTests := true, laidLooks := .later }
def CrateLessCardSaid : Prop := Claim7.holds Tryd.pinned (.plain (OpenSpec.ofChange crateLessSpec)) crateLessCard

/-- THE TIED CARD OF 'heliographlaw03.CrateSame'. -/
def crateSameCard : Claim7 := { stood := { row := crateSameRow, standIns := [], harness := (true, "07e2c4def88c214c839906b08190360f81887af2cad4e6086450e536d3dd9528"), looks := true }, kinds := [], alts := [], laidByText := true, laidKinds := [.data, .data, .data, .sentinel, .sentinel], laidTests := true, laidLooks := .later }
def CrateSameCardSaid : Prop := Claim7.holds Tryd.pinned (.plain (OpenSpec.ofChange crateSameSpec)) crateSameCard

/-- THE TIED CARD OF 'heliographlaw03.CrateShort'. -/
def crateShortCard : Claim7 := { stood := { row := crateShortRow, standIns := [], harness := (true, "07e2c4def88c214c839906b08190360f81887af2cad4e6086450e536d3dd9528"), looks := true }, kinds := [], alts := [], laidByText := true, laidKinds := [.data, .data, .data, .sentinel, .sentinel], laidTests := true, laidLooks := .later }
def CrateShortCardSaid : Prop := Claim7.holds Tryd.pinned (.plain (OpenSpec.ofChange crateShortSpec)) crateShortCard

/-- THE SECOND FORM's CARD OF 'heliographlaw03.CrateWrites'. -/
def crateWritesUptoCard : Claim7 := { stood := { row := crateWritesUptoRow, standIns := [], harness := (true, "07e2c4def88c214c839906b08190360f81887af2cad4e6086450e536d3dd9528"), looks := true }, kinds := [], alts := [], laidByText := true, laidKinds := [.data, .data, .data, .sentinel, .sentinel], laidTests := true, laidLooks := .later }
def CrateWritesUptoCardSaid : Prop := Claim7.holds Tryd.pinned (.plain (OpenSpec.upto crateWritesSpec)) crateWritesUptoCard

/-- THE SECOND FORM's CARD OF 'heliographlaw03.CrateReads'. -/
def crateReadsUptoCard : Claim7 := { stood := { row := crateReadsUptoRow, standIns := [], harness := (true, "07e2c4def88c214c839906b08190360f81887af2cad4e6086450e536d3dd9528"), looks := true }, kinds := [], alts := [], laidByText := true, laidKinds := [.data, .data, .data, .sentinel, .sentinel], laidTests := true, laidLooks := .later }
def CrateReadsUptoCardSaid : Prop := Claim7.holds Tryd.pinned (.plain (OpenSpec.upto crateReadsSpec)) crateReadsUptoCard

/-- THE SECOND FORM's CARD OF 'heliographlaw03.CratePacks'. -/
def cratePacksUptoCard : Claim7 := { stood := { row := cratePacksUptoRow, standIns := [], harness := (true, "07e2c4def88c214c839906b08190360f81887af2cad4e6086450e536d3dd9528"), looks := true }, kinds := [], alts := [], laidByText := true, laidKinds := [.data, .data, .data, .sentinel, .sentinel], laidTests := true, laidLooks := .later }
def CratePacksUptoCardSaid : Prop := Claim7.holds Tryd.pinned (.plain (OpenSpec.upto cratePacksSpec)) cratePacksUptoCard

/-- THE SECOND FORM's CARD OF 'heliographlaw03.CrateBack'. -/
def crateBackUptoCard : Claim7 := { stood := { row := crateBackUptoRow, standIns := [], harness := (true, "07e2c4def88c214c839906b08190360f81887af2cad4e6086450e536d3dd9528"), looks := true }, kinds := [], alts := [], laidByText := true, laidKinds := [.data, .data, .data, .sentinel, .sentinel], laidTests := true, laidLooks := .later }
def CrateBackUptoCardSaid : Prop := Claim7.holds Tryd.pinned (.plain (OpenSpec.upto crateBackSpec)) crateBackUptoCard

/-- THE SECOND FORM's CARD OF 'heliographlaw03.CrateKeeps'. -/
def crateKeepsUptoCard : Claim7 := { stood := { row := crateKeepsUptoRow, standIns := [], harness := (true, "07e2c4def88c214c839906b08190360f81887af2cad4e6086450e536d3dd9528"), looks := true }, kinds := [], alts := [], laidByText := true, laidKinds := [.data, .data, .data, .sentinel, .sentinel], laidTests := true, laidLooks := .later }
def CrateKeepsUptoCardSaid : Prop := Claim7.holds Tryd.pinned (.plain (OpenSpec.upto crateKeepsSpec)) crateKeepsUptoCard

/-- THE SECOND FORM's CARD OF 'heliographlaw03.CrateLess'. -/
def crateLessUptoCard : Claim7 := { stood := { row := crateLessUptoRow, standIns := [], harness := (true, "07e2c4def88c214c839906b08190360f81887af2cad4e6086450e536d3dd9528"), looks := true }, kinds := [], alts := [], laidByText := true, laidKinds := [.data, .data, .data, .sentinel, .sentinel], laidTests := true, laidLooks := .later }
def CrateLessUptoCardSaid : Prop := Claim7.holds Tryd.pinned (.plain (OpenSpec.upto crateLessSpec)) crateLessUptoCard

/-- THE SECOND FORM's CARD OF 'heliographlaw03.CrateSame'. -/
def crateSameUptoCard : Claim7 := { stood := { row := crateSameUptoRow, standIns := [], harness := (true, "07e2c4def88c214c839906b08190360f81887af2cad4e6086450e536d3dd9528"), looks := true }, kinds := [], alts := [], laidByText := true, laidKinds := [.data, .data, .data, .sentinel, .sentinel], laidTests := true, laidLooks := .later }
def CrateSameUptoCardSaid : Prop := Claim7.holds Tryd.pinned (.plain (OpenSpec.upto crateSameSpec)) crateSameUptoCard

/-- THE SECOND FORM's CARD OF 'heliographlaw03.CrateShort'. -/
def crateShortUptoCard : Claim7 := { stood := { row := crateShortUptoRow, standIns := [], harness := (true, "07e2c4def88c214c839906b08190360f81887af2cad4e6086450e536d3dd9528"), looks := true }, kinds := [], alts := [], laidByText := true, laidKinds := [.data, .data, .data, .sentinel, .sentinel], laidTests := true, laidLooks := .later }
def CrateShortUptoCardSaid : Prop := Claim7.holds Tryd.pinned (.plain (OpenSpec.upto crateShortSpec)) crateShortUptoCard
end Rows
end Go.Proofs.YtegaonoobjeneaaDoor
