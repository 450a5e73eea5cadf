/-
  DERIVED. GIVEN WITH THE SEED: THE CARDS: each row of YtjfpbeccpcbpcaaGreatDoorRows.lean that lists a variable, with what it lists TIED to the program's text (the seventh form; the later family's looks); each row that meets fmt, with fmt's text TOLD by the authors' own Lean function (tested against real Go, not proved from fmt's source: count such statements apart). THE CARD IS WHAT COUNTS. Prove the row's statement (the work); the ties are given (YtjfpbeccpcbpcaaGreatDoorTie.lean); close each card by the builder's one call (the guide's Derived/Test/ToyasCard.lean, 'card_holds'). Laid BY PROGRAM, IN A SANDBOX (cutbox-door.mjs). By AI agents, Wed Nov 11 2026. No macro, syntax, notation, axiom, sorry.
-/
import Derived.Test.YtjfpbeccpcbpcaaGreatDoorRows
import GoSem.ClaimSeven
namespace Go.Proofs.YtjfpbeccpcbpcaaGreatDoor
namespace Rows

/-- THE TIED CARD OF 'heliographlaw14.WireWrites'. -/
def wireWritesCard : Claim7 := { stood := { row := wireWritesRow, standIns := [], harness := (true, "dc2ce8052a72daacb1f1a62920b9c97d4b407cc8f1377c6fcc0880df3da5658d"), looks := true }, kinds := [], alts := [], laidByText := true, laidKinds := [.data, .data, .data, .sentinel, .sentinel], laidTests := true, laidLooks := .later }
def WireWritesCardSaid : Prop := Claim7.holds Tryz.pinned (.plain (OpenSpec.ofChange wireWritesSpec)) wireWritesCard

/-- THE TIED CARD OF 'heliographlaw14.WireReads'. -/
def wireReadsCard : Claim7 := { stood := { row := wireReadsRow, standIns := [], harness := (true, "dc2ce8052a72daacb1f1a62920b9c97d4b407cc8f1377c6fcc0880df3da5658d"), looks := true }, kinds := [], alts := [], laidByText := true, laidKinds := [.data, .data, .data, .sentinel, .sentinel], laidTests := true, laidLooks := .later }
def WireReadsCardSaid : Prop := Claim7.holds Tryz.pinned (.plain (OpenSpec.ofChange wireReadsSpec)) wireReadsCard

/-- THE TIED CARD OF 'heliographlaw14.WireBack'. -/
def wireBackCard : Claim7 := { stood := { row := wireBackRow, standIns := [], harness := (true, "dc2ce8052a72daacb1f1a62920b9c97d4b407cc8f1377c6fcc0880df3da5658d"), looks := true }, kinds := [], alts := [], laidByText := true, laidKinds := [.data, .data, .data, .sentinel, .sentinel], laidTests := true, laidLooks := .later }
def WireBackCardSaid : Prop := Claim7.holds Tryz.pinned (.plain (OpenSpec.ofChange wireBackSpec)) wireBackCard

/-- THE TIED CARD OF 'heliographlaw14.WireForms'. -/
def wireFormsCard : Claim7 := { stood := { row := wireFormsRow, standIns := [], harness := (true, "dc2ce8052a72daacb1f1a62920b9c97d4b407cc8f1377c6fcc0880df3da5658d"), looks := true }, kinds := [], alts := [], laidByText := true, laidKinds := [.data, .data, .data, .sentinel, .sentinel], laidTests := true, laidLooks := .later }
def WireFormsCardSaid : Prop := Claim7.holds Tryz.pinned (.plain (OpenSpec.ofChange wireFormsSpec)) wireFormsCard

/-- THE TIED CARD OF 'heliographlaw14.WireTells'. -/
def wireTellsCard : Claim7 := { stood := { row := wireTellsRow, standIns := [], harness := (true, "dc2ce8052a72daacb1f1a62920b9c97d4b407cc8f1377c6fcc0880df3da5658d"), looks := true }, kinds := [], alts := [], laidByText := true, laidKinds := [.data, .data, .data, .sentinel, .sentinel], laidTests := true, laidLooks := .later }
def WireTellsCardSaid : Prop := Claim7.holds Tryz.pinned (.plain (OpenSpec.ofChange wireTellsSpec)) wireTellsCard

/-- THE TIED CARD OF 'heliographlaw14.WireFits'. -/
def wireFitsCard : Claim7 := { stood := { row := wireFitsRow, standIns := [], harness := (true, "dc2ce8052a72daacb1f1a62920b9c97d4b407cc8f1377c6fcc0880df3da5658d"), looks := true }, kinds := [], alts := [], laidByText := true, laidKinds := [.data, .data, .data, .sentinel, .sentinel], laidTests := true, laidLooks := .later }
def WireFitsCardSaid : Prop := Claim7.holds Tryz.pinned (.plain (OpenSpec.ofChange wireFitsSpec)) wireFitsCard

/-- THE SECOND FORM's CARD OF 'heliographlaw14.WireWrites'. -/
def wireWritesUptoCard : Claim7 := { stood := { row := wireWritesUptoRow, standIns := [], harness := (true, "dc2ce8052a72daacb1f1a62920b9c97d4b407cc8f1377c6fcc0880df3da5658d"), looks := true }, kinds := [], alts := [], laidByText := true, laidKinds := [.data, .data, .data, .sentinel, .sentinel], laidTests := true, laidLooks := .later }
def WireWritesUptoCardSaid : Prop := Claim7.holds Tryz.pinned (.plain (OpenSpec.upto wireWritesSpec)) wireWritesUptoCard

/-- THE SECOND FORM's CARD OF 'heliographlaw14.WireReads'. -/
def wireReadsUptoCard : Claim7 := { stood := { row := wireReadsUptoRow, standIns := [], harness := (true, "dc2ce8052a72daacb1f1a62920b9c97d4b407cc8f1377c6fcc0880df3da5658d"), looks := true }, kinds := [], alts := [], laidByText := true, laidKinds := [.data, .data, .data, .sentinel, .sentinel], laidTests := true, laidLooks := .later }
def WireReadsUptoCardSaid : Prop := Claim7.holds Tryz.pinned (.plain (OpenSpec.upto wireReadsSpec)) wireReadsUptoCard

/-- THE SECOND FORM's CARD OF 'heliographlaw14.WireBack'. -/
def wireBackUptoCard : Claim7 := { stood := { row := wireBackUptoRow, standIns := [], harness := (true, "dc2ce8052a72daacb1f1a62920b9c97d4b407cc8f1377c6fcc0880df3da5658d"), looks := true }, kinds := [], alts := [], laidByText := true, laidKinds := [.data, .data, .data, .sentinel, .sentinel], laidTests := true, laidLooks := .later }
def WireBackUptoCardSaid : Prop := Claim7.holds Tryz.pinned (.plain (OpenSpec.upto wireBackSpec)) wireBackUptoCard

/-- THE SECOND FORM's CARD OF 'heliographlaw14.WireForms'. -/
def wireFormsUptoCard : Claim7 := { stood := { row := wireFormsUptoRow, standIns := [], harness := (true, "dc2ce8052a72daacb1f1a62920b9c97d4b407cc8f1377c6fcc0880df3da5658d"), looks := true }, kinds := [], alts := [], laidByText := true, laidKinds := [.data, .data, .data, .sentinel, .sentinel], laidTests := true, laidLooks := .later }
def WireFormsUptoCardSaid : Prop := Claim7.holds Tryz.pinned (.plain (OpenSpec.upto wireFormsSpec)) wireFormsUptoCard

/-- THE SECOND FORM's CARD OF 'heliographlaw14.WireTells'. -/
def wireTellsUptoCard : Claim7 := { stood := { row := wireTellsUptoRow, standIns := [], harness := (true, "dc2ce8052a72daacb1f1a62920b9c97d4b407cc8f1377c6fcc0880df3da5658d"), looks := true }, kinds := [], alts := [], laidByText := true, laidKinds := [.data, .data, .data, .sentinel, .sentinel], laidTests := true, laidLooks := .later }
def WireTellsUptoCardSaid : Prop := Claim7.holds Tryz.pinned (.plain (OpenSpec.upto wireTellsSpec)) wireTellsUptoCard

/-- THE SECOND FORM's CARD OF 'heliographlaw14.WireFits'. -/
def wireFitsUptoCard : Claim7 := { stood := { row := wireFitsUptoRow, standIns := [], harness := (true, "dc2ce8052a72daacb1f1a62920b9c97d4b407cc8f1377c6fcc0880df3da5658d"), looks := true }, kinds := [], alts := [], laidByText := true, laidKinds := [.data, .data, .data, .sentinel, .sentinel], laidTests := true, laidLooks := .later }
def WireFitsUptoCardSaid : Prop := Claim7.holds Tryz.pinned (.plain (OpenSpec.upto wireFitsSpec)) wireFitsUptoCard
end Rows
end Go.Proofs.YtjfpbeccpcbpcaaGreatDoor
