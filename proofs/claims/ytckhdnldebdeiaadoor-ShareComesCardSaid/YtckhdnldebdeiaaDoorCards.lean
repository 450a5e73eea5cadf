/-
  DERIVED. GIVEN WITH THE SEED: THE CARDS: each row of YtckhdnldebdeiaaDoorRows.lean that lists a variable, with what it lists TIED to the program's text (the seventh form; the later family's looks); each row that meets fmt, with fmt's text TOLD by the authors' own Lean function (tested against real Go, not proved from fmt's source: count such statements apart). THE CARD IS WHAT COUNTS. Prove the row's statement (the work); the ties are given (YtckhdnldebdeiaaDoorTie.lean); close each card by the builder's one call (the guide's Derived/Test/ToyasCard.lean, 'card_holds'). Laid BY PROGRAM, IN A SANDBOX (cutbox-door.mjs). By AI agents, Wed Nov 11 2026. No macro, syntax, notation, axiom, sorry.
-/
import Derived.Test.YtckhdnldebdeiaaDoorRows
import GoSem.ClaimSeven
namespace Go.Proofs.YtckhdnldebdeiaaDoor
namespace Rows

/-- THE TIED CARD OF 'heliographlaw10.ShareFair'. -/
def shareFairCard : Claim7 := { stood := { row := shareFairRow, standIns := [], harness := (true, "ade65fa840e0028a1d280e990e70bf8e37acec525cc68c75e01981129baa08e0"), looks := false }, kinds := [], alts := [], laidByText := true, laidKinds := [.data, .pinned], laidTests := true, laidLooks := .later }
def ShareFairCardSaid : Prop := Claim7.holds Tryd.pinned (.plain (OpenSpec.ofChange shareFairSpec)) shareFairCard

/-- THE TIED CARD OF 'heliographlaw10.ShareNobody'. -/
def shareNobodyCard : Claim7 := { stood := { row := shareNobodyRow, standIns := [], harness := (true, "ade65fa840e0028a1d280e990e70bf8e37acec525cc68c75e01981129baa08e0"), looks := false }, kinds := [], alts := [], laidByText := true, laidKinds := [.data, .pinned], laidTests := true, laidLooks := .later }
def ShareNobodyCardSaid : Prop := Claim7.holds Tryd.pinned (.plain (OpenSpec.ofChange shareNobodySpec)) shareNobodyCard

/-- THE TIED CARD OF 'heliographlaw10.ShareComes'. -/
def shareComesCard : Claim7 := { stood := { row := shareComesRow, standIns := [], harness := (true, "ade65fa840e0028a1d280e990e70bf8e37acec525cc68c75e01981129baa08e0"), looks := false }, kinds := [], alts := [], laidByText := true, laidKinds := [.data, .pinned], laidTests := true, laidLooks := .later }
def ShareComesCardSaid : Prop := Claim7.holds Tryd.pinned (.plain (OpenSpec.ofChange shareComesSpec)) shareComesCard

/-- THE SECOND FORM's CARD OF 'heliographlaw10.ShareFair'. -/
def shareFairUptoCard : Claim7 := { stood := { row := shareFairUptoRow, standIns := [], harness := (true, "ade65fa840e0028a1d280e990e70bf8e37acec525cc68c75e01981129baa08e0"), looks := false }, kinds := [], alts := [], laidByText := true, laidKinds := [.data, .pinned], laidTests := true, laidLooks := .later }
def ShareFairUptoCardSaid : Prop := Claim7.holds Tryd.pinned (.plain (OpenSpec.upto shareFairSpec)) shareFairUptoCard

/-- THE SECOND FORM's CARD OF 'heliographlaw10.ShareNobody'. -/
def shareNobodyUptoCard : Claim7 := { stood := { row := shareNobodyUptoRow, standIns := [], harness := (true, "ade65fa840e0028a1d280e990e70bf8e37acec525cc68c75e01981129baa08e0"), looks := false }, kinds := [], alts := [], laidByText := true, laidKinds := [.data, .pinned], laidTests := true, laidLooks := .later }
def ShareNobodyUptoCardSaid : Prop := Claim7.holds Tryd.pinned (.plain (OpenSpec.upto shareNobodySpec)) shareNobodyUptoCard

/-- THE SECOND FORM's CARD OF 'heliographlaw10.ShareComes'. -/
def shareComesUptoCard : Claim7 := { stood := { row := shareComesUptoRow, standIns := [], harness := (true, "ade65fa840e0028a1d280e990e70bf8e37acec525cc68c75e01981129baa08e0"), looks := false }, kinds := [], alts := [], laidByText := true, laidKinds := [.data, .pinned], laidTests := true, laidLooks := .later }
def ShareComesUptoCardSaid : Prop := Claim7.holds Tryd.pinned (.plain (OpenSpec.upto shareComesSpec)) shareComesUptoCard
end Rows
end Go.Proofs.YtckhdnldebdeiaaDoor
