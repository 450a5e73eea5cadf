/-
  No cell of these rows narrows 'for every input' (looked for: loops, veiled, ifaces, maps, wideKeys, modest, calm, conditions, laid).
  DERIVED. THE GIVEN ROWS OF THIS SEAT. 5 by the template 'for every input the law returns true; each argument reads behind the call as it read before'; 0 by the template 'total and deterministic' (their statements: YtohimlahncbpjaaTotals.lean).
  GIVEN WITH THE SEED: the statements are not yours to turn. If you find one false, say at which input.
  Laid BY PROGRAM, IN A SANDBOX (cutbox-rows.mjs): the forced cells as the released guide's own fill.sh prints them over the translation d38b86d975ec7fd9… (all of the seat's roots in one cut). By AI agents, Wed Nov 11 2026. No macro, syntax, notation, axiom, sorry.
-/
import Derived.Test.YtohimlahncbpjaaChecked
import GoSem.Claim
import GoSem.ClaimJoined
import GoSem.ClaimMapViews
import Derived.JoinedTies
import Derived.KernelRfl
namespace Go.Proofs.Ytohimlahncbpjaa
/- THE CELL 'sum', in the pinned program and in every row, IS THE sha256 OF THE DUMP (.gsa) THAT YtohimlahncbpjaaProg.lean LOADS. Nothing in Lean hashes anything: it is a label: what it is worth is what the hold of that sum in a sandbox is worth. -/
noncomputable def Try.pinned : Pinned := { name := "ytohimlahncbpjaa", sum := "d38b86d975ec7fd927dde0c56dbd364f35a6121d91a9171d41f484afd0d0c5ea", checked := Try.checked }
namespace Rows
def none {H : Type} : Left H := { results := [], args := [] }

/-- 'heliographlaw05.TapeFull': WHATEVER THE INPUT: true; the input reads as it did. -/
def tapeFullSpec : ChangeSpec := { name := "tapeFull", fn := fun _ => fun
  | [d1, d2] => { results := [.lit (.bool true)], args := [d1, d2] }
  | _ => none }
def tapeFullRow : OpenClaim := { program := "ytohimlahncbpjaa", sum := "d38b86d975ec7fd927dde0c56dbd364f35a6121d91a9171d41f484afd0d0c5ea", func := "heliograph/heliographlaw05.TapeFull", spec := "tapeFull", unfollowed := true, recurses := true, apart := false }
def TapeFullSaid : Prop := tapeFullRow.holds Try.pinned (OpenSpec.ofChange tapeFullSpec)

/-- ITS FALSE NEIGHBOUR: 'it returns false'. Refute it at one input. -/
def tapeFullWrong : ChangeSpec := { name := "tapeFull", fn := fun _ => fun
  | [d1, d2] => { results := [.lit (.bool false)], args := [d1, d2] }
  | _ => none }
def TapeFullWrongFalsely : Prop := tapeFullRow.holds Try.pinned (OpenSpec.ofChange tapeFullWrong)

/-- 'heliographlaw05.TapeAgain': WHATEVER THE INPUT: true; the input reads as it did. -/
def tapeAgainSpec : ChangeSpec := { name := "tapeAgain", fn := fun _ => fun
  | [d1, d2, d3] => { results := [.lit (.bool true)], args := [d1, d2, d3] }
  | _ => none }
def tapeAgainRow : OpenClaim := { program := "ytohimlahncbpjaa", sum := "d38b86d975ec7fd927dde0c56dbd364f35a6121d91a9171d41f484afd0d0c5ea", func := "heliograph/heliographlaw05.TapeAgain", spec := "tapeAgain", unfollowed := true, recurses := true, apart := false }
def TapeAgainSaid : Prop := tapeAgainRow.holds Try.pinned (OpenSpec.ofChange tapeAgainSpec)

/-- ITS FALSE NEIGHBOUR: 'it returns false'. Refute it at one input. -/
def tapeAgainWrong : ChangeSpec := { name := "tapeAgain", fn := fun _ => fun
  | [d1, d2, d3] => { results := [.lit (.bool false)], args := [d1, d2, d3] }
  | _ => none }
def TapeAgainWrongFalsely : Prop := tapeAgainRow.holds Try.pinned (OpenSpec.ofChange tapeAgainWrong)

/-- 'heliographlaw05.TapeKeeps': WHATEVER THE INPUT: true; the input reads as it did. -/
def tapeKeepsSpec : ChangeSpec := { name := "tapeKeeps", fn := fun _ => fun
  | [d1, d2, d3] => { results := [.lit (.bool true)], args := [d1, d2, d3] }
  | _ => none }
def tapeKeepsRow : OpenClaim := { program := "ytohimlahncbpjaa", sum := "d38b86d975ec7fd927dde0c56dbd364f35a6121d91a9171d41f484afd0d0c5ea", func := "heliograph/heliographlaw05.TapeKeeps", spec := "tapeKeeps", unfollowed := true, recurses := true, apart := false }
def TapeKeepsSaid : Prop := tapeKeepsRow.holds Try.pinned (OpenSpec.ofChange tapeKeepsSpec)

/-- ITS FALSE NEIGHBOUR: 'it returns false'. Refute it at one input. -/
def tapeKeepsWrong : ChangeSpec := { name := "tapeKeeps", fn := fun _ => fun
  | [d1, d2, d3] => { results := [.lit (.bool false)], args := [d1, d2, d3] }
  | _ => none }
def TapeKeepsWrongFalsely : Prop := tapeKeepsRow.holds Try.pinned (OpenSpec.ofChange tapeKeepsWrong)

/-- 'heliographlaw05.TapeArms': WHATEVER THE INPUT: true; the input reads as it did. -/
def tapeArmsSpec : ChangeSpec := { name := "tapeArms", fn := fun _ => fun
  | [d1, d2] => { results := [.lit (.bool true)], args := [d1, d2] }
  | _ => none }
def tapeArmsRow : OpenClaim := { program := "ytohimlahncbpjaa", sum := "d38b86d975ec7fd927dde0c56dbd364f35a6121d91a9171d41f484afd0d0c5ea", func := "heliograph/heliographlaw05.TapeArms", spec := "tapeArms", unfollowed := true, recurses := true, apart := false }
def TapeArmsSaid : Prop := tapeArmsRow.holds Try.pinned (OpenSpec.ofChange tapeArmsSpec)

/-- ITS FALSE NEIGHBOUR: 'it returns false'. Refute it at one input. -/
def tapeArmsWrong : ChangeSpec := { name := "tapeArms", fn := fun _ => fun
  | [d1, d2] => { results := [.lit (.bool false)], args := [d1, d2] }
  | _ => none }
def TapeArmsWrongFalsely : Prop := tapeArmsRow.holds Try.pinned (OpenSpec.ofChange tapeArmsWrong)

/-- 'heliographlaw05.TapeSwaps': WHATEVER THE INPUT: true; the input reads as it did. -/
def tapeSwapsSpec : ChangeSpec := { name := "tapeSwaps", fn := fun _ => fun
  | [d1, d2, d3] => { results := [.lit (.bool true)], args := [d1, d2, d3] }
  | _ => none }
def tapeSwapsRow : OpenClaim := { program := "ytohimlahncbpjaa", sum := "d38b86d975ec7fd927dde0c56dbd364f35a6121d91a9171d41f484afd0d0c5ea", func := "heliograph/heliographlaw05.TapeSwaps", spec := "tapeSwaps", unfollowed := true, recurses := true, apart := false }
def TapeSwapsSaid : Prop := tapeSwapsRow.holds Try.pinned (OpenSpec.ofChange tapeSwapsSpec)

/-- ITS FALSE NEIGHBOUR: 'it returns false'. Refute it at one input. -/
def tapeSwapsWrong : ChangeSpec := { name := "tapeSwaps", fn := fun _ => fun
  | [d1, d2, d3] => { results := [.lit (.bool false)], args := [d1, d2, d3] }
  | _ => none }
def TapeSwapsWrongFalsely : Prop := tapeSwapsRow.holds Try.pinned (OpenSpec.ofChange tapeSwapsWrong)

/- THE SECOND FORM. 'bulk': how many values and letters a reading holds, each counted each time it is reached (what is shared counts as often as it is met; a slice's spare places count too). A statement '..UptoSaid' is the law's where the arguments, and the package variables that the reading takes, are together of bulk at most 1048576: NARROWER than '..Said'. Prove '..Said' where nothing that the law and all that it calls make is longer than what came in: it says more and counts as full. Else prove '..UptoSaid'. A law counts once. -/
mutual
def uptoBulk {H : Type} : DataW H → Nat
  | .lit (.string bytes) => bytes.length + 1
  | .lit _ => 1
  | .nil => 1
  | .ptr d => uptoBulk d + 1
  | .slice elems spare => uptoBulkAll elems + uptoBulkAll spare + 1
  | .agg parts => uptoBulkAll parts + 1
  | .iface _ d => uptoBulk d + 1
  | .map entries => uptoBulkEntries entries + 1
  | .held _ => 1
def uptoBulkAll {H : Type} : List (DataW H) → Nat
  | [] => 0
  | d :: r => uptoBulk d + uptoBulkAll r
def uptoBulkEntries {H : Type} : List (Lit × DataW H) → Nat
  | [] => 0
  | x :: r => uptoBulkEntry x + uptoBulkEntries r
def uptoBulkEntry {H : Type} : Lit × DataW H → Nat
  | (.string bytes, d) => bytes.length + uptoBulk d + 1
  | (_, d) => uptoBulk d + 1
 end
def uptoSmall : (H : Type) → List (DataW H) → Bool := fun _ ds => decide (uptoBulkAll ds ≤ 1048576)
def OpenSpec.upto (s : _root_.Go.ChangeSpec) : _root_.Go.OpenSpec := { _root_.Go.OpenSpec.ofChange s with cond := some uptoSmall }

/-- 'heliographlaw05.TapeFull', WHERE WHAT IT READS IS OF BULK AT MOST 1048576: true; the input reads as it did. -/
def tapeFullUptoRow : OpenClaim := { program := "ytohimlahncbpjaa", sum := "d38b86d975ec7fd927dde0c56dbd364f35a6121d91a9171d41f484afd0d0c5ea", func := "heliograph/heliographlaw05.TapeFull", spec := "tapeFull", unfollowed := true, recurses := true, apart := false, narrowed := true }
def TapeFullUptoSaid : Prop := tapeFullUptoRow.holds Try.pinned (OpenSpec.upto tapeFullSpec)

/-- 'heliographlaw05.TapeAgain', WHERE WHAT IT READS IS OF BULK AT MOST 1048576: true; the input reads as it did. -/
def tapeAgainUptoRow : OpenClaim := { program := "ytohimlahncbpjaa", sum := "d38b86d975ec7fd927dde0c56dbd364f35a6121d91a9171d41f484afd0d0c5ea", func := "heliograph/heliographlaw05.TapeAgain", spec := "tapeAgain", unfollowed := true, recurses := true, apart := false, narrowed := true }
def TapeAgainUptoSaid : Prop := tapeAgainUptoRow.holds Try.pinned (OpenSpec.upto tapeAgainSpec)

/-- 'heliographlaw05.TapeKeeps', WHERE WHAT IT READS IS OF BULK AT MOST 1048576: true; the input reads as it did. -/
def tapeKeepsUptoRow : OpenClaim := { program := "ytohimlahncbpjaa", sum := "d38b86d975ec7fd927dde0c56dbd364f35a6121d91a9171d41f484afd0d0c5ea", func := "heliograph/heliographlaw05.TapeKeeps", spec := "tapeKeeps", unfollowed := true, recurses := true, apart := false, narrowed := true }
def TapeKeepsUptoSaid : Prop := tapeKeepsUptoRow.holds Try.pinned (OpenSpec.upto tapeKeepsSpec)

/-- 'heliographlaw05.TapeArms', WHERE WHAT IT READS IS OF BULK AT MOST 1048576: true; the input reads as it did. -/
def tapeArmsUptoRow : OpenClaim := { program := "ytohimlahncbpjaa", sum := "d38b86d975ec7fd927dde0c56dbd364f35a6121d91a9171d41f484afd0d0c5ea", func := "heliograph/heliographlaw05.TapeArms", spec := "tapeArms", unfollowed := true, recurses := true, apart := false, narrowed := true }
def TapeArmsUptoSaid : Prop := tapeArmsUptoRow.holds Try.pinned (OpenSpec.upto tapeArmsSpec)

/-- 'heliographlaw05.TapeSwaps', WHERE WHAT IT READS IS OF BULK AT MOST 1048576: true; the input reads as it did. -/
def tapeSwapsUptoRow : OpenClaim := { program := "ytohimlahncbpjaa", sum := "d38b86d975ec7fd927dde0c56dbd364f35a6121d91a9171d41f484afd0d0c5ea", func := "heliograph/heliographlaw05.TapeSwaps", spec := "tapeSwaps", unfollowed := true, recurses := true, apart := false, narrowed := true }
def TapeSwapsUptoSaid : Prop := tapeSwapsUptoRow.holds Try.pinned (OpenSpec.upto tapeSwapsSpec)

end Rows
end Go.Proofs.Ytohimlahncbpjaa
