/-
  No cell of these rows narrows 'for every input' (looked for: loops, veiled, ifaces, maps, wideKeys, modest, calm, conditions, laid).
  DERIVED. THE GIVEN ROWS OF THIS SEAT. 7 by the template 'for every input the law returns true; each argument reads behind the call as it read before'; 0 by the template 'total and deterministic' (their statements: YtccndbifnbmddaaTotals.lean).
  GIVEN WITH THE SEED: the statements are not yours to turn. If you find one false, say at which input.
  Laid BY PROGRAM, IN A SANDBOX (cutbox-rows.mjs): the forced cells as the released guide's own fill.sh prints them over the translation a7c685b4dc98f244… (all of the seat's roots in one cut). By AI agents, Wed Nov 11 2026. No macro, syntax, notation, axiom, sorry.
-/
import Derived.Test.YtccndbifnbmddaaChecked
import GoSem.Claim
import GoSem.ClaimJoined
import GoSem.ClaimMapViews
import Derived.JoinedTies
import Derived.KernelRfl
namespace Go.Proofs.Ytccndbifnbmddaa
/- THE CELL 'sum', in the pinned program and in every row, IS THE sha256 OF THE DUMP (.gsa) THAT YtccndbifnbmddaaProg.lean LOADS. Nothing in Lean hashes anything: it is a label: what it is worth is what the hold of that sum in a sandbox is worth. -/
noncomputable def Try.pinned : Pinned := { name := "ytccndbifnbmddaa", sum := "a7c685b4dc98f244cba270594c46c9040757c6b6e6acca7907b8fe86af887873", checked := Try.checked }
namespace Rows
def none {H : Type} : Left H := { results := [], args := [] }

/-- 'heliographlaw08.WeedExact': WHATEVER THE INPUT: true; the input reads as it did. -/
def weedExactSpec : ChangeSpec := { name := "weedExact", fn := fun _ => fun
  | [d1, d2, d3] => { results := [.lit (.bool true)], args := [d1, d2, d3] }
  | _ => none }
def weedExactRow : OpenClaim := { program := "ytccndbifnbmddaa", sum := "a7c685b4dc98f244cba270594c46c9040757c6b6e6acca7907b8fe86af887873", func := "heliograph/heliographlaw08.WeedExact", spec := "weedExact", unfollowed := true, recurses := true, apart := false }
def WeedExactSaid : Prop := weedExactRow.holds Try.pinned (OpenSpec.ofChange weedExactSpec)

/-- ITS FALSE NEIGHBOUR: 'it returns false'. Refute it at one input. -/
def weedExactWrong : ChangeSpec := { name := "weedExact", fn := fun _ => fun
  | [d1, d2, d3] => { results := [.lit (.bool false)], args := [d1, d2, d3] }
  | _ => none }
def WeedExactWrongFalsely : Prop := weedExactRow.holds Try.pinned (OpenSpec.ofChange weedExactWrong)

/-- 'heliographlaw08.WeedOld': WHATEVER THE INPUT: true; the input reads as it did. -/
def weedOldSpec : ChangeSpec := { name := "weedOld", fn := fun _ => fun
  | [d1, d2, d3] => { results := [.lit (.bool true)], args := [d1, d2, d3] }
  | _ => none }
def weedOldRow : OpenClaim := { program := "ytccndbifnbmddaa", sum := "a7c685b4dc98f244cba270594c46c9040757c6b6e6acca7907b8fe86af887873", func := "heliograph/heliographlaw08.WeedOld", spec := "weedOld", unfollowed := true, recurses := true, apart := false }
def WeedOldSaid : Prop := weedOldRow.holds Try.pinned (OpenSpec.ofChange weedOldSpec)

/-- ITS FALSE NEIGHBOUR: 'it returns false'. Refute it at one input. -/
def weedOldWrong : ChangeSpec := { name := "weedOld", fn := fun _ => fun
  | [d1, d2, d3] => { results := [.lit (.bool false)], args := [d1, d2, d3] }
  | _ => none }
def WeedOldWrongFalsely : Prop := weedOldRow.holds Try.pinned (OpenSpec.ofChange weedOldWrong)

/-- 'heliographlaw08.WeedFolds': WHATEVER THE INPUT: true; the input reads as it did. -/
def weedFoldsSpec : ChangeSpec := { name := "weedFolds", fn := fun _ => fun
  | [d1, d2, d3] => { results := [.lit (.bool true)], args := [d1, d2, d3] }
  | _ => none }
def weedFoldsRow : OpenClaim := { program := "ytccndbifnbmddaa", sum := "a7c685b4dc98f244cba270594c46c9040757c6b6e6acca7907b8fe86af887873", func := "heliograph/heliographlaw08.WeedFolds", spec := "weedFolds", unfollowed := true, recurses := true, apart := false }
def WeedFoldsSaid : Prop := weedFoldsRow.holds Try.pinned (OpenSpec.ofChange weedFoldsSpec)

/-- ITS FALSE NEIGHBOUR: 'it returns false'. Refute it at one input. -/
def weedFoldsWrong : ChangeSpec := { name := "weedFolds", fn := fun _ => fun
  | [d1, d2, d3] => { results := [.lit (.bool false)], args := [d1, d2, d3] }
  | _ => none }
def WeedFoldsWrongFalsely : Prop := weedFoldsRow.holds Try.pinned (OpenSpec.ofChange weedFoldsWrong)

/-- 'heliographlaw08.WeedKeeps': WHATEVER THE INPUT: true; the input reads as it did. -/
def weedKeepsSpec : ChangeSpec := { name := "weedKeeps", fn := fun _ => fun
  | [d1, d2, d3] => { results := [.lit (.bool true)], args := [d1, d2, d3] }
  | _ => none }
def weedKeepsRow : OpenClaim := { program := "ytccndbifnbmddaa", sum := "a7c685b4dc98f244cba270594c46c9040757c6b6e6acca7907b8fe86af887873", func := "heliograph/heliographlaw08.WeedKeeps", spec := "weedKeeps", unfollowed := true, recurses := true, apart := false }
def WeedKeepsSaid : Prop := weedKeepsRow.holds Try.pinned (OpenSpec.ofChange weedKeepsSpec)

/-- ITS FALSE NEIGHBOUR: 'it returns false'. Refute it at one input. -/
def weedKeepsWrong : ChangeSpec := { name := "weedKeeps", fn := fun _ => fun
  | [d1, d2, d3] => { results := [.lit (.bool false)], args := [d1, d2, d3] }
  | _ => none }
def WeedKeepsWrongFalsely : Prop := weedKeepsRow.holds Try.pinned (OpenSpec.ofChange weedKeepsWrong)

/-- 'heliographlaw08.WeedLeast': WHATEVER THE INPUT: true; the input reads as it did. -/
def weedLeastSpec : ChangeSpec := { name := "weedLeast", fn := fun _ => fun
  | [d1, d2, d3] => { results := [.lit (.bool true)], args := [d1, d2, d3] }
  | _ => none }
def weedLeastRow : OpenClaim := { program := "ytccndbifnbmddaa", sum := "a7c685b4dc98f244cba270594c46c9040757c6b6e6acca7907b8fe86af887873", func := "heliograph/heliographlaw08.WeedLeast", spec := "weedLeast", unfollowed := true, recurses := true, apart := false }
def WeedLeastSaid : Prop := weedLeastRow.holds Try.pinned (OpenSpec.ofChange weedLeastSpec)

/-- ITS FALSE NEIGHBOUR: 'it returns false'. Refute it at one input. -/
def weedLeastWrong : ChangeSpec := { name := "weedLeast", fn := fun _ => fun
  | [d1, d2, d3] => { results := [.lit (.bool false)], args := [d1, d2, d3] }
  | _ => none }
def WeedLeastWrongFalsely : Prop := weedLeastRow.holds Try.pinned (OpenSpec.ofChange weedLeastWrong)

/-- 'heliographlaw08.WeedParts': WHATEVER THE INPUT: true; the input reads as it did. -/
def weedPartsSpec : ChangeSpec := { name := "weedParts", fn := fun _ => fun
  | [d1, d2, d3] => { results := [.lit (.bool true)], args := [d1, d2, d3] }
  | _ => none }
def weedPartsRow : OpenClaim := { program := "ytccndbifnbmddaa", sum := "a7c685b4dc98f244cba270594c46c9040757c6b6e6acca7907b8fe86af887873", func := "heliograph/heliographlaw08.WeedParts", spec := "weedParts", unfollowed := true, recurses := true, apart := false }
def WeedPartsSaid : Prop := weedPartsRow.holds Try.pinned (OpenSpec.ofChange weedPartsSpec)

/-- ITS FALSE NEIGHBOUR: 'it returns false'. Refute it at one input. -/
def weedPartsWrong : ChangeSpec := { name := "weedParts", fn := fun _ => fun
  | [d1, d2, d3] => { results := [.lit (.bool false)], args := [d1, d2, d3] }
  | _ => none }
def WeedPartsWrongFalsely : Prop := weedPartsRow.holds Try.pinned (OpenSpec.ofChange weedPartsWrong)

/-- 'heliographlaw08.WeedLater': WHATEVER THE INPUT: true; the input reads as it did. -/
def weedLaterSpec : ChangeSpec := { name := "weedLater", fn := fun _ => fun
  | [d1, d2] => { results := [.lit (.bool true)], args := [d1, d2] }
  | _ => none }
def weedLaterRow : OpenClaim := { program := "ytccndbifnbmddaa", sum := "a7c685b4dc98f244cba270594c46c9040757c6b6e6acca7907b8fe86af887873", func := "heliograph/heliographlaw08.WeedLater", spec := "weedLater", unfollowed := true, recurses := true, apart := false }
def WeedLaterSaid : Prop := weedLaterRow.holds Try.pinned (OpenSpec.ofChange weedLaterSpec)

/-- ITS FALSE NEIGHBOUR: 'it returns false'. Refute it at one input. -/
def weedLaterWrong : ChangeSpec := { name := "weedLater", fn := fun _ => fun
  | [d1, d2] => { results := [.lit (.bool false)], args := [d1, d2] }
  | _ => none }
def WeedLaterWrongFalsely : Prop := weedLaterRow.holds Try.pinned (OpenSpec.ofChange weedLaterWrong)

/- THE SECOND FORM. 'bulk': how many values and letters a reading holds, each counted each time it is reached (what is shared counts as often as it is met; a slice's spare places count too). A statement '..UptoSaid' is the law's where the arguments, and the package variables that the reading takes, are together of bulk at most 1048576: NARROWER than '..Said'. Prove '..Said' where nothing that the law and all that it calls make is longer than what came in: it says more and counts as full. Else prove '..UptoSaid'. A law counts once. -/
mutual
def uptoBulk {H : Type} : DataW H → Nat
  | .lit (.string bytes) => bytes.length + 1
  | .lit _ => 1
  | .nil => 1
  | .ptr d => uptoBulk d + 1
  | .slice elems spare => uptoBulkAll elems + uptoBulkAll spare + 1
  | .agg parts => uptoBulkAll parts + 1
  | .iface _ d => uptoBulk d + 1
  | .map entries => uptoBulkEntries entries + 1
  | .held _ => 1
def uptoBulkAll {H : Type} : List (DataW H) → Nat
  | [] => 0
  | d :: r => uptoBulk d + uptoBulkAll r
def uptoBulkEntries {H : Type} : List (Lit × DataW H) → Nat
  | [] => 0
  | x :: r => uptoBulkEntry x + uptoBulkEntries r
def uptoBulkEntry {H : Type} : Lit × DataW H → Nat
  | (.string bytes, d) => bytes.length + uptoBulk d + 1
  | (_, d) => uptoBulk d + 1
 end
def uptoSmall : (H : Type) → List (DataW H) → Bool := fun _ ds => decide (uptoBulkAll ds ≤ 1048576)
def OpenSpec.upto (s : _root_.Go.ChangeSpec) : _root_.Go.OpenSpec := { _root_.Go.OpenSpec.ofChange s with cond := some uptoSmall }

/-- 'heliographlaw08.WeedExact', WHERE WHAT IT READS IS OF BULK AT MOST 1048576: true; the input reads as it did. -/
def weedExactUptoRow : OpenClaim := { program := "ytccndbifnbmddaa", sum := "a7c685b4dc98f244cba270594c46c9040757c6b6e6acca7907b8fe86af887873", func := "heliograph/heliographlaw08.WeedExact", spec := "weedExact", unfollowed := true, recurses := true, apart := false, narrowed := true }
def WeedExactUptoSaid : Prop := weedExactUptoRow.holds Try.pinned (OpenSpec.upto weedExactSpec)

/-- 'heliographlaw08.WeedOld', WHERE WHAT IT READS IS OF BULK AT MOST 1048576: true; the input reads as it did. -/
def weedOldUptoRow : OpenClaim := { program := "ytccndbifnbmddaa", sum := "a7c685b4dc98f244cba270594c46c9040757c6b6e6acca7907b8fe86af887873", func := "heliograph/heliographlaw08.WeedOld", spec := "weedOld", unfollowed := true, recurses := true, apart := false, narrowed := true }
def WeedOldUptoSaid : Prop := weedOldUptoRow.holds Try.pinned (OpenSpec.upto weedOldSpec)

/-- 'heliographlaw08.WeedFolds', WHERE WHAT IT READS IS OF BULK AT MOST 1048576: true; the input reads as it did. -/
def weedFoldsUptoRow : OpenClaim := { program := "ytccndbifnbmddaa", sum := "a7c685b4dc98f244cba270594c46c9040757c6b6e6acca7907b8fe86af887873", func := "heliograph/heliographlaw08.WeedFolds", spec := "weedFolds", unfollowed := true, recurses := true, apart := false, narrowed := true }
def WeedFoldsUptoSaid : Prop := weedFoldsUptoRow.holds Try.pinned (OpenSpec.upto weedFoldsSpec)

/-- 'heliographlaw08.WeedKeeps', WHERE WHAT IT READS IS OF BULK AT MOST 1048576: true; the input reads as it did. -/
def weedKeepsUptoRow : OpenClaim := { program := "ytccndbifnbmddaa", sum := "a7c685b4dc98f244cba270594c46c9040757c6b6e6acca7907b8fe86af887873", func := "heliograph/heliographlaw08.WeedKeeps", spec := "weedKeeps", unfollowed := true, recurses := true, apart := false, narrowed := true }
def WeedKeepsUptoSaid : Prop := weedKeepsUptoRow.holds Try.pinned (OpenSpec.upto weedKeepsSpec)

/-- 'heliographlaw08.WeedLeast', WHERE WHAT IT READS IS OF BULK AT MOST 1048576: true; the input reads as it did. -/
def weedLeastUptoRow : OpenClaim := { program := "ytccndbifnbmddaa", sum := "a7c685b4dc98f244cba270594c46c9040757c6b6e6acca7907b8fe86af887873", func := "heliograph/heliographlaw08.WeedLeast", spec := "weedLeast", unfollowed := true, recurses := true, apart := false, narrowed := true }
def WeedLeastUptoSaid : Prop := weedLeastUptoRow.holds Try.pinned (OpenSpec.upto weedLeastSpec)

/-- 'heliographlaw08.WeedParts', WHERE WHAT IT READS IS OF BULK AT MOST 1048576: true; the input reads as it did. -/
def weedPartsUptoRow : OpenClaim := { program := "ytccndbifnbmddaa", sum := "a7c685b4dc98f244cba270594c46c9040757c6b6e6acca7907b8fe86af887873", func := "heliograph/heliographlaw08.WeedParts", spec := "weedParts", unfollowed := true, recurses := true, apart := false, narrowed := true }
def WeedPartsUptoSaid : Prop := weedPartsUptoRow.holds Try.pinned (OpenSpec.upto weedPartsSpec)

/-- 'heliographlaw08.WeedLater', WHERE WHAT IT READS IS OF BULK AT MOST 1048576: true; the input reads as it did. -/
def weedLaterUptoRow : OpenClaim := { program := "ytccndbifnbmddaa", sum := "a7c685b4dc98f244cba270594c46c9040757c6b6e6acca7907b8fe86af887873", func := "heliograph/heliographlaw08.WeedLater", spec := "weedLater", unfollowed := true, recurses := true, apart := false, narrowed := true }
def WeedLaterUptoSaid : Prop := weedLaterUptoRow.holds Try.pinned (OpenSpec.upto weedLaterSpec)

end Rows
end Go.Proofs.Ytccndbifnbmddaa
