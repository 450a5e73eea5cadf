/-
  No cell of these rows narrows 'for every input' (looked for: loops, veiled, ifaces, maps, wideKeys, modest, calm, conditions, laid).
  DERIVED. THE GIVEN ROWS OF THIS SEAT. 7 by the template 'for every input the law returns true; each argument reads behind the call as it read before'; 0 by the template 'total and deterministic' (their statements: YtlieanigefjocaaTotals.lean).
  GIVEN WITH THE SEED: the statements are not yours to turn. If you find one false, say at which input.
  Laid BY PROGRAM, IN A SANDBOX (cutbox-rows.mjs): the forced cells as the released guide's own fill.sh prints them over the translation 5b315227ee715893… (all of the seat's roots in one cut). By AI agents, Wed Nov 11 2026. No macro, syntax, notation, axiom, sorry.
-/
import Derived.Test.YtlieanigefjocaaChecked
import GoSem.Claim
import GoSem.ClaimJoined
import GoSem.ClaimMapViews
import Derived.JoinedTies
import Derived.KernelRfl
namespace Go.Proofs.Ytlieanigefjocaa
/- THE CELL 'sum', in the pinned program and in every row, IS THE sha256 OF THE DUMP (.gsa) THAT YtlieanigefjocaaProg.lean LOADS. Nothing in Lean hashes anything: it is a label: what it is worth is what the hold of that sum in a sandbox is worth. -/
noncomputable def Try.pinned : Pinned := { name := "ytlieanigefjocaa", sum := "5b315227ee7158931267853343cb420f9f64cee9283d2cf7c2b84df533d98d6a", checked := Try.checked }
namespace Rows
def none {H : Type} : Left H := { results := [], args := [] }

/-- 'heliographlaw02.FrameWrites': WHATEVER THE INPUT: true; the input reads as it did. -/
def frameWritesSpec : ChangeSpec := { name := "frameWrites", fn := fun _ => fun
  | [d] => { results := [.lit (.bool true)], args := [d] }
  | _ => none }
def frameWritesRow : OpenClaim := { program := "ytlieanigefjocaa", sum := "5b315227ee7158931267853343cb420f9f64cee9283d2cf7c2b84df533d98d6a", func := "heliograph/heliographlaw02.FrameWrites", spec := "frameWrites", apart := false }
def FrameWritesSaid : Prop := frameWritesRow.holds Try.pinned (OpenSpec.ofChange frameWritesSpec)

/-- ITS FALSE NEIGHBOUR: 'it returns false'. Refute it at one input. -/
def frameWritesWrong : ChangeSpec := { name := "frameWrites", fn := fun _ => fun
  | [d] => { results := [.lit (.bool false)], args := [d] }
  | _ => none }
def FrameWritesWrongFalsely : Prop := frameWritesRow.holds Try.pinned (OpenSpec.ofChange frameWritesWrong)

/-- 'heliographlaw02.FrameReads': WHATEVER THE INPUT: true; the input reads as it did. -/
def frameReadsSpec : ChangeSpec := { name := "frameReads", fn := fun _ => fun
  | [d1, d2] => { results := [.lit (.bool true)], args := [d1, d2] }
  | _ => none }
def frameReadsRow : OpenClaim := { program := "ytlieanigefjocaa", sum := "5b315227ee7158931267853343cb420f9f64cee9283d2cf7c2b84df533d98d6a", func := "heliograph/heliographlaw02.FrameReads", spec := "frameReads", apart := false }
def FrameReadsSaid : Prop := frameReadsRow.holds Try.pinned (OpenSpec.ofChange frameReadsSpec)

/-- ITS FALSE NEIGHBOUR: 'it returns false'. Refute it at one input. -/
def frameReadsWrong : ChangeSpec := { name := "frameReads", fn := fun _ => fun
  | [d1, d2] => { results := [.lit (.bool false)], args := [d1, d2] }
  | _ => none }
def FrameReadsWrongFalsely : Prop := frameReadsRow.holds Try.pinned (OpenSpec.ofChange frameReadsWrong)

/-- 'heliographlaw02.FrameFinds': WHATEVER THE INPUT: true; the input reads as it did. -/
def frameFindsSpec : ChangeSpec := { name := "frameFinds", fn := fun _ => fun
  | [d1, d2] => { results := [.lit (.bool true)], args := [d1, d2] }
  | _ => none }
def frameFindsRow : OpenClaim := { program := "ytlieanigefjocaa", sum := "5b315227ee7158931267853343cb420f9f64cee9283d2cf7c2b84df533d98d6a", func := "heliograph/heliographlaw02.FrameFinds", spec := "frameFinds", apart := false }
def FrameFindsSaid : Prop := frameFindsRow.holds Try.pinned (OpenSpec.ofChange frameFindsSpec)

/-- ITS FALSE NEIGHBOUR: 'it returns false'. Refute it at one input. -/
def frameFindsWrong : ChangeSpec := { name := "frameFinds", fn := fun _ => fun
  | [d1, d2] => { results := [.lit (.bool false)], args := [d1, d2] }
  | _ => none }
def FrameFindsWrongFalsely : Prop := frameFindsRow.holds Try.pinned (OpenSpec.ofChange frameFindsWrong)

/-- 'heliographlaw02.FrameTells': WHATEVER THE INPUT: true; the input reads as it did. -/
def frameTellsSpec : ChangeSpec := { name := "frameTells", fn := fun _ => fun
  | [d1, d2, d3] => { results := [.lit (.bool true)], args := [d1, d2, d3] }
  | _ => none }
def frameTellsRow : OpenClaim := { program := "ytlieanigefjocaa", sum := "5b315227ee7158931267853343cb420f9f64cee9283d2cf7c2b84df533d98d6a", func := "heliograph/heliographlaw02.FrameTells", spec := "frameTells", apart := false }
def FrameTellsSaid : Prop := frameTellsRow.holds Try.pinned (OpenSpec.ofChange frameTellsSpec)

/-- ITS FALSE NEIGHBOUR: 'it returns false'. Refute it at one input. -/
def frameTellsWrong : ChangeSpec := { name := "frameTells", fn := fun _ => fun
  | [d1, d2, d3] => { results := [.lit (.bool false)], args := [d1, d2, d3] }
  | _ => none }
def FrameTellsWrongFalsely : Prop := frameTellsRow.holds Try.pinned (OpenSpec.ofChange frameTellsWrong)

/-- 'heliographlaw02.FrameJoins': WHATEVER THE INPUT: true; the input reads as it did. -/
def frameJoinsSpec : ChangeSpec := { name := "frameJoins", fn := fun _ => fun
  | [d1, d2] => { results := [.lit (.bool true)], args := [d1, d2] }
  | _ => none }
def frameJoinsRow : OpenClaim := { program := "ytlieanigefjocaa", sum := "5b315227ee7158931267853343cb420f9f64cee9283d2cf7c2b84df533d98d6a", func := "heliograph/heliographlaw02.FrameJoins", spec := "frameJoins", apart := false }
def FrameJoinsSaid : Prop := frameJoinsRow.holds Try.pinned (OpenSpec.ofChange frameJoinsSpec)

/-- ITS FALSE NEIGHBOUR: 'it returns false'. Refute it at one input. -/
def frameJoinsWrong : ChangeSpec := { name := "frameJoins", fn := fun _ => fun
  | [d1, d2] => { results := [.lit (.bool false)], args := [d1, d2] }
  | _ => none }
def FrameJoinsWrongFalsely : Prop := frameJoinsRow.holds Try.pinned (OpenSpec.ofChange frameJoinsWrong)

/-- 'heliographlaw02.FrameRest': WHATEVER THE INPUT: true; the input reads as it did. -/
def frameRestSpec : ChangeSpec := { name := "frameRest", fn := fun _ => fun
  | [d] => { results := [.lit (.bool true)], args := [d] }
  | _ => none }
def frameRestRow : OpenClaim := { program := "ytlieanigefjocaa", sum := "5b315227ee7158931267853343cb420f9f64cee9283d2cf7c2b84df533d98d6a", func := "heliograph/heliographlaw02.FrameRest", spec := "frameRest", apart := false }
def FrameRestSaid : Prop := frameRestRow.holds Try.pinned (OpenSpec.ofChange frameRestSpec)

/-- ITS FALSE NEIGHBOUR: 'it returns false'. Refute it at one input. -/
def frameRestWrong : ChangeSpec := { name := "frameRest", fn := fun _ => fun
  | [d] => { results := [.lit (.bool false)], args := [d] }
  | _ => none }
def FrameRestWrongFalsely : Prop := frameRestRow.holds Try.pinned (OpenSpec.ofChange frameRestWrong)

/-- 'heliographlaw02.FrameSteps': WHATEVER THE INPUT: true; the input reads as it did. -/
def frameStepsSpec : ChangeSpec := { name := "frameSteps", fn := fun _ => fun
  | [d] => { results := [.lit (.bool true)], args := [d] }
  | _ => none }
def frameStepsRow : OpenClaim := { program := "ytlieanigefjocaa", sum := "5b315227ee7158931267853343cb420f9f64cee9283d2cf7c2b84df533d98d6a", func := "heliograph/heliographlaw02.FrameSteps", spec := "frameSteps", apart := false }
def FrameStepsSaid : Prop := frameStepsRow.holds Try.pinned (OpenSpec.ofChange frameStepsSpec)

/-- ITS FALSE NEIGHBOUR: 'it returns false'. Refute it at one input. -/
def frameStepsWrong : ChangeSpec := { name := "frameSteps", fn := fun _ => fun
  | [d] => { results := [.lit (.bool false)], args := [d] }
  | _ => none }
def FrameStepsWrongFalsely : Prop := frameStepsRow.holds Try.pinned (OpenSpec.ofChange frameStepsWrong)

/- THE SECOND FORM. 'bulk': how many values and letters a reading holds, each counted each time it is reached (what is shared counts as often as it is met; a slice's spare places count too). A statement '..UptoSaid' is the law's where the arguments, and the package variables that the reading takes, are together of bulk at most 1048576: NARROWER than '..Said'. Prove '..Said' where nothing that the law and all that it calls make is longer than what came in: it says more and counts as full. Else prove '..UptoSaid'. A law counts once. -/
mutual
def uptoBulk {H : Type} : DataW H → Nat
  | .lit (.string bytes) => bytes.length + 1
  | .lit _ => 1
  | .nil => 1
  | .ptr d => uptoBulk d + 1
  | .slice elems spare => uptoBulkAll elems + uptoBulkAll spare + 1
  | .agg parts => uptoBulkAll parts + 1
  | .iface _ d => uptoBulk d + 1
  | .map entries => uptoBulkEntries entries + 1
  | .held _ => 1
def uptoBulkAll {H : Type} : List (DataW H) → Nat
  | [] => 0
  | d :: r => uptoBulk d + uptoBulkAll r
def uptoBulkEntries {H : Type} : List (Lit × DataW H) → Nat
  | [] => 0
  | x :: r => uptoBulkEntry x + uptoBulkEntries r
def uptoBulkEntry {H : Type} : Lit × DataW H → Nat
  | (.string bytes, d) => bytes.length + uptoBulk d + 1
  | (_, d) => uptoBulk d + 1
 end
def uptoSmall : (H : Type) → List (DataW H) → Bool := fun _ ds => decide (uptoBulkAll ds ≤ 1048576)
def OpenSpec.upto (s : _root_.Go.ChangeSpec) : _root_.Go.OpenSpec := { _root_.Go.OpenSpec.ofChange s with cond := some uptoSmall }

/-- 'heliographlaw02.FrameWrites', WHERE WHAT IT READS IS OF BULK AT MOST 1048576: true; the input reads as it did. -/
def frameWritesUptoRow : OpenClaim := { program := "ytlieanigefjocaa", sum := "5b315227ee7158931267853343cb420f9f64cee9283d2cf7c2b84df533d98d6a", func := "heliograph/heliographlaw02.FrameWrites", spec := "frameWrites", apart := false, narrowed := true }
def FrameWritesUptoSaid : Prop := frameWritesUptoRow.holds Try.pinned (OpenSpec.upto frameWritesSpec)

/-- 'heliographlaw02.FrameReads', WHERE WHAT IT READS IS OF BULK AT MOST 1048576: true; the input reads as it did. -/
def frameReadsUptoRow : OpenClaim := { program := "ytlieanigefjocaa", sum := "5b315227ee7158931267853343cb420f9f64cee9283d2cf7c2b84df533d98d6a", func := "heliograph/heliographlaw02.FrameReads", spec := "frameReads", apart := false, narrowed := true }
def FrameReadsUptoSaid : Prop := frameReadsUptoRow.holds Try.pinned (OpenSpec.upto frameReadsSpec)

/-- 'heliographlaw02.FrameFinds', WHERE WHAT IT READS IS OF BULK AT MOST 1048576: true; the input reads as it did. -/
def frameFindsUptoRow : OpenClaim := { program := "ytlieanigefjocaa", sum := "5b315227ee7158931267853343cb420f9f64cee9283d2cf7c2b84df533d98d6a", func := "heliograph/heliographlaw02.FrameFinds", spec := "frameFinds", apart := false, narrowed := true }
def FrameFindsUptoSaid : Prop := frameFindsUptoRow.holds Try.pinned (OpenSpec.upto frameFindsSpec)

/-- 'heliographlaw02.FrameTells', WHERE WHAT IT READS IS OF BULK AT MOST 1048576: true; the input reads as it did. -/
def frameTellsUptoRow : OpenClaim := { program := "ytlieanigefjocaa", sum := "5b315227ee7158931267853343cb420f9f64cee9283d2cf7c2b84df533d98d6a", func := "heliograph/heliographlaw02.FrameTells", spec := "frameTells", apart := false, narrowed := true }
def FrameTellsUptoSaid : Prop := frameTellsUptoRow.holds Try.pinned (OpenSpec.upto frameTellsSpec)

/-- 'heliographlaw02.FrameJoins', WHERE WHAT IT READS IS OF BULK AT MOST 1048576: true; the input reads as it did. -/
def frameJoinsUptoRow : OpenClaim := { program := "ytlieanigefjocaa", sum := "5b315227ee7158931267853343cb420f9f64cee9283d2cf7c2b84df533d98d6a", func := "heliograph/heliographlaw02.FrameJoins", spec := "frameJoins", apart := false, narrowed := true }
def FrameJoinsUptoSaid : Prop := frameJoinsUptoRow.holds Try.pinned (OpenSpec.upto frameJoinsSpec)

/-- 'heliographlaw02.FrameRest', WHERE WHAT IT READS IS OF BULK AT MOST 1048576: true; the input reads as it did. -/
def frameRestUptoRow : OpenClaim := { program := "ytlieanigefjocaa", sum := "5b315227ee7158931267853343cb420f9f64cee9283d2cf7c2b84df533d98d6a", func := "heliograph/heliographlaw02.FrameRest", spec := "frameRest", apart := false, narrowed := true }
def FrameRestUptoSaid : Prop := frameRestUptoRow.holds Try.pinned (OpenSpec.upto frameRestSpec)

/-- 'heliographlaw02.FrameSteps', WHERE WHAT IT READS IS OF BULK AT MOST 1048576: true; the input reads as it did. -/
def frameStepsUptoRow : OpenClaim := { program := "ytlieanigefjocaa", sum := "5b315227ee7158931267853343cb420f9f64cee9283d2cf7c2b84df533d98d6a", func := "heliograph/heliographlaw02.FrameSteps", spec := "frameSteps", apart := false, narrowed := true }
def FrameStepsUptoSaid : Prop := frameStepsUptoRow.holds Try.pinned (OpenSpec.upto frameStepsSpec)

end Rows
end Go.Proofs.Ytlieanigefjocaa
