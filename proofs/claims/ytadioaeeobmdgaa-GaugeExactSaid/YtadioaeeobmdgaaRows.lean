/-
  No cell of these rows narrows 'for every input' (looked for: loops, veiled, ifaces, maps, wideKeys, modest, calm, conditions, laid).
  DERIVED. THE GIVEN ROWS OF THIS SEAT. 6 by the template 'for every input the law returns true; each argument reads behind the call as it read before'; 0 by the template 'total and deterministic' (their statements: YtadioaeeobmdgaaTotals.lean).
  GIVEN WITH THE SEED: the statements are not yours to turn. If you find one false, say at which input.
  Laid BY PROGRAM, IN A SANDBOX (cutbox-rows.mjs): the forced cells as the released guide's own fill.sh prints them over the translation 56fb481fd6165ca5… (all of the seat's roots in one cut). By AI agents, Wed Nov 11 2026. No macro, syntax, notation, axiom, sorry.
-/
import Derived.Test.YtadioaeeobmdgaaChecked
import GoSem.Claim
import GoSem.ClaimJoined
import GoSem.ClaimMapViews
import Derived.JoinedTies
import Derived.KernelRfl
namespace Go.Proofs.Ytadioaeeobmdgaa
/- THE CELL 'sum', in the pinned program and in every row, IS THE sha256 OF THE DUMP (.gsa) THAT YtadioaeeobmdgaaProg.lean LOADS. Nothing in Lean hashes anything: it is a label: what it is worth is what the hold of that sum in a sandbox is worth. -/
noncomputable def Try.pinned : Pinned := { name := "ytadioaeeobmdgaa", sum := "56fb481fd6165ca599afe53917379aff553a22e4a3bcb3839a5f49678a73bf53", checked := Try.checked }
namespace Rows
def none {H : Type} : Left H := { results := [], args := [] }

/-- 'heliographlaw04.GaugeOver': WHATEVER THE INPUT: true; the input reads as it did. -/
def gaugeOverSpec : ChangeSpec := { name := "gaugeOver", fn := fun _ => fun
  | [d1, d2] => { results := [.lit (.bool true)], args := [d1, d2] }
  | _ => none }
def gaugeOverRow : OpenClaim := { program := "ytadioaeeobmdgaa", sum := "56fb481fd6165ca599afe53917379aff553a22e4a3bcb3839a5f49678a73bf53", func := "heliograph/heliographlaw04.GaugeOver", spec := "gaugeOver", apart := false }
def GaugeOverSaid : Prop := gaugeOverRow.holds Try.pinned (OpenSpec.ofChange gaugeOverSpec)

/-- ITS FALSE NEIGHBOUR: 'it returns false'. Refute it at one input. -/
def gaugeOverWrong : ChangeSpec := { name := "gaugeOver", fn := fun _ => fun
  | [d1, d2] => { results := [.lit (.bool false)], args := [d1, d2] }
  | _ => none }
def GaugeOverWrongFalsely : Prop := gaugeOverRow.holds Try.pinned (OpenSpec.ofChange gaugeOverWrong)

/-- 'heliographlaw04.GaugeSets': WHATEVER THE INPUT: true; the input reads as it did. -/
def gaugeSetsSpec : ChangeSpec := { name := "gaugeSets", fn := fun _ => fun
  | [d1, d2, d3] => { results := [.lit (.bool true)], args := [d1, d2, d3] }
  | _ => none }
def gaugeSetsRow : OpenClaim := { program := "ytadioaeeobmdgaa", sum := "56fb481fd6165ca599afe53917379aff553a22e4a3bcb3839a5f49678a73bf53", func := "heliograph/heliographlaw04.GaugeSets", spec := "gaugeSets", apart := false }
def GaugeSetsSaid : Prop := gaugeSetsRow.holds Try.pinned (OpenSpec.ofChange gaugeSetsSpec)

/-- ITS FALSE NEIGHBOUR: 'it returns false'. Refute it at one input. -/
def gaugeSetsWrong : ChangeSpec := { name := "gaugeSets", fn := fun _ => fun
  | [d1, d2, d3] => { results := [.lit (.bool false)], args := [d1, d2, d3] }
  | _ => none }
def GaugeSetsWrongFalsely : Prop := gaugeSetsRow.holds Try.pinned (OpenSpec.ofChange gaugeSetsWrong)

/-- 'heliographlaw04.GaugeExact': WHATEVER THE INPUT: true; the input reads as it did. -/
def gaugeExactSpec : ChangeSpec := { name := "gaugeExact", fn := fun _ => fun
  | [d] => { results := [.lit (.bool true)], args := [d] }
  | _ => none }
def gaugeExactRow : OpenClaim := { program := "ytadioaeeobmdgaa", sum := "56fb481fd6165ca599afe53917379aff553a22e4a3bcb3839a5f49678a73bf53", func := "heliograph/heliographlaw04.GaugeExact", spec := "gaugeExact", apart := false }
def GaugeExactSaid : Prop := gaugeExactRow.holds Try.pinned (OpenSpec.ofChange gaugeExactSpec)

/-- ITS FALSE NEIGHBOUR: 'it returns false'. Refute it at one input. -/
def gaugeExactWrong : ChangeSpec := { name := "gaugeExact", fn := fun _ => fun
  | [d] => { results := [.lit (.bool false)], args := [d] }
  | _ => none }
def GaugeExactWrongFalsely : Prop := gaugeExactRow.holds Try.pinned (OpenSpec.ofChange gaugeExactWrong)

/-- 'heliographlaw04.GaugeShifts': WHATEVER THE INPUT: true; the input reads as it did. -/
def gaugeShiftsSpec : ChangeSpec := { name := "gaugeShifts", fn := fun _ => fun
  | [d] => { results := [.lit (.bool true)], args := [d] }
  | _ => none }
def gaugeShiftsRow : OpenClaim := { program := "ytadioaeeobmdgaa", sum := "56fb481fd6165ca599afe53917379aff553a22e4a3bcb3839a5f49678a73bf53", func := "heliograph/heliographlaw04.GaugeShifts", spec := "gaugeShifts", apart := false }
def GaugeShiftsSaid : Prop := gaugeShiftsRow.holds Try.pinned (OpenSpec.ofChange gaugeShiftsSpec)

/-- ITS FALSE NEIGHBOUR: 'it returns false'. Refute it at one input. -/
def gaugeShiftsWrong : ChangeSpec := { name := "gaugeShifts", fn := fun _ => fun
  | [d] => { results := [.lit (.bool false)], args := [d] }
  | _ => none }
def GaugeShiftsWrongFalsely : Prop := gaugeShiftsRow.holds Try.pinned (OpenSpec.ofChange gaugeShiftsWrong)

/-- 'heliographlaw04.GaugeParts': WHATEVER THE INPUT: true; the input reads as it did. -/
def gaugePartsSpec : ChangeSpec := { name := "gaugeParts", fn := fun _ => fun
  | [d1, d2] => { results := [.lit (.bool true)], args := [d1, d2] }
  | _ => none }
def gaugePartsRow : OpenClaim := { program := "ytadioaeeobmdgaa", sum := "56fb481fd6165ca599afe53917379aff553a22e4a3bcb3839a5f49678a73bf53", func := "heliograph/heliographlaw04.GaugeParts", spec := "gaugeParts", unfollowed := true, recurses := true, apart := false }
def GaugePartsSaid : Prop := gaugePartsRow.holds Try.pinned (OpenSpec.ofChange gaugePartsSpec)

/-- ITS FALSE NEIGHBOUR: 'it returns false'. Refute it at one input. -/
def gaugePartsWrong : ChangeSpec := { name := "gaugeParts", fn := fun _ => fun
  | [d1, d2] => { results := [.lit (.bool false)], args := [d1, d2] }
  | _ => none }
def GaugePartsWrongFalsely : Prop := gaugePartsRow.holds Try.pinned (OpenSpec.ofChange gaugePartsWrong)

/-- 'heliographlaw04.GaugeStays': WHATEVER THE INPUT: true; the input reads as it did. -/
def gaugeStaysSpec : ChangeSpec := { name := "gaugeStays", fn := fun _ => fun
  | [d] => { results := [.lit (.bool true)], args := [d] }
  | _ => none }
def gaugeStaysRow : OpenClaim := { program := "ytadioaeeobmdgaa", sum := "56fb481fd6165ca599afe53917379aff553a22e4a3bcb3839a5f49678a73bf53", func := "heliograph/heliographlaw04.GaugeStays", spec := "gaugeStays", unfollowed := true, recurses := true, apart := false }
def GaugeStaysSaid : Prop := gaugeStaysRow.holds Try.pinned (OpenSpec.ofChange gaugeStaysSpec)

/-- ITS FALSE NEIGHBOUR: 'it returns false'. Refute it at one input. -/
def gaugeStaysWrong : ChangeSpec := { name := "gaugeStays", fn := fun _ => fun
  | [d] => { results := [.lit (.bool false)], args := [d] }
  | _ => none }
def GaugeStaysWrongFalsely : Prop := gaugeStaysRow.holds Try.pinned (OpenSpec.ofChange gaugeStaysWrong)

/- THE SECOND FORM. 'bulk': how many values and letters a reading holds, each counted each time it is reached (what is shared counts as often as it is met; a slice's spare places count too). A statement '..UptoSaid' is the law's where the arguments, and the package variables that the reading takes, are together of bulk at most 1048576: NARROWER than '..Said'. Prove '..Said' where nothing that the law and all that it calls make is longer than what came in: it says more and counts as full. Else prove '..UptoSaid'. A law counts once. -/
mutual
def uptoBulk {H : Type} : DataW H → Nat
  | .lit (.string bytes) => bytes.length + 1
  | .lit _ => 1
  | .nil => 1
  | .ptr d => uptoBulk d + 1
  | .slice elems spare => uptoBulkAll elems + uptoBulkAll spare + 1
  | .agg parts => uptoBulkAll parts + 1
  | .iface _ d => uptoBulk d + 1
  | .map entries => uptoBulkEntries entries + 1
  | .held _ => 1
def uptoBulkAll {H : Type} : List (DataW H) → Nat
  | [] => 0
  | d :: r => uptoBulk d + uptoBulkAll r
def uptoBulkEntries {H : Type} : List (Lit × DataW H) → Nat
  | [] => 0
  | x :: r => uptoBulkEntry x + uptoBulkEntries r
def uptoBulkEntry {H : Type} : Lit × DataW H → Nat
  | (.string bytes, d) => bytes.length + uptoBulk d + 1
  | (_, d) => uptoBulk d + 1
 end
def uptoSmall : (H : Type) → List (DataW H) → Bool := fun _ ds => decide (uptoBulkAll ds ≤ 1048576)
def OpenSpec.upto (s : _root_.Go.ChangeSpec) : _root_.Go.OpenSpec := { _root_.Go.OpenSpec.ofChange s with cond := some uptoSmall }

/-- 'heliographlaw04.GaugeOver', WHERE WHAT IT READS IS OF BULK AT MOST 1048576: true; the input reads as it did. -/
def gaugeOverUptoRow : OpenClaim := { program := "ytadioaeeobmdgaa", sum := "56fb481fd6165ca599afe53917379aff553a22e4a3bcb3839a5f49678a73bf53", func := "heliograph/heliographlaw04.GaugeOver", spec := "gaugeOver", apart := false, narrowed := true }
def GaugeOverUptoSaid : Prop := gaugeOverUptoRow.holds Try.pinned (OpenSpec.upto gaugeOverSpec)

/-- 'heliographlaw04.GaugeSets', WHERE WHAT IT READS IS OF BULK AT MOST 1048576: true; the input reads as it did. -/
def gaugeSetsUptoRow : OpenClaim := { program := "ytadioaeeobmdgaa", sum := "56fb481fd6165ca599afe53917379aff553a22e4a3bcb3839a5f49678a73bf53", func := "heliograph/heliographlaw04.GaugeSets", spec := "gaugeSets", apart := false, narrowed := true }
def GaugeSetsUptoSaid : Prop := gaugeSetsUptoRow.holds Try.pinned (OpenSpec.upto gaugeSetsSpec)

/-- 'heliographlaw04.GaugeExact', WHERE WHAT IT READS IS OF BULK AT MOST 1048576: true; the input reads as it did. -/
def gaugeExactUptoRow : OpenClaim := { program := "ytadioaeeobmdgaa", sum := "56fb481fd6165ca599afe53917379aff553a22e4a3bcb3839a5f49678a73bf53", func := "heliograph/heliographlaw04.GaugeExact", spec := "gaugeExact", apart := false, narrowed := true }
def GaugeExactUptoSaid : Prop := gaugeExactUptoRow.holds Try.pinned (OpenSpec.upto gaugeExactSpec)

/-- 'heliographlaw04.GaugeShifts', WHERE WHAT IT READS IS OF BULK AT MOST 1048576: true; the input reads as it did. -/
def gaugeShiftsUptoRow : OpenClaim := { program := "ytadioaeeobmdgaa", sum := "56fb481fd6165ca599afe53917379aff553a22e4a3bcb3839a5f49678a73bf53", func := "heliograph/heliographlaw04.GaugeShifts", spec := "gaugeShifts", apart := false, narrowed := true }
def GaugeShiftsUptoSaid : Prop := gaugeShiftsUptoRow.holds Try.pinned (OpenSpec.upto gaugeShiftsSpec)

/-- 'heliographlaw04.GaugeParts', WHERE WHAT IT READS IS OF BULK AT MOST 1048576: true; the input reads as it did. -/
def gaugePartsUptoRow : OpenClaim := { program := "ytadioaeeobmdgaa", sum := "56fb481fd6165ca599afe53917379aff553a22e4a3bcb3839a5f49678a73bf53", func := "heliograph/heliographlaw04.GaugeParts", spec := "gaugeParts", unfollowed := true, recurses := true, apart := false, narrowed := true }
def GaugePartsUptoSaid : Prop := gaugePartsUptoRow.holds Try.pinned (OpenSpec.upto gaugePartsSpec)

/-- 'heliographlaw04.GaugeStays', WHERE WHAT IT READS IS OF BULK AT MOST 1048576: true; the input reads as it did. -/
def gaugeStaysUptoRow : OpenClaim := { program := "ytadioaeeobmdgaa", sum := "56fb481fd6165ca599afe53917379aff553a22e4a3bcb3839a5f49678a73bf53", func := "heliograph/heliographlaw04.GaugeStays", spec := "gaugeStays", unfollowed := true, recurses := true, apart := false, narrowed := true }
def GaugeStaysUptoSaid : Prop := gaugeStaysUptoRow.holds Try.pinned (OpenSpec.upto gaugeStaysSpec)

end Rows
end Go.Proofs.Ytadioaeeobmdgaa
