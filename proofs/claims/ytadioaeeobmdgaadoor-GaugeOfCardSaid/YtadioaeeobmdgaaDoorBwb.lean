/-
  Bead's reader, walked: New, ready, sign, Open, Close, More, Done.
  Conditions: none but the model's longest length.
-/
import Derived.Test.YtadioaeeobmdgaaDoorBwa
import Derived.ScopeJumps
import Derived.WalkMore
set_option linter.unusedVariables false
set_option linter.unusedSimpArgs false
namespace Go.Proofs.YtadioaeeobmdgaaDoor
open Go.RowKit

theorem keepsP (w : World) (p o : Nat) (u : Value) : Keeps (fun k => k = p) w (w.setCell ⟨p, o, none⟩ u) := Keeps.setCell _ _ _ _ rfl
end Go.Proofs.YtadioaeeobmdgaaDoor
