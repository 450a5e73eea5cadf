/-
  Bead's reader, walked: Text.
  Conditions: what is left has fewer bytes than the library's search is told for; the library's variables hold what they are laid with.
-/
import Derived.Test.YtadioaeeobmdgaaDoorBwc
set_option linter.unusedVariables false
set_option linter.unusedSimpArgs false
namespace Go.Proofs.YtadioaeeobmdgaaDoor
open Go.RowKit

end Go.Proofs.YtadioaeeobmdgaaDoor
