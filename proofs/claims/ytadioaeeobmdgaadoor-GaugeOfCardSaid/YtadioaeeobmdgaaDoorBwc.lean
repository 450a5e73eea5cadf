/-
  Bead's reader, walked: Int, Text.
  Conditions: what is left has fewer bytes than the library's search is told for; the library's variables hold what they are laid with.
-/
import Derived.Test.YtadioaeeobmdgaaDoorBwb
import Derived.Shelf.Strconv.ErrVarAll
set_option linter.unusedVariables false
set_option linter.unusedSimpArgs false
namespace Go.Proofs.YtadioaeeobmdgaaDoor
open Go.RowKit

/-! ### Where it goes wrong -/

def AtoiAny (w : World) (e : Ending) (w' : World) : Prop := ∃ m ev, e = .returned (.tuple #[.int .i64 m, ev]) ∧ Below w.heap.size w w'
theorem str_ne {a b : List UInt8} (h : a ≠ b) : (a == b) = false := beq_eq_false_iff_ne.2 h
end Go.Proofs.YtadioaeeobmdgaaDoor
