/-
  The law's awake: the document's examples hold of the program.
  Conditions: none.
-/
import Derived.Test.YtccndbifnbmddaaGwe
set_option linter.unusedVariables false
set_option linter.unusedSimpArgs false
namespace Go.Proofs.Ytccndbifnbmddaa
open Go.RowKit Fl

theorem part_lit {n b : Nat} (h : fl n = b) (hn : n ≤ most) : Fl.part b = some n := h ▸ part_fl hn
theorem eq_lit {n b : Nat} (h : fl n = b) (hn : n < 2 ^ 53) : (FloatKind.f64.format.order (fl n) b == some Ordering.eq) = true := by
  subst h
  have : FloatKind.f64.format.order (fl n) (fl n) = some (compare n n) := order_fl hn hn
  rw [this]
  simp
theorem eq_same {n : Nat} (hn : n < 2 ^ 53) : (FloatKind.f64.format.order (fl n) (fl n) == some Ordering.eq) = true := eq_lit rfl hn

end Go.Proofs.Ytccndbifnbmddaa
