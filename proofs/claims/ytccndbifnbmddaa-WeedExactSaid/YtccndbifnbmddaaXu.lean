/-
  Small numbers out of any number.
  Conditions: none.
-/
import Derived.Test.YtccndbifnbmddaaWu
set_option linter.unusedVariables false
set_option linter.unusedSimpArgs false
namespace Go.Proofs.Ytccndbifnbmddaa
open Go.RowKit

/-- A small number out of any. -/
def um (z : Int) (m : Nat) : Nat := ((z % 18446744073709551616) % (m : Int)).toNat
theorem um_lt (z : Int) {m : Nat} (h : 0 < m) : um z m < m := by
  unfold um
  have h1 := Int.emod_nonneg (z % 18446744073709551616) (show (m : Int) ≠ 0 by omega)
  have h2 := Int.emod_lt_of_pos (z % 18446744073709551616) (show (0 : Int) < m by omega)
  omega
theorem um_tmod (z : Int) {m : Nat} (h : 0 < m) : (IntKind.u64.wrap z).tmod (m : Int) = (um z m : Int) := by
  rw [IntKind.wrap_u64, Int.tmod_eq_emod_of_nonneg (by omega)]
  unfold um
  have h1 := Int.emod_nonneg (z % 18446744073709551616) (show (m : Int) ≠ 0 by omega)
  omega
theorem wrapN (n : Nat) (h : n ≤ 62914560) : wrap64 (n : Int) = n := by unfold wrap64; omega

end Go.Proofs.Ytccndbifnbmddaa
