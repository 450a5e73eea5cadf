/-
  Places that came in, opened.
  Conditions: none.
-/
import Derived.Test.YtegaonoobjeneaaDoorCo
import Derived.Test.YtegaonoobjeneaaDoorCle
set_option linter.unusedVariables false
set_option linter.unusedSimpArgs false
namespace Go.Proofs.YtegaonoobjeneaaDoor
open Go.ChangeShapes Go.WideShapes Go.ChangeAt Go.RowKit

set_option maxRecDepth 100000 in
theorem open_place {W : World} {r : Reach} {base b0 : Nat} {H : Type} {enc : TypeId × Value → H} {spare : Nat → Bool} {held : Bool} {v : Value} {d : DataW H} {p : List MemPlace} (hv : Value.okWide Tryd.prog W r base 36 v)
    (h : DataW.Trod enc Tryd.prog W b0 spare held 36 v d p) : ∃ x0 x1 x2 x3, v = plV x0 x1 x2 x3 ∧ Bd.inR x0 ∧ Bd.inR x1 ∧ Bd.inR x2 ∧ Bd.inR x3 := by
  obtain ⟨cs, rfl, hlen, hc⟩ := agg_cells (P := Tryd.prog) [3, 3, 3, 3] Tryd.underlying36 (by kernel_rfl) (by kernel_rfl) hv
  obtain ⟨c0, c1, c2, c3, rfl⟩ := list4 hlen
  obtain ⟨n0, rfl, k0⟩ := cell_int Tryd.underlying3 (hc 0 c0 _ rfl rfl)
  obtain ⟨n1, rfl, k1⟩ := cell_int Tryd.underlying3 (hc 1 c1 _ rfl rfl)
  obtain ⟨n2, rfl, k2⟩ := cell_int Tryd.underlying3 (hc 2 c2 _ rfl rfl)
  obtain ⟨n3, rfl, k3⟩ := cell_int Tryd.underlying3 (hc 3 c3 _ rfl rfl)
  have e : ∀ n : Int, IntKind.i64.has n → Bd.inR n := fun n h => by simpa [IntKind.has, IntKind.min, IntKind.max, IntKind.signed, IntKind.bits, Bd.inR] using h
  exact ⟨n0, n1, n2, n3, rfl, e _ k0, e _ k1, e _ k2, e _ k3⟩

end Go.Proofs.YtegaonoobjeneaaDoor
