/-
  A power that came in by value, opened.
  Conditions: none.
-/
import Derived.Test.YtohimlahncbpjaaUa
import Derived.Test.YtohimlahncbpjaaApp
set_option linter.unusedVariables false
set_option linter.unusedSimpArgs false
namespace Go.Proofs.Ytohimlahncbpjaa
open Go.ChangeShapes Go.WideShapes Go.ChangeAt Go.RowKit

theorem pInts : Try.prog.cellsOf 38 = 1 := by kernel_rfl
set_option maxRecDepth 100000 in
theorem open_power {W : World} {r : Reach} {base b0 : Nat} {H : Type} {enc : TypeId × Value → H} {spare : Nat → Bool} {held : Bool} {v : Value} {d : DataW H} {p : List MemPlace} (hv : Value.okWide Try.prog W r base 46 v)
    (h : DataW.Trod enc Try.prog W b0 spare held 46 v d p) : ∃ n fv zs, v = .agg #[.int .i64 n, fv] ∧ Ints W fv zs ∧ zs.length ≤ maxLen := by
  obtain ⟨cs, rfl, hlen, hc⟩ := agg_cells (P := Try.prog) [3, 38] Try.underlying46 (by kernel_rfl) (by kernel_rfl) hv
  obtain ⟨fuel, hf⟩ := h
  obtain ⟨y1, y2, m, _, _, hy1, hy2⟩ := trod_struct2 Try.underlying46 (by simpa [Value.cells] using hf)
  obtain ⟨q1, e1, _, w1⟩ := DataW.trod_int Try.underlying3 hy1
  match cs, hlen with
  | [c1, c2], _ =>
    have hc2 := hc 1 c2 _ rfl rfl
    clear hc
    simp [pInt, pInts] at e1 hy2
    subst e1
    have hcc : c2.cells.toList = [c2] := by
      cases c2 <;> simp_all [Cell.okWide, Cell.ok, Value.cells, Try.underlying38]
    obtain ⟨zs, hz, hzl, _⟩ := open_intsl (d := y2.1) (p := y2.2) (v := c2) (enc := enc) (b0 := b0) (spare := spare) (held := held) (show Value.okWide Try.prog W r base 38 c2 by
      simp only [Value.okWide, Try.underlying38]; exact hc2) ⟨m, by rw [hcc]; exact hy2⟩
    exact ⟨q1, c2, zs, rfl, hz, hzl⟩

end Go.Proofs.Ytohimlahncbpjaa
