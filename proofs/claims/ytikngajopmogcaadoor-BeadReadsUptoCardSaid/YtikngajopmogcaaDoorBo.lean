/-
  Rows of askings that came in, opened.
  Conditions: none.
-/
import Derived.Test.YtikngajopmogcaaDoorOi
set_option linter.unusedVariables false
set_option linter.unusedSimpArgs false
namespace Go.Proofs.YtikngajopmogcaaDoor
open Go.ChangeShapes Go.WideShapes Go.ChangeAt Go.RowKit

/-- Askings: the kind, the number. -/
def Asks (w : World) (v : Value) (zs : List (Int × Int)) : Prop :=
  ∃ a cap, v = .slice a zs.length cap ∧ ∀ i, i < zs.length → ∃ g off, a = some ⟨g, off, none⟩ ∧ g < w.heap.size ∧ w.cell? ⟨g, off + i * 2, none⟩ = some (.int .i64 (zs.getD i (0, 0)).1) ∧ w.cell? ⟨g, off + i * 2 + 1, none⟩ = some (.int .i64 (zs.getD i (0, 0)).2)
theorem Asks.kept {w w' : World} {v : Value} {zs : List (Int × Int)} (h : Asks w v zs) (hb : Below w.heap.size w w') : Asks w' v zs := by
  obtain ⟨a, cap, rfl, hc⟩ := h
  refine ⟨a, cap, rfl, fun i hi => ?_⟩
  obtain ⟨g, off, rfl, hg, h1, h2⟩ := hc i hi
  exact ⟨g, off, rfl, Nat.lt_of_lt_of_le hg hb.size, (hb.cell (p := ⟨g, off + i * 2, none⟩) hg).trans h1, (hb.cell (p := ⟨g, off + i * 2 + 1, none⟩) hg).trans h2⟩
set_option maxRecDepth 100000 in
theorem open_asks {W : World} {r : Reach} {base b0 : Nat} {H : Type} {enc : TypeId × Value → H} {spare : Nat → Bool} {held : Bool} {v : Value} {d : DataW H} {p : List MemPlace} (hv : Value.okWide Tryd.prog W r base 27 v)
    (h : DataW.Trod enc Tryd.prog W b0 spare held 27 v d p) : ∃ zs, Asks W v zs ∧ zs.length ≤ maxLen := by
  obtain ⟨a, len, cap, rfl, hl, hm, h0, h1, hel⟩ := slice_open Tryd.underlying27 hv h
  rw [show Tryd.prog.cellsOf 34 = 2 by kernel_rfl] at hel
  obtain ⟨zs, hz, hzs⟩ := list_of (0, 0) (fun i (q : Int × Int) => ∃ b off, a = some ⟨b, off, none⟩ ∧ b < W.heap.size ∧
    W.cell? ⟨b, off + i * 2, none⟩ = some (.int .i64 q.1) ∧ W.cell? ⟨b, off + i * 2 + 1, none⟩ = some (.int .i64 q.2)) (n := len) (fun i hi => by
      obtain ⟨b, off, cs, n, y, rfl, hlt, hcl, hc, ht⟩ := hel i hi
      obtain ⟨y0, y1, m, _, _, hy0, hy1⟩ := trod_struct2 Tryd.underlying34 ht
      obtain ⟨q0, e0, _, _⟩ := DataW.trod_int Tryd.underlying3 hy0
      obtain ⟨q1, e1, _, _⟩ := DataW.trod_int Tryd.underlying3 hy1
      match cs, hcl with
      | [c0, c1], _ =>
        simp [show Tryd.prog.cellsOf 3 = 1 by kernel_rfl] at e0 e1
        subst e0 e1
        exact ⟨(q0, q1), b, off, rfl, hlt, by simpa using hc 0 (by omega), by simpa using hc 1 (by omega)⟩)
  subst hz
  exact ⟨zs, ⟨a, cap, rfl, hzs⟩, Nat.le_trans hl hm⟩

end Go.Proofs.YtikngajopmogcaaDoor
