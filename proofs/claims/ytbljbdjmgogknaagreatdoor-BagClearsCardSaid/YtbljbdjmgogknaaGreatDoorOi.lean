/-
  Slices of numbers and of texts that came in, opened.
  Conditions: none.
-/
import Derived.Test.YtbljbdjmgogknaaGreatDoorRows
import Derived.Test.YtbljbdjmgogknaaGreatDoorOpn
set_option linter.unusedVariables false
set_option linter.unusedSimpArgs false
namespace Go.Proofs.YtbljbdjmgogknaaGreatDoor
open Go.ChangeShapes Go.WideShapes Go.ChangeAt Go.RowKit

/-- A slice of numbers: its cells. -/
def Ints (w : World) (v : Value) (zs : List Int) : Prop :=
  ∃ a cap, v = .slice a zs.length cap ∧ ∀ i, i < zs.length → ∃ g off, a = some ⟨g, off, none⟩ ∧ g < w.heap.size ∧ w.cell? ⟨g, off + i, none⟩ = some (.int .i64 (zs.getD i 0))
theorem Ints.kept {w w' : World} {v : Value} {zs : List Int} (h : Ints w v zs) (hb : Below w.heap.size w w') : Ints w' v zs := by
  obtain ⟨a, cap, rfl, hc⟩ := h
  refine ⟨a, cap, rfl, fun i hi => ?_⟩
  obtain ⟨g, off, rfl, hg, h1⟩ := hc i hi
  exact ⟨g, off, rfl, Nat.lt_of_lt_of_le hg hb.size, (hb.cell (p := ⟨g, off + i, none⟩) hg).trans h1⟩
set_option maxRecDepth 100000 in
theorem open_intsl {W : World} {r : Reach} {base b0 : Nat} {H : Type} {enc : TypeId × Value → H} {spare : Nat → Bool} {held : Bool} {v : Value} {d : DataW H} {p : List MemPlace} (hv : Value.okWide Tryz.prog W r base 30 v)
    (h : DataW.Trod enc Tryz.prog W b0 spare held 30 v d p) : ∃ zs, Ints W v zs ∧ zs.length ≤ maxLen ∧ ∀ z ∈ zs, -9223372036854775808 ≤ z ∧ z ≤ 9223372036854775807 := by
  obtain ⟨a, len, cap, rfl, hl, hm, h0, h1, hel⟩ := slice_open Tryz.underlying30 hv h
  rw [show Tryz.prog.cellsOf 3 = 1 by kernel_rfl] at hel
  obtain ⟨zs, hz, hzs⟩ := list_of 0 (fun i (q : Int) => (∃ b off, a = some ⟨b, off, none⟩ ∧ b < W.heap.size ∧ W.cell? ⟨b, off + i, none⟩ = some (.int .i64 q)) ∧ -9223372036854775808 ≤ q ∧ q ≤ 9223372036854775807) (n := len) (fun i hi => by
      obtain ⟨b, off, cs, n, y, rfl, hlt, _, hc, ht⟩ := hel i hi
      obtain ⟨q, rfl, _, wq⟩ := DataW.trod_int Tryz.underlying3 ht
      refine ⟨q, ⟨b, off, rfl, hlt, by simpa using hc 0 (by omega)⟩, ?_⟩
      have e1 : IntKind.i64.min = -9223372036854775808 := by decide
      have e2 : IntKind.i64.max = 9223372036854775807 := by decide
      simp [Lit.wf, e1, e2] at wq
      exact wq)
  subst hz
  refine ⟨zs, ⟨a, cap, rfl, fun i hi => (hzs i hi).1⟩, Nat.le_trans hl hm, fun z hz => ?_⟩
  obtain ⟨i, hi, rfl⟩ := List.getElem_of_mem hz
  have := (hzs i hi).2
  simpa [List.getD, hi] using this
/-- A slice of texts: its cells. -/
def Txts (w : World) (v : Value) (ls : List (List UInt8)) : Prop :=
  ∃ a cap, v = .slice a ls.length cap ∧ ∀ i, i < ls.length → ∃ g off, a = some ⟨g, off, none⟩ ∧ g < w.heap.size ∧ w.cell? ⟨g, off + i, none⟩ = some (.string ⟨(ls.getD i []).toArray⟩)
theorem Txts.kept {w w' : World} {v : Value} {ls : List (List UInt8)} (h : Txts w v ls) (hb : Below w.heap.size w w') : Txts w' v ls := by
  obtain ⟨a, cap, rfl, hc⟩ := h
  refine ⟨a, cap, rfl, fun i hi => ?_⟩
  obtain ⟨g, off, rfl, hg, h1⟩ := hc i hi
  exact ⟨g, off, rfl, Nat.lt_of_lt_of_le hg hb.size, (hb.cell (p := ⟨g, off + i, none⟩) hg).trans h1⟩
set_option maxRecDepth 100000 in
theorem open_txtsl {W : World} {r : Reach} {base b0 : Nat} {H : Type} {enc : TypeId × Value → H} {spare : Nat → Bool} {held : Bool} {v : Value} {d : DataW H} {p : List MemPlace} (hv : Value.okWide Tryz.prog W r base 93 v)
    (h : DataW.Trod enc Tryz.prog W b0 spare held 93 v d p) : ∃ ls, Txts W v ls ∧ ls.length ≤ maxLen ∧ ∀ l ∈ ls, l.length ≤ maxLen := by
  obtain ⟨a, len, cap, rfl, hl, hm, h0, h1, hel⟩ := slice_open Tryz.underlying93 hv h
  rw [show Tryz.prog.cellsOf 9 = 1 by kernel_rfl] at hel
  obtain ⟨ls, hz, hzs⟩ := list_of [] (fun i (q : List UInt8) => (∃ b off, a = some ⟨b, off, none⟩ ∧ b < W.heap.size ∧ W.cell? ⟨b, off + i, none⟩ = some (.string ⟨q.toArray⟩)) ∧ q.length ≤ maxLen) (n := len) (fun i hi => by
      obtain ⟨b, off, cs, n, y, rfl, hlt, _, hc, ht⟩ := hel i hi
      obtain ⟨q, rfl, _, wq⟩ := DataW.trod_string Tryz.underlying9 ht
      exact ⟨q.data.toList, ⟨b, off, rfl, hlt, by simpa using hc 0 (by omega)⟩, by have e : q.size = q.data.toList.length := rfl; omega⟩)
  subst hz
  refine ⟨ls, ⟨a, cap, rfl, fun i hi => (hzs i hi).1⟩, Nat.le_trans hl hm, fun z hz => ?_⟩
  obtain ⟨i, hi, rfl⟩ := List.getElem_of_mem hz
  have := (hzs i hi).2
  simpa [List.getD, hi] using this

end Go.Proofs.YtbljbdjmgogknaaGreatDoor
