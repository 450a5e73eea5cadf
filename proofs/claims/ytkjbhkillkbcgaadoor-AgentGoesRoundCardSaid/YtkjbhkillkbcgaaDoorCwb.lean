/-
  Crate: Good, walked.
  Conditions: none.
-/
import Derived.Test.YtkjbhkillkbcgaaDoorCwa
set_option linter.unusedVariables false
set_option linter.unusedSimpArgs false
namespace Go.Proofs.YtkjbhkillkbcgaaDoor
open Go.RowKit

/-- A batch as a value; its records stand elsewhere. -/
def batV (b : Cr.Batch) (rv : Value) : Value := .agg #[.int .i64 b.base, .int .i64 b.count, .int .i64 b.prod, .int .i64 b.seq, .int .i64 b.time, rv]
def batCells (b : Cr.Batch) (rv : Value) : Array Value := #[.int .i64 b.base, .int .i64 b.count, .int .i64 b.prod, .int .i64 b.seq, .int .i64 b.time, rv]
def BatOk (b : Cr.Batch) : Prop := Bd.inR b.base ∧ Bd.inR b.count ∧ Bd.inR b.prod ∧ Bd.inR b.seq ∧ Bd.inR b.time ∧ b.recs.length ≤ maxLen ∧ ∀ x ∈ b.recs, RecOk x
theorem four_cells (w : World) (a b c d : Int) (k : Nat) (h : k < 4) (W : World) (hb : Below (w.alloc (.cells #[.int .i64 a, .int .i64 b, .int .i64 c, .int .i64 d] 3)).heap.size (w.alloc (.cells #[.int .i64 a, .int .i64 b, .int .i64 c, .int .i64 d] 3)) W) :
    W.cell? ⟨w.heap.size, k, none⟩ = some (.int .i64 ([a, b, c, d].getD k 0)) := by
  have e1 := (hb.block w.heap.size (by simp)).trans (heap_alloc_new w _)
  match k, h with
  | 0, _ => simp [World.cell?, e1]
  | 1, _ => simp [World.cell?, e1]
  | 2, _ => simp [World.cell?, e1]
  | 3, _ => simp [World.cell?, e1]
theorem bat_cells (w : World) (b : Cr.Batch) (rv : Value) (W : World) (hb : Below (w.alloc (.cells (batCells b rv) 40)).heap.size (w.alloc (.cells (batCells b rv) 40)) W) :
    W.cell? ⟨w.heap.size, 0, none⟩ = some (.int .i64 b.base) ∧ W.cell? ⟨w.heap.size, 1, none⟩ = some (.int .i64 b.count) ∧ W.cell? ⟨w.heap.size, 2, none⟩ = some (.int .i64 b.prod) ∧ W.cell? ⟨w.heap.size, 3, none⟩ = some (.int .i64 b.seq) ∧
      W.cell? ⟨w.heap.size, 4, none⟩ = some (.int .i64 b.time) ∧ W.cell? ⟨w.heap.size, 5, none⟩ = some rv := by
  have e1 := (hb.block w.heap.size (by simp)).trans (heap_alloc_new w _)
  simp [World.cell?, e1, batCells]
theorem rec_cells (w : World) (x : Cr.Rec) (W : World) (hb : Below (w.alloc (.cells #[.int .i64 x.off, .string ⟨x.key.toArray⟩, .string ⟨x.val.toArray⟩, .bool x.gone] 57)).heap.size (w.alloc (.cells #[.int .i64 x.off, .string ⟨x.key.toArray⟩, .string ⟨x.val.toArray⟩, .bool x.gone] 57)) W) :
    W.cell? ⟨w.heap.size, 0, none⟩ = some (.int .i64 x.off) ∧ W.cell? ⟨w.heap.size, 1, none⟩ = some (.string ⟨x.key.toArray⟩) ∧ W.cell? ⟨w.heap.size, 2, none⟩ = some (.string ⟨x.val.toArray⟩) ∧ W.cell? ⟨w.heap.size, 3, none⟩ = some (.bool x.gone) := by
  have e1 := (hb.block w.heap.size (by simp)).trans (heap_alloc_new w _)
  simp [World.cell?, e1]
theorem goodRecs_step (hi next : Int) (l : List Cr.Rec) (k : Nat) (x : Cr.Rec) (h : l[k]? = some x) : Cr.goodRecs hi next (l.drop k) = (Cr.isRec x && (decide (next ≤ x.off) && (decide (x.off < hi) && Cr.goodRecs hi (x.off + 1) (l.drop (k + 1))))) := by
  obtain ⟨hk, rfl⟩ := List.getElem?_eq_some_iff.1 h
  rw [List.drop_eq_getElem_cons hk]
  rfl
end Go.Proofs.YtkjbhkillkbcgaaDoor
