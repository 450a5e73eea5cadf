/-
  Rows of batches in memory; the greatest offset of each key, plainly.
  Conditions: none.
-/
import Derived.Test.YtkjbhkillkbcgaaDoorCwc
import Derived.Test.YtkjbhkillkbcgaaDoorMp
set_option linter.unusedVariables false
set_option linter.unusedSimpArgs false
namespace Go.Proofs.YtkjbhkillkbcgaaDoor
open Go.RowKit

/-- A slice of batches: its cells. -/
def Bats (w : World) (v : Value) (l : List Cr.Batch) : Prop :=
  ∃ a cap, v = .slice a l.length cap ∧ ∀ i b, l[i]? = some b → ∃ g off rv, a = some ⟨g, off, none⟩ ∧ g < w.heap.size ∧ w.cell? ⟨g, off + i * 6, none⟩ = some (.int .i64 b.base) ∧ w.cell? ⟨g, off + i * 6 + 1, none⟩ = some (.int .i64 b.count) ∧
    w.cell? ⟨g, off + i * 6 + 2, none⟩ = some (.int .i64 b.prod) ∧ w.cell? ⟨g, off + i * 6 + 3, none⟩ = some (.int .i64 b.seq) ∧ w.cell? ⟨g, off + i * 6 + 4, none⟩ = some (.int .i64 b.time) ∧ w.cell? ⟨g, off + i * 6 + 5, none⟩ = some rv ∧ Recs w rv b.recs
theorem Bats.get {w w' : World} {v : Value} {l : List Cr.Batch} (h : Bats w v l) (hb : Below w.heap.size w w') {i : Nat} {b : Cr.Batch} (hi : l[i]? = some b) : ∃ g off cap rv, v = .slice (some ⟨g, off, none⟩) l.length cap ∧ g < w.heap.size ∧ w'.cell? ⟨g, off + i * 6, none⟩ = some (.int .i64 b.base) ∧ w'.cell? ⟨g, off + i * 6 + 1, none⟩ = some (.int .i64 b.count) ∧
    w'.cell? ⟨g, off + i * 6 + 2, none⟩ = some (.int .i64 b.prod) ∧ w'.cell? ⟨g, off + i * 6 + 3, none⟩ = some (.int .i64 b.seq) ∧ w'.cell? ⟨g, off + i * 6 + 4, none⟩ = some (.int .i64 b.time) ∧ w'.cell? ⟨g, off + i * 6 + 5, none⟩ = some rv ∧ Recs w rv b.recs := by
  obtain ⟨a, cap, rfl, hc⟩ := h
  obtain ⟨g, off, rv, rfl, hg, h0, h1, h2, h3, h4, h5, hr⟩ := hc i b hi
  exact ⟨g, off, cap, rv, rfl, hg, (hb.cell (p := ⟨g, off + i * 6, none⟩) hg).trans h0, (hb.cell (p := ⟨g, off + i * 6 + 1, none⟩) hg).trans h1, (hb.cell (p := ⟨g, off + i * 6 + 2, none⟩) hg).trans h2, (hb.cell (p := ⟨g, off + i * 6 + 3, none⟩) hg).trans h3, (hb.cell (p := ⟨g, off + i * 6 + 4, none⟩) hg).trans h4, (hb.cell (p := ⟨g, off + i * 6 + 5, none⟩) hg).trans h5, hr⟩
theorem Bats.form {w : World} {v : Value} {l : List Cr.Batch} (h : Bats w v l) : ∃ a cap, v = .slice a l.length cap := by
  obtain ⟨a, cap, rfl, _⟩ := h
  exact ⟨a, cap, rfl⟩
theorem Bats.kept {w w' : World} {v : Value} {l : List Cr.Batch} (h : Bats w v l) (hb : Below w.heap.size w w') : Bats w' v l := by
  obtain ⟨a, cap, rfl, hc⟩ := h
  refine ⟨a, cap, rfl, fun i b hi => ?_⟩
  obtain ⟨g, off, rv, rfl, hg, h0, h1, h2, h3, h4, h5, hr⟩ := hc i b hi
  exact ⟨g, off, rv, rfl, Nat.lt_of_lt_of_le hg hb.size, (hb.cell (p := ⟨g, off + i * 6, none⟩) hg).trans h0, (hb.cell (p := ⟨g, off + i * 6 + 1, none⟩) hg).trans h1, (hb.cell (p := ⟨g, off + i * 6 + 2, none⟩) hg).trans h2, (hb.cell (p := ⟨g, off + i * 6 + 3, none⟩) hg).trans h3, (hb.cell (p := ⟨g, off + i * 6 + 4, none⟩) hg).trans h4, (hb.cell (p := ⟨g, off + i * 6 + 5, none⟩) hg).trans h5, hr.kept hb⟩

/-- Keys and their numbers. -/
abbrev LM := List (List UInt8 × Int)
def lookI : LM → List UInt8 → Option Int
  | [], _ => none
  | q :: r, k => if q.1 = k then some q.2 else lookI r k
def updI : LM → List UInt8 → Int → LM
  | [], k, n => [(k, n)]
  | q :: r, k, n => if q.1 = k then (k, n) :: r else q :: updI r k n
def imap (m : LM) : MapL := m.map fun q => (q.1, Value.int .i64 q.2)
theorem look_imap (m : LM) (k : List UInt8) : look (imap m) k = (lookI m k).map (Value.int .i64) := by
  induction m with
  | nil => rfl
  | cons q r ih =>
    simp only [imap, List.map_cons, look, lookI] at ih ⊢
    split
    · rfl
    · exact ih
theorem upd_imap (m : LM) (k : List UInt8) (n : Int) : upd (imap m) k (.int .i64 n) = imap (updI m k n) := by
  induction m with
  | nil => rfl
  | cons q r ih =>
    simp only [imap, List.map_cons, upd, updI] at ih ⊢
    split
    · rfl
    · rw [ih]; rfl
theorem lookI_same (m : LM) (k : List UInt8) (n : Int) : lookI (updI m k n) k = some n := by
  induction m with
  | nil => simp [updI, lookI]
  | cons q r ih =>
    rw [updI]
    split
    · simp [lookI]
    · rename_i e
      rw [lookI, if_neg e]; exact ih
theorem lookI_other (m : LM) {k k' : List UInt8} (n : Int) (h : k' ≠ k) : lookI (updI m k n) k' = lookI m k' := by
  induction m with
  | nil => simp [updI, lookI, Ne.symm h]
  | cons q r ih =>
    rw [updI]
    split
    · rename_i e
      rw [lookI, if_neg (Ne.symm h), lookI, if_neg (fun e2 => h (e2.symm.trans e))]
    · rw [lookI, lookI, ih]
/-- Whether a record's offset is told anew. -/
def lastNew (high : Int) (m : LM) (x : Cr.Rec) : Bool := decide (x.off < high) && (match lookI m x.key with | none => true | some n => decide (n < x.off))
def lastStep (high : Int) (m : LM) (x : Cr.Rec) : LM := if lastNew high m x = true then updI m x.key x.off else m
def lastB (high : Int) (m : LM) (b : Cr.Batch) : LM := b.recs.foldl (lastStep high) m
def lastL (high : Int) (l : List Cr.Batch) : LM := l.foldl (lastB high) []
theorem fold_take {α β : Type} (f : β → α → β) (z : β) (l : List α) (k : Nat) (x : α) (h : l[k]? = some x) : (l.take (k + 1)).foldl f z = f ((l.take k).foldl f z) x := by
  obtain ⟨hk, rfl⟩ := List.getElem?_eq_some_iff.1 h
  rw [List.take_succ_eq_append_getElem hk, List.foldl_append]
  rfl

end Go.Proofs.YtkjbhkillkbcgaaDoor
