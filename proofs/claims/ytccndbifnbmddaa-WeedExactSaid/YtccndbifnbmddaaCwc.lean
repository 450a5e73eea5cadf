/-
  Crate: Fits, walked, with the library's functions under it; the document's num, rec, Fits.
  Conditions: none.
-/
import Derived.Test.YtccndbifnbmddaaCwb
set_option linter.unusedVariables false
set_option linter.unusedSimpArgs false
namespace Go.Proofs.Ytccndbifnbmddaa
open Go.RowKit

/-- A record's cells, in a later world. -/
theorem Recs.get {w w' : World} {v : Value} {l : List Cr.Rec} (h : Recs w v l) (hb : Below w.heap.size w w') {k : Nat} {x : Cr.Rec} (hk : l[k]? = some x) : ∃ g off cap, v = .slice (some ⟨g, off, none⟩) l.length cap ∧ g < w.heap.size ∧
    w'.cell? ⟨g, off + k * 4, none⟩ = some (.int .i64 x.off) ∧ w'.cell? ⟨g, off + k * 4 + 1, none⟩ = some (.string ⟨x.key.toArray⟩) ∧ w'.cell? ⟨g, off + k * 4 + 2, none⟩ = some (.string ⟨x.val.toArray⟩) ∧ w'.cell? ⟨g, off + k * 4 + 3, none⟩ = some (.bool x.gone) := by
  obtain ⟨a, cap, rfl, hc⟩ := h
  obtain ⟨g, off, rfl, hg, h1, h2, h3, h4⟩ := hc k x hk
  exact ⟨g, off, cap, rfl, hg, (hb.cell (p := ⟨g, off + k * 4, none⟩) hg).trans h1, (hb.cell (p := ⟨g, off + k * 4 + 1, none⟩) hg).trans h2, (hb.cell (p := ⟨g, off + k * 4 + 2, none⟩) hg).trans h3, (hb.cell (p := ⟨g, off + k * 4 + 3, none⟩) hg).trans h4⟩
theorem Recs.form {w : World} {v : Value} {l : List Cr.Rec} (h : Recs w v l) : ∃ a cap, v = .slice a l.length cap := by
  obtain ⟨a, cap, rfl, _⟩ := h
  exact ⟨a, cap, rfl⟩
/-- The first record that cannot be. -/
def idxBad : Nat → List Cr.Rec → Int
  | _, [] => -1
  | k, x :: r => if Cr.isRec x then idxBad (k + 1) r else k
theorem idxBad_step (l : List Cr.Rec) (k : Nat) (x : Cr.Rec) (h : l[k]? = some x) : idxBad k (l.drop k) = if Cr.isRec x then idxBad (k + 1) (l.drop (k + 1)) else k := by
  obtain ⟨hk, rfl⟩ := List.getElem?_eq_some_iff.1 h
  rw [List.drop_eq_getElem_cons hk]
  rfl
theorem idxBad_all (l : List Cr.Rec) : ∀ k, decide (0 ≤ idxBad k l) = !l.all Cr.isRec ∧ -1 ≤ idxBad k l ∧ idxBad k l ≤ k + l.length := by
  induction l with
  | nil => intro k; simp [idxBad]
  | cons x r ih =>
    intro k
    cases h : Cr.isRec x with
    | true =>
      obtain ⟨h1, h2, h3⟩ := ih (k + 1)
      simp only [idxBad, h, if_true, List.all_cons, Bool.true_and, List.length_cons]
      exact ⟨h1, h2, by omega⟩
    | false =>
      simp [idxBad, h]
      omega
theorem all_step (l : List Cr.Rec) (k : Nat) (x : Cr.Rec) (h : l[k]? = some x) : (l.drop k).all Cr.isRec = (Cr.isRec x && (l.drop (k + 1)).all Cr.isRec) := by
  obtain ⟨hk, rfl⟩ := List.getElem?_eq_some_iff.1 h
  rw [List.drop_eq_getElem_cons hk]
  rfl
end Go.Proofs.Ytccndbifnbmddaa
