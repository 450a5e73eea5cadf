/-
  The document's row, beside its memory: small lemmas.
  Conditions: none.
-/
import Derived.Test.YtccndbifnbmddaaRga
import Derived.OwnWalk
import Derived.Deep.Cut
set_option linter.unusedVariables false
set_option linter.unusedSimpArgs false
namespace Go.Proofs.Ytccndbifnbmddaa
open Go.RowKit Fl

/-- A size that the document reads. -/
abbrev szV (q : Nat × Nat) : Value := .agg #[.int .i64 q.1, .int .i64 q.2]
theorem infoSz : (Try.prog.info? 81).map (fun i => (i.zero, i.size, i.bytes)) = some (some (.agg #[.int .i64 0, .int .i64 0]), 2, 16) := by kernel_rfl
def RPushPost (B p : Nat) (v : Value) (ns : List (Nat × Nat)) (w : World) (e : Ending) (w' : World) : Prop :=
  e = .returned (.int .i64 0) ∧ ∃ v', RRow w' B p v' ns ∧ Turned w w' p v v'
theorem szCells_one (q : Nat × Nat) : szCells [q] = [.int .i64 q.1, .int .i64 q.2] := rfl
theorem below_alloc_sz {w w1 : World} (hb : Below w.heap.size w w1) (o : Obj) : Below w.heap.size w (w1.alloc o) := hb.alloc hb.size o
theorem RRow.below {w w' : World} {B p : Nat} {v : Value} {ns : List (Nat × Nat)} (h : RRow w B p v ns) (hb : Below w.heap.size w w') : RRow w' B p v ns :=
  h.kept (Keeps.below (fun _ => False) hb) id (fun _ _ => id)
/-- The row's slice grown by one and laid into the row: what holds then. -/
theorem rpush_post {w W w2 : World} {B p : Nat} {v v' : Value} {ns : List (Nat × Nat)} {a b : Nat} (h : RRow w B p v ns) (hb : Below w.heap.size w W) (hl : ns.length < 4096) (ha : a ≤ most) (hbm : b ≤ most)
    (hown : Sl w2 B 2 v' (ns.length + 1) (szCells ns ++ [.int .i64 a, .int .i64 b])) (hg : W.grownBy w2 v.ownBlock) (hnew : v'.ownBlock = v.ownBlock ∨ ∀ k, v'.ownBlock = some k → W.heap.size ≤ k) :
    RPushPost B p v (ns ++ [(a, b)]) w (.returned (.int .i64 0)) (w2.setCell ⟨p, 0, none⟩ v') ∧ w2.cell? ⟨p, 0, none⟩ = some v ∧ w2.frozen? ⟨p, 0, none⟩ = false := by
  have hplt := h.lt
  have hsz := hb.size
  have hk1 : Keeps (fun k => v.ownBlock = some k) w w2 := (Keeps.below _ hb).trans (Keeps.grown hg (fun k hk => hk))
  have hpo : ¬ v.ownBlock = some p := h.2.2.2.1
  have hblk : w2.heap[p]? = some (.cells #[v] 79 (0, 0)) := (hk1.block p hplt hpo).trans h.1
  have hnew' : v'.ownBlock = v.ownBlock ∨ ∀ k, v'.ownBlock = some k → w.heap.size ≤ k := hnew.imp id (fun hn k hk => Nat.le_trans hsz (hn k hk))
  refine ⟨⟨rfl, v', ⟨one_setCell hblk, h.2.1, ?_, ?_, ?_, ?_⟩, ?_, hnew'⟩, cell_of_one hblk, free_of_one hblk⟩
  · have h3 : Sl w2 B 2 v' (ns ++ [(a, b)]).length (szCells (ns ++ [(a, b)])) := by rw [szCells_append]; simpa [szCells_one] using hown
    refine h3.kept (S := fun k => k = p) (Keeps.setCell _ _ _ _ rfl) (fun k hk e => ?_)
    subst e
    rcases hnew' with hn | hn
    · exact hpo (hn ▸ hk)
    · have := hn k hk; omega
  · intro hk
    rcases hnew' with hn | hn
    · exact hpo (hn ▸ hk)
    · have := hn p hk; omega
  · intro q hq
    rcases List.mem_append.1 hq with hq | hq
    · exact h.2.2.2.2.1 q hq
    · simp at hq; subst hq; exact ⟨ha, hbm⟩
  · simp; omega
  · exact (hk1.mono (fun k _ hk => .inr hk)).trans (Keeps.setCell _ _ _ _ (.inl rfl))


end Go.Proofs.Ytccndbifnbmddaa
