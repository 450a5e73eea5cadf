/-
  The document's row of sizes in memory (chapter 04's reference): its form. No walk here.
-/
import Derived.Test.YtccndbifnbmddaaGwf
set_option linter.unusedVariables false
set_option linter.unusedSimpArgs false
namespace Go.Proofs.Ytccndbifnbmddaa
open Go.RowKit Fl

/-- Sizes' cells, one behind the other. -/
def szCells (ns : List (Nat × Nat)) : List Value := ns.flatMap fun q => [.int .i64 q.1, .int .i64 q.2]
theorem szCells_len (ns : List (Nat × Nat)) : (szCells ns).length = ns.length * 2 := by
  induction ns with
  | nil => rfl
  | cons x l ih => simp only [szCells, List.flatMap_cons, List.length_append, List.length_cons, List.length_nil] at ih ⊢; omega
theorem szCells_append (a b : List (Nat × Nat)) : szCells (a ++ b) = szCells a ++ szCells b := by simp [szCells]
theorem szCells_get : ∀ (l : List (Nat × Nat)) (k : Nat) (x : Nat × Nat), l[k]? = some x → (szCells l)[k * 2]? = some (.int .i64 x.1) ∧ (szCells l)[k * 2 + 1]? = some (.int .i64 x.2) := by
  intro l
  induction l with
  | nil => intro k x h; simp at h
  | cons y l ih =>
    intro k x h
    cases k with
    | zero =>
      obtain rfl : y = x := by simpa using h
      exact ⟨rfl, rfl⟩
    | succ k =>
      have e : szCells (y :: l) = [.int .i64 y.1, .int .i64 y.2] ++ szCells l := rfl
      have hk := ih k x (by simpa using h)
      rw [e, show (k + 1) * 2 = 2 + k * 2 by omega]
      simp only [List.cons_append, List.nil_append, Nat.add_assoc, Nat.add_comm 2, List.getElem?_cons_succ]
      exact hk
theorem szCells_set : ∀ (l : List (Nat × Nat)) (k : Nat) (x : Nat × Nat), k < l.length → ((szCells l).set (k * 2) (.int .i64 x.1)).set (k * 2 + 1) (.int .i64 x.2) = szCells (l.set k x) := by
  intro l
  induction l with
  | nil => intro k x h; simp at h
  | cons y l ih =>
    intro k x h
    cases k with
    | zero => rfl
    | succ k =>
      have e : szCells (y :: l) = [.int .i64 y.1, .int .i64 y.2] ++ szCells l := rfl
      have hk := ih k x (by simpa using h)
      rw [e, show (k + 1) * 2 = 2 + k * 2 by omega]
      simp only [List.cons_append, List.nil_append, Nat.add_comm 2, List.set_cons_succ, Nat.add_assoc]
      rw [hk]
      rfl
/-- The document's row at block p: its slice v, its sizes. -/
def RRow (w : World) (B p : Nat) (v : Value) (ns : List (Nat × Nat)) : Prop :=
  w.heap[p]? = some (.cells #[v] 79 (0, 0)) ∧ B ≤ p ∧ Sl w B 2 v ns.length (szCells ns) ∧ v.ownBlock ≠ some p ∧ Sizes ns ∧ ns.length ≤ 4096
theorem RRow.kept {S : Nat → Prop} {w w' : World} {B p : Nat} {v : Value} {ns : List (Nat × Nat)} (h : RRow w B p v ns) (hk : Keeps S w w') (hp : ¬ S p) (hv : ∀ k, v.ownBlock = some k → ¬ S k) : RRow w' B p v ns := by
  obtain ⟨h1, h2, h3, h4, h5, h6⟩ := h
  have hlt : p < w.heap.size := (Array.getElem?_eq_some_iff.1 h1).1
  exact ⟨(hk.block p hlt hp).trans h1, h2, h3.kept hk hv, h4, h5, h6⟩
theorem RRow.lt {w : World} {B p : Nat} {v : Value} {ns : List (Nat × Nat)} (h : RRow w B p v ns) : p < w.heap.size := (Array.getElem?_eq_some_iff.1 h.1).1
theorem RRow.cell {w : World} {B p : Nat} {v : Value} {ns : List (Nat × Nat)} (h : RRow w B p v ns) : w.cell? ⟨p, 0, none⟩ = some v := cell_of_one h.1
theorem RRow.new (w : World) (B : Nat) (hB : B ≤ w.heap.size) : RRow (w.alloc (.cells #[.slice none 0 0] 79)) B w.heap.size (.slice none 0 0) [] :=
  ⟨heap_alloc_new w _, hB, Sl.nil _ _ _, by simp [Value.ownBlock], fun q hq => (by cases hq), by simp⟩
theorem RRow.drewN {w : World} {B p : Nat} {v : Value} {ns : List (Nat × Nat)} (h : RRow w B p v ns) (n : Nat) : RRow (w.drewN n) B p v ns := h.kept (S := fun _ => False) (Keeps.drewN _ w n) id (fun _ _ => id)
theorem Sl.sizes {w : World} {B : Nat} {a : Option Addr} {cap : Nat} {ns : List (Nat × Nat)} (h : Sl w B 2 (.slice a ns.length cap) ns.length (szCells ns)) :
    ∀ k, k < ns.length → ∃ g off, a = some ⟨g, off, none⟩ ∧ w.cell? ⟨g, off + k * 2, none⟩ = some (.int .i64 (ns.getD k (0, 0)).1) ∧ w.cell? ⟨g, off + k * 2 + 1, none⟩ = some (.int .i64 (ns.getD k (0, 0)).2) := by
  intro k hk
  have hget : ns[k]? = some (ns.getD k (0, 0)) := by simp [List.getD, hk]
  obtain ⟨e0, e1⟩ := szCells_get ns k _ hget
  rcases h.2 with ⟨_, h0⟩ | ⟨g, off, cap', he, hB, hg, hn, hm, hr, ht⟩
  · omega
  · injection he with h1 h2 h3
    subst h1
    exact ⟨g, off, rfl, hr _ _ e0, by rw [Nat.add_assoc]; exact hr _ _ e1⟩
/-- Two rows beside each other: none of their blocks is one. -/
structure Apart (w : World) (p q : Nat) (v x : Value) : Prop where
  ne : p ≠ q
  vq : v.ownBlock ≠ some q
  xp : x.ownBlock ≠ some p
  vx : ∀ k, v.ownBlock = some k → x.ownBlock ≠ some k
theorem Apart.symm {w : World} {p q : Nat} {v x : Value} (h : Apart w p q v x) : Apart w q p x v := ⟨h.ne.symm, h.xp, h.vq, fun k hk hv => h.vx k hv hk⟩
/-- The one row turned: the other one stands. -/
theorem Turned.other {w w' : World} {B p q : Nat} {v v' x : Value} {ns : List (Nat × Nat)} (h : Turned w w' p v v') (ha : Apart w p q v x) (hr : RRow w B q x ns) : RRow w' B q x ns ∧ Apart w' p q v' x := by
  have hlx : ∀ k, x.ownBlock = some k → k < w.heap.size := fun k hk => (hr.2.2.1.lt k hk).2
  have hlt := hr.lt
  refine ⟨hr.kept h.1 (fun hs => ?_) (fun k hk hs => ?_), ⟨ha.ne, fun hq => ?_, ha.xp, fun k hk hx => ?_⟩⟩
  · rcases hs with rfl | hs
    · exact ha.ne rfl
    · exact ha.vq hs
  · rcases hs with rfl | hs
    · exact ha.xp hk
    · exact ha.vx k hs hk
  · rcases h.2 with e | e
    · exact ha.vq (e ▸ hq)
    · have := e q hq; omega
  · rcases h.2 with e | e
    · exact ha.vx k (e ▸ hk) hx
    · have := e k hk
      have := hlx k hx
      omega
theorem Turned.otherG {w w' : World} {B p q : Nat} {v v' x : Value} {ns : List (Nat × Nat)} (h : Turned w w' p v v') (ha : Apart w p q v x) (hr : GRow w B q x ns) : GRow w' B q x ns ∧ Apart w' p q v' x := by
  have hlx : ∀ k, x.ownBlock = some k → k < w.heap.size := fun k hk => (hr.2.2.1.lt k hk).2
  have hlt := hr.lt
  refine ⟨hr.kept h.1 (fun hs => ?_) (fun k hk hs => ?_), ⟨ha.ne, fun hq => ?_, ha.xp, fun k hk hx => ?_⟩⟩
  · rcases hs with rfl | hs
    · exact ha.ne rfl
    · exact ha.vq hs
  · rcases hs with rfl | hs
    · exact ha.xp hk
    · exact ha.vx k hs hk
  · rcases h.2 with e | e
    · exact ha.vq (e ▸ hq)
    · have := e q hq; omega
  · rcases h.2 with e | e
    · exact ha.vx k (e ▸ hk) hx
    · have := e k hk
      have := hlx k hx
      omega

end Go.Proofs.Ytccndbifnbmddaa
