/-
  A block of cells, told whole: read, stored into, kept; a row of the call's own stored into at any cell. No program in sight.
  Conditions: none.
-/
import Derived.Test.YtbljbdjmgogknaaGreatDoorSl
import Derived.Laws.ResultCell
import Derived.Laws.Rows
set_option linter.unusedVariables false
set_option linter.unusedSimpArgs false
namespace Go.Proofs.YtbljbdjmgogknaaGreatDoor
open Go.RowKit

/-- A block's cells. -/
def Cl (w : World) (g : Nat) (cs : List Value) (t : TypeId) : Prop := w.heap[g]? = some (.cells cs.toArray t (0, 0))
theorem Cl.cell {w : World} {g : Nat} {cs : List Value} {t : TypeId} (h : Cl w g cs t) (k : Nat) : w.cell? ⟨g, k, none⟩ = cs[k]? := by
  unfold Cl at h
  simp [World.cell?, h]
theorem Cl.free {w : World} {g : Nat} {cs : List Value} {t : TypeId} (h : Cl w g cs t) (k : Nat) : w.frozen? ⟨g, k, none⟩ = false := by
  unfold Cl at h
  simp [World.frozen?, h]
theorem Cl.lt {w : World} {g : Nat} {cs : List Value} {t : TypeId} (h : Cl w g cs t) : g < w.heap.size := (Array.getElem?_eq_some_iff.1 h).1
theorem Cl.new (w : World) (cs : List Value) (t : TypeId) : Cl (w.alloc (.cells cs.toArray t)) w.heap.size cs t := heap_alloc_new w _
theorem Cl.set {w : World} {g : Nat} {cs : List Value} {t : TypeId} (h : Cl w g cs t) (k : Nat) (u : Value) : Cl (w.setCell ⟨g, k, none⟩ u) g (cs.set k u) t := by
  unfold Cl at h ⊢
  simp [World.setCell, Array.getElem?_modify, h]
theorem Cl.other {w : World} {g : Nat} {cs : List Value} {t : TypeId} (h : Cl w g cs t) (p : Addr) (u : Value) (hp : p.block ≠ g) : Cl (w.setCell p u) g cs t := (Below.heap_setCell _ _ _ _ (fun e => hp e.symm)).trans h
theorem Cl.keep {S : Nat → Prop} {w w' : World} {g : Nat} {cs : List Value} {t : TypeId} (h : Cl w g cs t) (k : Keeps S w w') (hs : ¬ S g) : Cl w' g cs t := (k.block g h.lt hs).trans h
theorem Cl.below {w w' : World} {g : Nat} {cs : List Value} {t : TypeId} (h : Cl w g cs t) (hb : Below w.heap.size w w') : Cl w' g cs t := (hb.block g h.lt).trans h
theorem Cl.alloc {w : World} {g : Nat} {cs : List Value} {t : TypeId} (h : Cl w g cs t) (o : Obj) : Cl (w.alloc o) g cs t := (Below.heap_alloc w o g h.lt).trans h
theorem Cl.grown {w w' : World} {g : Nat} {cs : List Value} {t : TypeId} {row : Option Nat} (h : Cl w g cs t) (hg : w.grownBy w' row) (hne : some g ≠ row) : Cl w' g cs t := (hg.block g h.lt hne).trans h
theorem Cl.drewN {w : World} {g : Nat} {cs : List Value} {t : TypeId} (h : Cl w g cs t) (n : Nat) : Cl (w.drewN n) g cs t := h
theorem Cl.cell6 {w : World} {g : Nat} {a b c d e f : Value} {t : TypeId} (h : Cl w g [a, b, c, d, e, f] t) : w.cell? ⟨g, 0, none⟩ = some a ∧ w.cell? ⟨g, 1, none⟩ = some b ∧ w.cell? ⟨g, 2, none⟩ = some c ∧ w.cell? ⟨g, 3, none⟩ = some d ∧ w.cell? ⟨g, 4, none⟩ = some e ∧ w.cell? ⟨g, 5, none⟩ = some f :=
  ⟨h.cell 0, h.cell 1, h.cell 2, h.cell 3, h.cell 4, h.cell 5⟩
theorem Cl.free6 {w : World} {g : Nat} {cs : List Value} {t : TypeId} (h : Cl w g cs t) : w.frozen? ⟨g, 0, none⟩ = false ∧ w.frozen? ⟨g, 1, none⟩ = false ∧ w.frozen? ⟨g, 2, none⟩ = false ∧ w.frozen? ⟨g, 3, none⟩ = false ∧ w.frozen? ⟨g, 4, none⟩ = false ∧ w.frozen? ⟨g, 5, none⟩ = false :=
  ⟨h.free 0, h.free 1, h.free 2, h.free 3, h.free 4, h.free 5⟩
theorem Cl.cell4 {w : World} {g : Nat} {a b c d : Value} {t : TypeId} (h : Cl w g [a, b, c, d] t) : w.cell? ⟨g, 0, none⟩ = some a ∧ w.cell? ⟨g, 1, none⟩ = some b ∧ w.cell? ⟨g, 2, none⟩ = some c ∧ w.cell? ⟨g, 3, none⟩ = some d :=
  ⟨h.cell 0, h.cell 1, h.cell 2, h.cell 3⟩
theorem Sl.setc {w : World} {B size : Nat} {v : Value} {n : Nat} {xs : List Value} (h : Sl w B size v n xs) (k : Nat) (hk : k < n * size) (u : Value) :
    ∃ g off cap u0, v = .slice (some ⟨g, off, none⟩) n cap ∧ B ≤ g ∧ w.cell? ⟨g, off + k, none⟩ = some u0 ∧ w.frozen? ⟨g, off + k, none⟩ = false ∧ Sl (w.setCell ⟨g, off + k, none⟩ u) B size v n (xs.set k u) := by
  obtain ⟨hlen, h2⟩ := h
  rcases h2 with ⟨_, rfl⟩ | ⟨g, off, cap, rfl, hB, hg, hn, hm, hr, ht⟩
  · rw [Nat.zero_mul] at hk; omega
  · have hth := ht k (Nat.lt_of_lt_of_le hk (Nat.mul_le_mul_right _ hn))
    obtain ⟨u0, hu0⟩ := Option.isSome_iff_exists.1 hth.1
    refine ⟨g, off, cap, u0, rfl, hB, hu0, hth.2, by rw [List.length_set]; exact hlen, .inr ⟨g, off, cap, rfl, hB, by simpa [World.setCell] using hg, hn, hm, ?_, ?_⟩⟩
    · intro j z hz
      rw [List.getElem?_set] at hz
      by_cases e : k = j
      · subst e
        rw [if_pos rfl, if_pos (by omega)] at hz
        injection hz with hz
        subst hz
        exact World.cell?_setCell_same _ _ _ hu0
      · rw [if_neg e] at hz
        rw [World.cell?_setCell_other _ _ _ _ (fun he => e (by injection he with _ he2; omega))]
        exact hr j z hz
    · exact World.there_setCells (vs := [u]) ht g (off + k)
theorem Sl.otherCell {w : World} {B size : Nat} {v : Value} {n : Nat} {xs : List Value} (h : Sl w B size v n xs) (p : Addr) (u : Value) (hp : v.ownBlock ≠ some p.block) : Sl (w.setCell p u) B size v n xs :=
  h.kept (S := fun k => k = p.block) (Keeps.setCell _ _ _ _ rfl) (fun k hk e => hp (e ▸ hk))

theorem results_cl_tmp {P : Program} {fn : Func} {p u : Tmp} {ty : TypeId} (h : fn.results = #[.cell p ty, .tmp u]) (tmps : Array Value) (w : World) (g : Nat) (t : TypeId) (cs : List Value) (d : TypeDesc) (hp : tmps.getD p undef = .pointer (some ⟨g, 0, none⟩)) (hg : Cl w g cs t)
    (hu : P.underlying ty = some d) (hd : (match d with | .struct _ | .array _ _ => true | _ => false) = true) (hi : (P.info? ty).map (·.size) = some cs.length) : (results fn tmps).run P w = .ok (.tuple #[.agg cs.toArray, tmps.getD u undef]) w := by
  rw [results_cell_tmp h, hp]
  simp [asAddr, run_loadVar_row w g t ty cs.toArray (0, 0) d hg hu hd (by simpa using hi)]
theorem Cl.src {w : World} {g : Nat} {cs : List Value} {t : TypeId} (h : Cl w g cs t) (size m c : Nat) (hl : cs.length = m * size) : SrcIs w size (.slice (some ⟨g, 0, none⟩) m c) m cs :=
  .inr ⟨_, c, rfl, hl, fun j u hu => by
    have e : (Addr.add ⟨g, 0, none⟩ j) = ⟨g, j, none⟩ := by
      unfold Addr.add
      split
      · subst_vars; rfl
      · simp
    rw [e, h.cell j]; exact hu⟩
theorem results_cl {P : Program} {fn : Func} {p : Tmp} {ty : TypeId} (h : fn.results = #[.cell p ty]) (tmps : Array Value) (w : World) (g : Nat) (t : TypeId) (cs : List Value) (d : TypeDesc) (hp : tmps.getD p undef = .pointer (some ⟨g, 0, none⟩)) (hg : Cl w g cs t)
    (hu : P.underlying ty = some d) (hd : (match d with | .struct _ | .array _ _ => true | _ => false) = true) (hi : (P.info? ty).map (·.size) = some cs.length) : (results fn tmps).run P w = .ok (.agg cs.toArray) w :=
  results_cell_row h tmps w g t cs.toArray (0, 0) d hp hg hu hd (by simpa using hi)

end Go.Proofs.YtbljbdjmgogknaaGreatDoor
