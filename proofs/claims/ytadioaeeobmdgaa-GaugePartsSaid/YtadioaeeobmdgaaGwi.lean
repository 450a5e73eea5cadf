/-
  A loop over All whose body turns the row.
  Conditions: none but the model's longest length.
-/
import Derived.Test.YtadioaeeobmdgaaGwh
import Derived.Test.YtadioaeeobmdgaaGlc
import Derived.RangeFuncBox
set_option linter.unusedVariables false
set_option linter.unusedSimpArgs false
namespace Go.Proofs.Ytadioaeeobmdgaa
open Go.RowKit Fl Go.Shelf
attribute [local go_sem] Oper.semAt_some

theorem GRow.ownCells {w : World} {B p : Nat} {v : Value} {ns : List (Nat × Nat)} (h : GRow w B p v ns) (hne : ns ≠ []) {g : Nat} (hg : v.ownBlock = some g) : ∃ o, w.heap[g]? = some o ∧ Obj.isCells o = true := by
  rcases h.2.2.1.2 with ⟨hv, h0⟩ | ⟨g', off, cap, rfl, hB, hg', hn, hm, hr, ht⟩
  · exact absurd (List.eq_nil_of_length_eq_zero h0) hne
  · simp [Value.ownBlock] at hg
    subst hg
    match ns, hne with
    | q :: ns, _ => exact cells_of_cell (hr 0 (cx q) rfl)
theorem GRow.grown {w w' : World} {B p : Nat} {v : Value} {ns : List (Nat × Nat)} {row : Option Nat} (h : GRow w B p v ns) (hg : w.grownBy w' row) (hr : ∀ r, row = some r → ∃ o : Obj, w.heap[r]? = some o ∧ Obj.isCells o = false) : GRow w' B p v ns := by
  obtain ⟨h1, h2, h3, h4, h5, h6⟩ := h
  have hc : ∀ a u, w.cell? a = some u → w'.cell? a = some u := fun a u hu => cell_kept hu hg hr
  refine ⟨(grownBy_keeps_cells hg hr h1 rfl).trans h1, h2, ⟨h3.1, ?_⟩, h4, h5, h6⟩
  rcases h3.2 with h0 | ⟨g, off, cap, rfl, hB, hg', hn, hm, hra, hth⟩
  · exact .inl h0
  · refine .inr ⟨g, off, cap, rfl, hB, Nat.lt_of_lt_of_le hg' hg.size, hn, hm, fun j u hu => hc _ _ (hra j u hu), fun j hj => ?_⟩
    obtain ⟨c1, c2⟩ := hth j hj
    obtain ⟨u, hu⟩ := Option.isSome_iff_exists.1 c1
    exact ⟨by rw [hc _ _ hu]; rfl, (frozen_kept hu hg hr).trans c2⟩
/-- The row, its list in none of the blocks from b3 to L. -/
def GR (B p b3 L : Nat) (W : World) (ms : List (Nat × Nat)) : Prop := ∃ v, GRow W B p v ms ∧ ∀ g, v.ownBlock = some g → g < b3 ∨ L ≤ g
/-- What a method of the row keeps, seen from a loop over its sizes. -/
structure Mv (B p b3 L : Nat) (W W' : World) : Prop where
  boxes : ∀ b, b3 ≤ b → b < L → W'.heap[b]? = W.heap[b]?
  others : KeepsOthers W W'
  kp : KpR L p W W'
  bel : Below B W W'
theorem Mv.trans {B p b3 L : Nat} {X Y Z : World} (h : Mv B p b3 L X Y) (k : Mv B p b3 L Y Z) : Mv B p b3 L X Z :=
  ⟨fun b h1 h2 => (k.boxes b h1 h2).trans (h.boxes b h1 h2), h.others.trans k.others, h.kp.trans k.kp, h.bel.trans k.bel⟩
theorem Mv.of {B p b3 L : Nat} {W W' : World} {v v' : Value} {ms ms' : List (Nat × Nat)} (hp : p < b3) (hB : b3 ≤ L) (hL : L ≤ W.heap.size) (h : GRow W B p v ms) (hne : ms ≠ []) (ho : ∀ g, v.ownBlock = some g → g < b3 ∨ L ≤ g) (ht : Turned W W' p v v') (h' : GRow W' B p v' ms') :
    Mv B p b3 L W W' ∧ GR B p b3 L W' ms' := by
  have hkp : KpR L p W W' := by
    refine ⟨ht.1.size, fun g o hg hgo hoc hs => ?_, fun u hu => ?_⟩
    · have hlt := (Array.getElem?_eq_some_iff.1 hgo).1
      rw [ht.1.block g hlt (fun e => by rcases e with e | e; (· omega); exact hs v h.cell e)]
      exact hgo
    · rw [h'.cell] at hu
      injection hu with hu
      subst hu
      rcases ht.2 with e | e
      · exact .inl ⟨v, h.cell, e.symm⟩
      · exact .inr e
  refine ⟨⟨fun b h1 h2 => ht.1.block b (by omega) (fun e => by rcases e with e | e; (· omega); rcases ho b e with e | e <;> omega), ⟨ht.1.size, fun k o hk hko => ?_⟩, hkp, ht.below h⟩, v', h', fun g hg => ?_⟩
  · have hlt := (Array.getElem?_eq_some_iff.1 hk).1
    by_cases hs : k = p ∨ v.ownBlock = some k
    · rcases hs with e | e
      · subst e
        rw [h.1] at hk
        injection hk with hk
        subst hk
        cases hko
      · obtain ⟨o', h1, h2⟩ := h.ownCells hne e
        rw [hk] at h1
        injection h1 with h1
        subst h1
        rw [hko] at h2
        cases h2
    · rw [ht.1.block k hlt hs]; exact hk
  · rcases ht.2 with e | e
    · rw [e] at hg; exact ho g hg
    · exact .inr (Nat.le_trans hL (e g hg))
theorem GR.kept {B p b3 L : Nat} {W W' : World} {ms : List (Nat × Nat)} {S : Nat → Prop} (h : GR B p b3 L W ms) (hp : p < b3) (hk : Keeps S W W') (hs : ∀ k, S k → b3 ≤ k ∧ k < L) : GR B p b3 L W' ms := by
  obtain ⟨v, hg, ho⟩ := h
  exact ⟨v, hg.kept hk (fun e => by have := hs p e; omega) (fun k e h2 => by have := hs k h2; have := ho k e; omega), ho⟩
theorem KpR.set {L p b : Nat} (W : World) (u : Value) (hp : p ≠ b) (hb : b < L) : KpR L p W (W.setCell ⟨b, 0, none⟩ u) := by
  have hk : Keeps (fun k => k = b) W (W.setCell ⟨b, 0, none⟩ u) := Keeps.setCell _ _ _ _ rfl
  refine ⟨hk.size, fun g o hg hgo _ _ => (hk.block g (Array.getElem?_eq_some_iff.1 hgo).1 (by omega)).trans hgo, fun v hv => ?_⟩
  by_cases hlt : p < W.heap.size
  · exact .inl ⟨v, by rw [← hv]; exact (hk.cell (a := ⟨p, 0, none⟩) hlt hp).symm, rfl⟩
  · exfalso
    have hs : (W.setCell ⟨b, 0, none⟩ u).heap.size = W.heap.size := size_setCells W b 0 [u]
    obtain ⟨o, h1, _⟩ := cells_of_cell hv
    have := (Array.getElem?_eq_some_iff.1 h1).1
    rw [hs] at this
    exact hlt this
theorem Mv.drewN (B p b3 L : Nat) (W : World) (n : Nat) : Mv B p b3 L W (W.drewN n) :=
  ⟨fun _ _ _ => rfl, ⟨Nat.le_refl _, fun _ _ h _ => h⟩, ⟨Nat.le_refl _, fun _ _ _ h _ _ => h, fun v hv => .inl ⟨v, hv, rfl⟩⟩, below_drewN (Below.refl _ _) _⟩

end Go.Proofs.Ytadioaeeobmdgaa
