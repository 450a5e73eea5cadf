/-
  Slices that came in, opened: each element's cells, and that these read as the element's type. No program in sight.
-/
import Derived.Test.YtbljbdjmgogknaaGreatDoorApp
import Derived.ProofKit
import Derived.OpenShut
import Derived.Deep.Slices
set_option linter.unusedVariables false
set_option linter.unusedSimpArgs false
namespace Go.Proofs.YtbljbdjmgogknaaGreatDoor
open Go.ChangeShapes Go.WideShapes Go.ChangeAt Go.RowKit

theorem slice_wide {P : Program} {W : World} {r : Reach} {base : Nat} {t e : TypeId} {v : Value} (hs : P.underlying t = some (.slice e)) (h : Value.okWide P W r base t v) :
    v = .slice none 0 0 ∨ ∃ b off len cap, v = .slice (some ⟨b, off, none⟩) len cap ∧ len ≤ cap ∧ cap ≤ maxLen ∧ b < W.heap.size := by
  simp only [Value.okWide, hs] at h
  cases v <;> simp [Cell.okWide, Cell.ok, hs] at h
  case slice a len cap =>
    cases a with
    | none =>
      left
      revert h
      cases len <;> cases cap <;> simp
    | some a =>
      right
      obtain ⟨h1, h2, h3⟩ := h
      obtain ⟨_, hsp, row, cells, hsh, _⟩ := h3
      obtain ⟨b, off, spot⟩ := a
      simp only at hsp
      subst hsp
      refine ⟨b, off, len, cap, rfl, h1, ?_, ?_⟩
      · unfold maxLen
        omega
      · rcases Nat.lt_or_ge b W.heap.size with hlt | hge
        · exact hlt
        · simp [World.shape?, Array.getElem?_eq_none hge] at hsh
/-- A slice that came in: each element's cells, and what they read as. -/
theorem slice_open {P : Program} {W : World} {r : Reach} {base b0 : Nat} {t e : TypeId} {v : Value} {H : Type} {enc : TypeId × Value → H} {spare : Nat → Bool} {held : Bool} {d : DataW H} {p : List MemPlace}
    (hs : P.underlying t = some (.slice e)) (hv : Value.okWide P W r base t v) (h : DataW.Trod enc P W b0 spare held t v d p) :
    ∃ a len cap, v = .slice a len cap ∧ len ≤ cap ∧ cap ≤ maxLen ∧ (a = none → len = 0 ∧ cap = 0) ∧ (∀ x, a = some x → ∃ b off, x = ⟨b, off, none⟩ ∧ b < W.heap.size) ∧
      ∀ i, i < len → ∃ b off cs n y, a = some ⟨b, off, none⟩ ∧ b < W.heap.size ∧ cs.length = P.cellsOf e ∧ (∀ j, j < P.cellsOf e → W.cell? ⟨b, off + i * P.cellsOf e + j, none⟩ = cs[j]?) ∧
        DataW.trod enc P W b0 spare held n e cs = some y := by
  obtain ⟨fuel, hf⟩ := h
  rcases slice_wide hs hv with rfl | ⟨b, off, len, cap, rfl, hl, hm, hlt⟩
  · exact ⟨none, 0, 0, rfl, Nat.le_refl _, Nat.zero_le _, fun _ => ⟨rfl, rfl⟩, fun x hx => (by cases hx), fun i hi => by omega⟩
  · have hf' : DataW.trod enc P W b0 spare held fuel t [.slice (some ⟨b, off, none⟩) len cap] = some (d, p) := by simpa [Value.cells] using hf
    rcases Go.Deep.open_slice hs hf' with ⟨hcs, _⟩ | ⟨a, l, c, m, n, D, Pl, hcs, hb, hl', hm', hmm, hx, hel⟩
    · simp at hcs
    · simp at hcs
      obtain ⟨rfl, rfl, rfl⟩ := hcs
      refine ⟨_, len, cap, rfl, hl, hm, fun h0 => (by cases h0), fun x hx' => ⟨b, off, (Option.some.inj hx').symm, hlt⟩, fun i hi => ?_⟩
      obtain ⟨cs, h1, h2⟩ := hel i (by rw [hmm]; split <;> omega)
      obtain ⟨_, hlen, hcell⟩ := World.cells?_some h1
      refine ⟨b, off, cs, n, _, rfl, hlt, hlen, fun j hj => ?_, h2⟩
      have := hcell j hj
      rw [Go.Deep.add_add] at this
      rw [← this]
      unfold Addr.add
      split
      · simp_all
      · simp [Nat.add_assoc]

/-- A function of indexes with its list. -/
theorem list_of {α : Type} {n : Nat} (dflt : α) (p : Nat → α → Prop) (h : ∀ i, i < n → ∃ x, p i x) : ∃ l : List α, l.length = n ∧ ∀ i, i < n → p i (l.getD i dflt) := by
  induction n with
  | zero => exact ⟨[], rfl, fun i hi => by omega⟩
  | succ n ih =>
    obtain ⟨l, hl, hp⟩ := ih fun i hi => h i (by omega)
    obtain ⟨x, hx⟩ := h n (by omega)
    refine ⟨l ++ [x], by simp [hl], fun i hi => ?_⟩
    by_cases hin : i < n
    · have := hp i hin
      simpa [List.getD, List.getElem?_append, hl, hin] using this
    · have : i = n := by omega
      subst this
      simpa [List.getD, hl] using hx

end Go.Proofs.YtbljbdjmgogknaaGreatDoor
