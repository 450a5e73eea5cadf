/-
  BeadOne: what holds of a beginning. No walk here.
  Conditions: none.
-/
import Derived.Test.YtikngajopmogcaaDoorBa
set_option linter.unusedVariables false
set_option linter.unusedSimpArgs false
namespace Go.Proofs.YtikngajopmogcaaDoor
open Go.RowKit

/-- What a beginning is: a number's bytes, a text's, or neither. -/
theorem one_cases (s : List UInt8) :
    (∃ n, Bd.inR n ∧ s = Bd.bInt n ∧ Bd.sInt (s, false) = (n, ([], false)) ∧ (Bd.sText 4096 (s, false)).2 = (s, true)) ∨
    (∃ t, t.length ≤ 4096 ∧ s = Bd.bText t ∧ Bd.sText 4096 (s, false) = (t, ([], false)) ∧ (Bd.sInt (s, false)).2 = (s, true)) ∨
    (Bd.sDone (Bd.sInt (s, false)).2 = 3 ∧ Bd.sDone (Bd.sText 4096 (s, false)).2 = 3) := by
  cases h1 : Bd.rdInt s with
  | some x =>
    obtain ⟨n, r⟩ := x
    have ht : (Bd.sText 4096 (s, false)).2 = (s, true) := by
      cases h2 : Bd.rdText 4096 s with
      | none => simp [Bd.sText, h2]
      | some y =>
        exfalso
        obtain ⟨t, r2⟩ := y
        obtain ⟨_, e⟩ := Bd.rdText_some h2
        obtain ⟨c, l, e2, hd⟩ := Bd.bText_head t r2
        have h3 := Bd.rdInt_head h1
        rw [e, e2] at h3
        simp at h3
        subst h3
        revert hd
        decide
    obtain ⟨hn, e⟩ := Bd.rdInt_some h1
    have es : Bd.sInt (s, false) = (n, (r, false)) := by simp [Bd.sInt, h1]
    cases r with
    | nil => exact .inl ⟨n, hn, by simpa using e, es, ht⟩
    | cons c r => exact .inr (.inr ⟨by rw [es]; rfl, by rw [ht]; rfl⟩)
  | none =>
    have hi : (Bd.sInt (s, false)).2 = (s, true) := by simp [Bd.sInt, h1]
    cases h2 : Bd.rdText 4096 s with
    | none => exact .inr (.inr ⟨by rw [hi]; rfl, by simp [Bd.sText, h2, Bd.sDone]⟩)
    | some y =>
      obtain ⟨t, r⟩ := y
      obtain ⟨hl, e⟩ := Bd.rdText_some h2
      have es : Bd.sText 4096 (s, false) = (t, (r, false)) := by simp [Bd.sText, h2]
      cases r with
      | nil => exact .inr (.inl ⟨t, by omega, by simpa using e, es, hi⟩)
      | cons c r => exact .inr (.inr ⟨by rw [hi]; rfl, by rw [es]; rfl⟩)
theorem one_nil : Bd.sDone (Bd.sInt ([], false)).2 = 3 ∧ Bd.sDone (Bd.sText 4096 ([], false)).2 = 3 := by
  rcases one_cases [] with ⟨n, _, e, _⟩ | ⟨t, _, e, _⟩ | h
  · simp [Bd.bInt] at e
  · have := Bd.itoa_ne (t.length : Int)
    simp [Bd.bText] at e
  · exact h

end Go.Proofs.YtikngajopmogcaaDoor
