/-
  A slice of strings that came in, opened.
-/
import Derived.Test.YtlieanigefjocaaLawse
import Derived.ProofKit
import Derived.OpenShut
import Derived.SliceStrings
set_option linter.unusedVariables false
set_option linter.unusedSimpArgs false
namespace Go.Proofs.Ytlieanigefjocaa
open Go.ChangeShapes Go.WideShapes Go.ChangeAt Go.RowKit

theorem slice_wide {P : Program} {W : World} {r : Reach} {base : Nat} {t e : TypeId} {v : Value} (hs : P.underlying t = some (.slice e)) (h : Value.okWide P W r base t v) :
    v = .slice none 0 0 ∨ ∃ b off len cap, v = .slice (some ⟨b, off, none⟩) len cap ∧ len ≤ cap ∧ cap ≤ maxLen ∧ b < W.heap.size := by
  simp only [Value.okWide, hs] at h
  cases v <;> simp [Cell.okWide, Cell.ok, hs] at h
  case slice a len cap =>
    cases a with
    | none =>
      left
      revert h
      cases len <;> cases cap <;> simp
    | some a =>
      right
      obtain ⟨h1, h2, h3⟩ := h
      obtain ⟨_, hsp, row, cells, hsh, _⟩ := h3
      obtain ⟨b, off, spot⟩ := a
      simp only at hsp
      subst hsp
      refine ⟨b, off, len, cap, rfl, h1, ?_, ?_⟩
      · unfold maxLen
        omega
      · rcases Nat.lt_or_ge b W.heap.size with hlt | hge
        · exact hlt
        · simp [World.shape?, Array.getElem?_eq_none hge] at hsh
theorem open_txts {W : World} {r : Reach} {base b0 : Nat} {H : Type} {enc : TypeId × Value → H} {spare : Nat → Bool} {held : Bool} {v : Value} {d : DataW H} {p : List MemPlace} (hv : Value.okWide Try.prog W r base 31 v)
    (h : DataW.Trod enc Try.prog W b0 spare held 31 v d p) :
    ∃ aa ca ts, v = .slice aa ts.length ca ∧ Txts W (.slice aa ts.length ca) ts ∧ ts.length ≤ ca ∧ ts.length ≤ maxLen ∧ (aa = none ∨ ∃ b off, aa = some ⟨b, off, none⟩) := by
  obtain ⟨fuel, hf⟩ := h
  rcases slice_wide Try.underlying31 hv with rfl | ⟨b, off, len, cap, rfl, hl, hm, hlt⟩
  · exact ⟨none, 0, [], rfl, ⟨none, 0, rfl, fun i hi => by simp at hi⟩, by simp, by simp, .inl rfl⟩
  · rcases open_strings Try.underlying31 Try.underlying9 (by kernel_rfl) (by simpa [Value.cells] using hf) with ⟨hcs, _⟩ | ⟨a, l, c, ss, hcs, _, hl', hm', hz, _, hcell, hws⟩
    · simp at hcs
    · simp at hcs
      obtain ⟨rfl, rfl, rfl⟩ := hcs
      have hss : len ≤ ss.length := by rw [hz]; split <;> omega
      refine ⟨some ⟨b, off, none⟩, cap, (ss.take len).map (·.data.toList), ?_, ⟨_, cap, rfl, fun i hi => ⟨b, off, rfl, hlt, ?_⟩⟩, ?_, ?_, .inr ⟨b, off, rfl⟩⟩
      · simp; omega
      · have hi' : i < len := by simp at hi; omega
        have hc := hcell i (by omega)
        have hadd : (⟨b, off, none⟩ : Addr).add i = ⟨b, off + i, none⟩ := by unfold Addr.add; split <;> simp_all
        rw [hadd] at hc
        rw [hc]
        simp [List.getD, hi', show i < ss.length by omega]
      · simp; omega
      · simp; omega

end Go.Proofs.Ytlieanigefjocaa
