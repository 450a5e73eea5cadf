/-
  Rows of pairs that came in, opened.
-/
import Derived.Test.YtadioaeeobmdgaaOpn
import Derived.Test.YtadioaeeobmdgaaGwe
import Derived.ProofKit
import Derived.OpenShut
set_option linter.unusedVariables false
set_option linter.unusedSimpArgs false
namespace Go.Proofs.Ytadioaeeobmdgaa
open Go.ChangeShapes Go.WideShapes Go.ChangeAt Go.RowKit

theorem open_pair {W : World} {b0 : Nat} {H : Type} {enc : TypeId × Value → H} {spare : Nat → Bool} {held : Bool} {fuel : Nat} {cs : List Value} {y : DataW H × List MemPlace}
    (h : DataW.trod enc Try.prog W b0 spare held fuel 34 cs = some y) : ∃ q : Int × Int, cs = [.int .i64 q.1, .int .i64 q.2] ∧ (Lit.int .i64 q.1).wf = true ∧ (Lit.int .i64 q.2).wf = true := by
  obtain ⟨xs, m, rfl, rfl, hlen, hxl, hel⟩ := DataW.trod_array Try.underlying34 h
  rw [show Try.prog.cellsOf 34 = 2 by kernel_rfl] at hlen
  rw [show Try.prog.cellsOf 3 = 1 by kernel_rfl] at hel
  match cs, hlen, xs, hxl with
  | [v0, v1], _, [x0, x1], _ =>
    have g0 := hel 0 (by omega)
    have g1 := hel 1 (by omega)
    simp at g0 g1
    obtain ⟨n0, e0, _, w0⟩ := DataW.trod_int Try.underlying3 g0
    obtain ⟨n1, e1, _, w1⟩ := DataW.trod_int Try.underlying3 g1
    simp at e0 e1
    exact ⟨(n0, n1), by rw [e0, e1], w0, w1⟩

theorem open_pairs {W : World} {r : Reach} {base b0 : Nat} {H : Type} {enc : TypeId × Value → H} {spare : Nat → Bool} {held : Bool} {v : Value} {d : DataW H} {p : List MemPlace} (hv : Value.okWide Try.prog W r base 22 v)
    (h : DataW.Trod enc Try.prog W b0 spare held 22 v d p) : ∃ zs, Pairs W v zs ∧ zs.length ≤ maxLen := by
  obtain ⟨a, len, cap, rfl, hl, hm, h0, h1, hel⟩ := slice_open Try.underlying22 hv h
  rw [show Try.prog.cellsOf 34 = 2 by kernel_rfl] at hel
  obtain ⟨zs, hz, hzs⟩ := list_of (0, 0) (fun i (q : Int × Int) => ∃ b off, a = some ⟨b, off, none⟩ ∧ b < W.heap.size ∧
    W.cell? ⟨b, off + i * 2, none⟩ = some (.int .i64 q.1) ∧ W.cell? ⟨b, off + i * 2 + 1, none⟩ = some (.int .i64 q.2)) (n := len) (fun i hi => by
      obtain ⟨b, off, cs, n, y, rfl, hlt, _, hc, ht⟩ := hel i hi
      obtain ⟨q, rfl, _⟩ := open_pair ht
      exact ⟨q, b, off, rfl, hlt, by simpa using hc 0 (by omega), by simpa using hc 1 (by omega)⟩)
  subst hz
  exact ⟨zs, ⟨a, cap, rfl, hzs⟩, Nat.le_trans hl hm⟩
theorem open_arr2 {W : World} {r : Reach} {base b0 : Nat} {H : Type} {enc : TypeId × Value → H} {spare : Nat → Bool} {held : Bool} {v : Value} {d : DataW H} {p : List MemPlace} (hv : Value.okWide Try.prog W r base 34 v)
    (h : DataW.Trod enc Try.prog W b0 spare held 34 v d p) : ∃ q : Int × Int, v = .agg #[.int .i64 q.1, .int .i64 q.2] := by
  simp only [Value.okWide, Try.underlying34] at hv
  obtain ⟨cs, rfl, _⟩ := hv
  obtain ⟨fuel, hf⟩ := h
  obtain ⟨q, hq, _⟩ := open_pair (by simpa [Value.cells] using hf)
  exact ⟨q, by rw [← Array.toArray_toList (xs := cs), hq]⟩

end Go.Proofs.Ytadioaeeobmdgaa
