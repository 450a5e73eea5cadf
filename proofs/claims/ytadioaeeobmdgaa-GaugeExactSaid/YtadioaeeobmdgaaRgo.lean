/-
  Rows of acts that came in, opened.
  Conditions: none.
-/
import Derived.Test.YtadioaeeobmdgaaRgx
import Derived.Test.YtadioaeeobmdgaaOpn
import Derived.Test.YtadioaeeobmdgaaGlb
import Derived.Lib.SmallJoins
set_option linter.unusedVariables false
set_option linter.unusedSimpArgs false
namespace Go.Proofs.Ytadioaeeobmdgaa
open Go.ChangeShapes Go.WideShapes Go.ChangeAt Go.RowKit

theorem trod_float {H : Type} {enc : TypeId × Value → H} {P : Program} {w : World} {base : Nat} {spare : Nat → Bool} {held : Bool} {fuel : Nat} {t : TypeId} {cs : List Value} {x : DataW H × List MemPlace} {k : FloatKind} (ht : P.underlying t = some (.float k)) (h : DataW.trod enc P w base spare held fuel t cs = some x) : ∃ b, cs = [.float k b] := by
  cases fuel with
  | zero => simp [DataW.trod] at h
  | succ n =>
    unfold DataW.trod at h
    rw [ht] at h
    split at h <;> simp_all
theorem aInt : Try.prog.cellsOf 3 = 1 := by kernel_rfl
theorem aFlt : Try.prog.cellsOf 38 = 1 := by kernel_rfl
theorem aAct : Try.prog.cellsOf 47 = 4 := by kernel_rfl
theorem inR_wf {n : Int} (h : (Lit.int .i64 n).wf = true) : -9223372036854775808 ≤ n ∧ n ≤ 9223372036854775807 := by
  have e1 : IntKind.i64.min = -9223372036854775808 := by decide
  have e2 : IntKind.i64.max = 9223372036854775807 := by decide
  simp [Lit.wf, e1, e2] at h
  exact h
set_option maxRecDepth 100000 in
theorem open_act {W : World} {b0 : Nat} {H : Type} {enc : TypeId × Value → H} {spare : Nat → Bool} {held : Bool} {fuel : Nat} {cs : List Value} {y : DataW H × List MemPlace}
    (h : DataW.trod enc Try.prog W b0 spare held fuel 47 cs = some y) : ∃ x : GAct, (-9223372036854775808 ≤ x.pos ∧ x.pos ≤ 9223372036854775807) ∧ cs = [.int .i64 x.kind, .float .f64 x.re, .float .f64 x.im, .int .i64 x.pos] := by
  obtain ⟨y0, y1, y2, y3, m, _, hcl, h0, h1, h2, h3⟩ := Go.Joins.trod_struct4 Try.underlying47 h
  rw [aAct] at hcl
  obtain ⟨n0, e0, _, w0⟩ := DataW.trod_int Try.underlying3 h0
  obtain ⟨n1, e1⟩ := trod_float Try.underlying38 h1
  obtain ⟨n2, e2⟩ := trod_float Try.underlying38 h2
  obtain ⟨n3, e3, _, w3⟩ := DataW.trod_int Try.underlying3 h3
  match cs, hcl with
  | [c0, c1, c2, c3], _ =>
    simp [aInt, aFlt] at e0 e1 e2 e3
    subst e0 e1 e2 e3
    exact ⟨⟨n0, n1, n2, n3⟩, inR_wf w3, rfl⟩
set_option maxRecDepth 100000 in
theorem open_acts {W : World} {r : Reach} {base b0 : Nat} {H : Type} {enc : TypeId × Value → H} {spare : Nat → Bool} {held : Bool} {v : Value} {d : DataW H} {p : List MemPlace} (hv : Value.okWide Try.prog W r base 40 v)
    (h : DataW.Trod enc Try.prog W b0 spare held 40 v d p) : ∃ l, Acts W v l ∧ l.length ≤ maxLen ∧ ∀ x ∈ l, -9223372036854775808 ≤ x.pos ∧ x.pos ≤ 9223372036854775807 := by
  obtain ⟨a, len, cap, rfl, hl, hm, h0, h1, hel⟩ := slice_open Try.underlying40 hv h
  rw [aAct] at hel
  obtain ⟨zs, hz, hzs⟩ := list_of (⟨0, 0, 0, 0⟩ : GAct) (fun i (x : GAct) => (∃ g off, a = some ⟨g, off, none⟩ ∧ g < W.heap.size ∧ W.cell? ⟨g, off + i * 4, none⟩ = some (.int .i64 x.kind) ∧ W.cell? ⟨g, off + i * 4 + 1, none⟩ = some (.float .f64 x.re) ∧
    W.cell? ⟨g, off + i * 4 + 2, none⟩ = some (.float .f64 x.im) ∧ W.cell? ⟨g, off + i * 4 + 3, none⟩ = some (.int .i64 x.pos)) ∧ -9223372036854775808 ≤ x.pos ∧ x.pos ≤ 9223372036854775807) (n := len) (fun i hi => by
      obtain ⟨b, off, cs, n, y, rfl, hlt, _, hc, ht⟩ := hel i hi
      obtain ⟨x, hx, rfl⟩ := open_act ht
      exact ⟨x, ⟨b, off, rfl, hlt, by simpa using hc 0 (by omega), by simpa using hc 1 (by omega), by simpa using hc 2 (by omega), by simpa using hc 3 (by omega)⟩, hx⟩)
  subst hz
  have hat : ∀ i x, zs[i]? = some x → i < zs.length ∧ zs.getD i ⟨0, 0, 0, 0⟩ = x := fun i x h => by
    obtain ⟨hi, rfl⟩ := List.getElem?_eq_some_iff.1 h
    exact ⟨hi, by simp [List.getD, hi]⟩
  refine ⟨zs, ⟨a, cap, rfl, fun i x hx => ?_⟩, Nat.le_trans hl hm, fun x hx => ?_⟩
  · obtain ⟨hi, rfl⟩ := hat i x hx
    exact (hzs i hi).1
  · obtain ⟨i, hi⟩ := List.getElem?_of_mem hx
    obtain ⟨hi2, rfl⟩ := hat i x hi
    exact (hzs i hi2).2

end Go.Proofs.Ytadioaeeobmdgaa
