/-
  Rows of batches, times and numbers that came in, opened.
  Conditions: none.
-/
import Derived.Test.YtccndbifnbmddaaCp
import Derived.Test.YtccndbifnbmddaaWa
import Derived.Test.YtccndbifnbmddaaOi
set_option linter.unusedVariables false
set_option linter.unusedSimpArgs false
namespace Go.Proofs.Ytccndbifnbmddaa
open Go.ChangeShapes Go.WideShapes Go.ChangeAt Go.RowKit

set_option maxRecDepth 100000 in
theorem open_bats {W : World} {r : Reach} {base b0 : Nat} {H : Type} {enc : TypeId × Value → H} {spare : Nat → Bool} {held : Bool} {v : Value} {d : DataW H} {p : List MemPlace} (hv : Value.okWide Try.prog W r base 22 v)
    (h : DataW.Trod enc Try.prog W b0 spare held 22 v d p) : ∃ l, Bats W v l ∧ l.length ≤ maxLen ∧ ∀ b ∈ l, BatOk b := by
  obtain ⟨a, len, cap, rfl, hl, hm, h0, h1, hel⟩ := slice_open Try.underlying22 hv h
  rw [cBat] at hel
  obtain ⟨zs, hz, hzs⟩ := list_of (⟨0, 0, 0, 0, 0, []⟩ : Cr.Batch) (fun i (x : Cr.Batch) => (∃ g off rv, a = some ⟨g, off, none⟩ ∧ g < W.heap.size ∧ W.cell? ⟨g, off + i * 6, none⟩ = some (.int .i64 x.base) ∧ W.cell? ⟨g, off + i * 6 + 1, none⟩ = some (.int .i64 x.count) ∧
    W.cell? ⟨g, off + i * 6 + 2, none⟩ = some (.int .i64 x.prod) ∧ W.cell? ⟨g, off + i * 6 + 3, none⟩ = some (.int .i64 x.seq) ∧ W.cell? ⟨g, off + i * 6 + 4, none⟩ = some (.int .i64 x.time) ∧ W.cell? ⟨g, off + i * 6 + 5, none⟩ = some rv ∧ Recs W rv x.recs) ∧ BatOk x) (n := len) (fun i hi => by
      obtain ⟨b, off, cs, n, y, rfl, hlt, _, hc, ht⟩ := hel i hi
      obtain ⟨x, rv, rfl, hR, hx⟩ := open_batT ht
      exact ⟨x, ⟨b, off, rv, rfl, hlt, by simpa using hc 0 (by omega), by simpa using hc 1 (by omega), by simpa using hc 2 (by omega), by simpa using hc 3 (by omega), by simpa using hc 4 (by omega), by simpa using hc 5 (by omega), hR⟩, hx⟩)
  subst hz
  have hat : ∀ i x, zs[i]? = some x → i < zs.length ∧ zs.getD i ⟨0, 0, 0, 0, 0, []⟩ = x := fun i x h => by
    obtain ⟨hi, rfl⟩ := List.getElem?_eq_some_iff.1 h
    exact ⟨hi, by simp [List.getD, hi]⟩
  refine ⟨zs, ⟨a, cap, rfl, fun i x hx => ?_⟩, Nat.le_trans hl hm, fun x hx => ?_⟩
  · obtain ⟨hi, rfl⟩ := hat i x hx
    exact (hzs i hi).1
  · obtain ⟨i, hi⟩ := List.getElem?_of_mem hx
    obtain ⟨hi2, rfl⟩ := hat i x hi
    exact (hzs i hi2).2
theorem cWhen : Try.prog.cellsOf 24 = 3 := by kernel_rfl
set_option maxRecDepth 100000 in
theorem open_whenT {W : World} {b0 fuel : Nat} {H : Type} {enc : TypeId × Value → H} {spare : Nat → Bool} {held : Bool} {cs : List Value} {x : DataW H × List MemPlace}
    (h : DataW.trod enc Try.prog W b0 spare held fuel 24 cs = some x) : ∃ a b c : Int, cs = [.int .i64 a, .int .i64 b, .int .i64 c] ∧ Bd.inR a ∧ Bd.inR b ∧ Bd.inR c := by
  obtain ⟨y0, y1, y2, m, _, hcl, h0, h1, h2⟩ := Go.Deep.trod_struct3 Try.underlying24 h
  rw [cWhen] at hcl
  obtain ⟨n0, e0, _, w0⟩ := DataW.trod_int Try.underlying3 h0
  obtain ⟨n1, e1, _, w1⟩ := DataW.trod_int Try.underlying3 h1
  obtain ⟨n2, e2, _, w2⟩ := DataW.trod_int Try.underlying3 h2
  match cs, hcl with
  | [c0, c1, c2], _ =>
    simp [cInt] at e0 e1 e2
    subst e0 e1 e2
    exact ⟨n0, n1, n2, rfl, inR_wf w0, inR_wf w1, inR_wf w2⟩
set_option maxRecDepth 100000 in
theorem open_when {W : World} {r : Reach} {base b0 : Nat} {H : Type} {enc : TypeId × Value → H} {spare : Nat → Bool} {held : Bool} {v : Value} {d : DataW H} {p : List MemPlace} (hv : Value.okWide Try.prog W r base 24 v)
    (h : DataW.Trod enc Try.prog W b0 spare held 24 v d p) : ∃ a b c : Int, v = .agg #[.int .i64 a, .int .i64 b, .int .i64 c] ∧ Bd.inR a ∧ Bd.inR b ∧ Bd.inR c := by
  simp only [Value.okWide, Try.underlying24] at hv
  obtain ⟨cs, rfl, _, _⟩ := hv
  obtain ⟨fuel, hf⟩ := h
  obtain ⟨a, b, c, e, r1, r2, r3⟩ := open_whenT (by simpa [Value.cells] using hf)
  refine ⟨a, b, c, ?_, r1, r2, r3⟩
  congr 1
  apply Array.toList_inj.1
  exact e
theorem cPair : Try.prog.cellsOf 34 = 2 := by kernel_rfl
set_option maxRecDepth 100000 in
theorem open_pairI {W : World} {r : Reach} {base b0 : Nat} {H : Type} {enc : TypeId × Value → H} {spare : Nat → Bool} {held : Bool} {v : Value} {d : DataW H} {p : List MemPlace} (hv : Value.okWide Try.prog W r base 34 v)
    (h : DataW.Trod enc Try.prog W b0 spare held 34 v d p) : ∃ a b : Int, v = .agg #[.int .i64 a, .int .i64 b] ∧ Bd.inR a ∧ Bd.inR b := by
  simp only [Value.okWide, Try.underlying34] at hv
  obtain ⟨cs, rfl, _, _⟩ := hv
  obtain ⟨fuel, hf⟩ := h
  obtain ⟨xs, m, _, _, hcl, hxl, hel⟩ := DataW.trod_array Try.underlying34 (show DataW.trod enc Try.prog W b0 spare held fuel 34 cs.toList = some (d, p) by simpa [Value.cells] using hf)
  rw [cPair] at hcl
  have g0 := hel 0 (by omega)
  have g1 := hel 1 (by omega)
  obtain ⟨l, rfl⟩ : ∃ l, cs = l.toArray := ⟨cs.toList, by simp⟩
  match xs, hxl, l, hcl with
  | [x0, x1], _, [c0, c1], _ =>
    simp [cInt] at g0 g1
    obtain ⟨n0, e0, _, w0⟩ := DataW.trod_int Try.underlying3 g0
    obtain ⟨n1, e1, _, w1⟩ := DataW.trod_int Try.underlying3 g1
    simp at e0 e1
    subst e0 e1
    exact ⟨n0, n1, rfl, inR_wf w0, inR_wf w1⟩
theorem cWhens : Try.prog.cellsOf 46 = 6 := by kernel_rfl
set_option maxRecDepth 100000 in
theorem open_whens {W : World} {r : Reach} {base b0 : Nat} {H : Type} {enc : TypeId × Value → H} {spare : Nat → Bool} {held : Bool} {v : Value} {d : DataW H} {p : List MemPlace} (hv : Value.okWide Try.prog W r base 46 v)
    (h : DataW.Trod enc Try.prog W b0 spare held 46 v d p) : ∃ a b c a' b' c' : Int, v = .agg #[.int .i64 a, .int .i64 b, .int .i64 c, .int .i64 a', .int .i64 b', .int .i64 c'] ∧ Bd.inR a ∧ Bd.inR b ∧ Bd.inR c ∧ Bd.inR a' ∧ Bd.inR b' ∧ Bd.inR c' := by
  simp only [Value.okWide, Try.underlying46] at hv
  obtain ⟨cs, rfl, _, _⟩ := hv
  obtain ⟨fuel, hf⟩ := h
  obtain ⟨xs, m, _, _, hcl, hxl, hel⟩ := DataW.trod_array Try.underlying46 (show DataW.trod enc Try.prog W b0 spare held fuel 46 cs.toList = some (d, p) by simpa [Value.cells] using hf)
  rw [cWhens] at hcl
  have g0 := hel 0 (by omega)
  have g1 := hel 1 (by omega)
  obtain ⟨l, rfl⟩ : ∃ l, cs = l.toArray := ⟨cs.toList, by simp⟩
  match xs, hxl, l, hcl with
  | [x0, x1], _, [c0, c1, c2, c3, c4, c5], _ =>
    simp [cWhen] at g0 g1
    obtain ⟨n0, n1, n2, e0, w0, w1, w2⟩ := open_whenT g0
    obtain ⟨n3, n4, n5, e1, w3, w4, w5⟩ := open_whenT g1
    simp at e0 e1
    obtain ⟨rfl, rfl, rfl⟩ := e0
    obtain ⟨rfl, rfl, rfl⟩ := e1
    exact ⟨n0, n1, n2, n3, n4, n5, rfl, w0, w1, w2, w3, w4, w5⟩
set_option maxRecDepth 100000 in
theorem open_intsC {W : World} {r : Reach} {base b0 : Nat} {H : Type} {enc : TypeId × Value → H} {spare : Nat → Bool} {held : Bool} {v : Value} {d : DataW H} {p : List MemPlace} (hv : Value.okWide Try.prog W r base 33 v)
    (h : DataW.Trod enc Try.prog W b0 spare held 33 v d p) : (∃ zs, Ints W v zs ∧ zs.length ≤ maxLen ∧ ∀ z ∈ zs, -9223372036854775808 ≤ z ∧ z ≤ 9223372036854775807) ∧ ∀ a n c, v = .slice a n c → n ≤ c := by
  refine ⟨open_intsl hv h, fun a n c e => ?_⟩
  obtain ⟨a', len, cap, rfl, hl, _⟩ := slice_open Try.underlying33 hv h
  injection e with e1 e2 e3
  omega

end Go.Proofs.Ytccndbifnbmddaa
