/-
  Co: texts of one proof, one behind the other.
  Conditions: none of its own.
-/
import Derived.Test.YtbljbdjmgogknaaGreatDoorZab
/-
  Records and batches that came in, opened.
  Conditions: none.
-/
set_option linter.unusedVariables false
set_option linter.unusedSimpArgs false
namespace Go.Proofs.YtbljbdjmgogknaaGreatDoor
open Go.ChangeShapes Go.WideShapes Go.ChangeAt Go.RowKit

theorem cInt : Tryz.prog.cellsOf 3 = 1 := by kernel_rfl
theorem cStr : Tryz.prog.cellsOf 9 = 1 := by kernel_rfl
theorem cBool : Tryz.prog.cellsOf 4 = 1 := by kernel_rfl
theorem cRec : Tryz.prog.cellsOf 67 = 4 := by kernel_rfl
theorem cRecs : Tryz.prog.cellsOf 34 = 1 := by kernel_rfl
theorem inR_wf {n : Int} (h : (Lit.int .i64 n).wf = true) : Bd.inR n := by
  have e1 : IntKind.i64.min = -9223372036854775808 := by decide
  have e2 : IntKind.i64.max = 9223372036854775807 := by decide
  simp [Lit.wf, e1, e2] at h
  exact h
set_option maxRecDepth 100000 in
theorem open_rec {W : World} {b0 : Nat} {H : Type} {enc : TypeId × Value → H} {spare : Nat → Bool} {held : Bool} {fuel : Nat} {cs : List Value} {y : DataW H × List MemPlace}
    (h : DataW.trod enc Tryz.prog W b0 spare held fuel 67 cs = some y) : ∃ x : Cr.Rec, RecOk x ∧ cs = [.int .i64 x.off, .string ⟨x.key.toArray⟩, .string ⟨x.val.toArray⟩, .bool x.gone] := by
  obtain ⟨y0, y1, y2, y3, m, _, hcl, h0, h1, h2, h3⟩ := Go.Joins.trod_struct4 Tryz.underlying67 h
  rw [cRec] at hcl
  obtain ⟨n0, e0, _, w0⟩ := DataW.trod_int Tryz.underlying3 h0
  obtain ⟨s1, e1, _, w1⟩ := DataW.trod_string Tryz.underlying9 h1
  obtain ⟨s2, e2, _, w2⟩ := DataW.trod_string Tryz.underlying9 h2
  obtain ⟨b3, e3, _⟩ := DataW.trod_bool Tryz.underlying4 h3
  match cs, hcl with
  | [c0, c1, c2, c3], _ =>
    simp [cInt, cStr, cBool] at e0 e1 e2 e3
    subst e0 e1 e2 e3
    exact ⟨⟨n0, s1.data.toList, s2.data.toList, b3⟩, ⟨inR_wf w0, w1, w2⟩, rfl⟩
set_option maxRecDepth 100000 in
theorem open_recs {W : World} {r : Reach} {base b0 : Nat} {H : Type} {enc : TypeId × Value → H} {spare : Nat → Bool} {held : Bool} {v : Value} {d : DataW H} {p : List MemPlace} (hv : Value.okWide Tryz.prog W r base 34 v)
    (h : DataW.Trod enc Tryz.prog W b0 spare held 34 v d p) : ∃ l, Recs W v l ∧ l.length ≤ maxLen ∧ ∀ x ∈ l, RecOk x := by
  obtain ⟨a, len, cap, rfl, hl, hm, h0, h1, hel⟩ := slice_open Tryz.underlying34 hv h
  rw [cRec] at hel
  obtain ⟨zs, hz, hzs⟩ := list_of (⟨0, [], [], false⟩ : Cr.Rec) (fun i (x : Cr.Rec) => (∃ g off, a = some ⟨g, off, none⟩ ∧ g < W.heap.size ∧ W.cell? ⟨g, off + i * 4, none⟩ = some (.int .i64 x.off) ∧ W.cell? ⟨g, off + i * 4 + 1, none⟩ = some (.string ⟨x.key.toArray⟩) ∧
    W.cell? ⟨g, off + i * 4 + 2, none⟩ = some (.string ⟨x.val.toArray⟩) ∧ W.cell? ⟨g, off + i * 4 + 3, none⟩ = some (.bool x.gone)) ∧ RecOk x) (n := len) (fun i hi => by
      obtain ⟨b, off, cs, n, y, rfl, hlt, _, hc, ht⟩ := hel i hi
      obtain ⟨x, hx, rfl⟩ := open_rec ht
      exact ⟨x, ⟨b, off, rfl, hlt, by simpa using hc 0 (by omega), by simpa using hc 1 (by omega), by simpa using hc 2 (by omega), by simpa using hc 3 (by omega)⟩, hx⟩)
  subst hz
  have hat : ∀ i x, zs[i]? = some x → i < zs.length ∧ zs.getD i ⟨0, [], [], false⟩ = x := fun i x h => by
    obtain ⟨hi, rfl⟩ := List.getElem?_eq_some_iff.1 h
    exact ⟨hi, by simp [List.getD, hi]⟩
  refine ⟨zs, ⟨a, cap, rfl, fun i x hx => ?_⟩, Nat.le_trans hl hm, fun x hx => ?_⟩
  · obtain ⟨hi, rfl⟩ := hat i x hx
    exact (hzs i hi).1
  · obtain ⟨i, hi⟩ := List.getElem?_of_mem hx
    obtain ⟨hi2, rfl⟩ := hat i x hi
    exact (hzs i hi2).2
set_option maxRecDepth 100000 in
theorem open_batch {W : World} {r : Reach} {base b0 : Nat} {H : Type} {enc : TypeId × Value → H} {spare : Nat → Bool} {held : Bool} {v : Value} {d : DataW H} {p : List MemPlace} (hv : Value.okWide Tryz.prog W r base 36 v)
    (h : DataW.Trod enc Tryz.prog W b0 spare held 36 v d p) : ∃ b rv, v = batV b rv ∧ Recs W rv b.recs ∧ BatOk b := by
  obtain ⟨cs, rfl, hlen, hc⟩ := agg_cells (P := Tryz.prog) [3, 3, 3, 3, 3, 34] Tryz.underlying36 (by kernel_rfl) (by kernel_rfl) hv
  obtain ⟨c0, c1, c2, c3, c4, c5, rfl⟩ := list6 hlen
  have hc5 := hc 5 c5 _ rfl rfl
  clear hc
  obtain ⟨fuel, hf⟩ := h
  obtain ⟨xs, n, _, _, _, hxl, hfd⟩ := DataW.trod_struct Tryz.underlying36 (by simpa [Value.cells] using hf)
  match xs, hxl with
  | [x0, x1, x2, x3, x4, x5], _ =>
    have g0 := hfd 0 _ rfl
    have g1 := hfd 1 _ rfl
    have g2 := hfd 2 _ rfl
    have g3 := hfd 3 _ rfl
    have g4 := hfd 4 _ rfl
    have g5 := hfd 5 _ rfl
    simp [cInt, cRecs] at g0 g1 g2 g3 g4 g5
    obtain ⟨n0, e0, _, w0⟩ := DataW.trod_int Tryz.underlying3 g0
    obtain ⟨n1, e1, _, w1⟩ := DataW.trod_int Tryz.underlying3 g1
    obtain ⟨n2, e2, _, w2⟩ := DataW.trod_int Tryz.underlying3 g2
    obtain ⟨n3, e3, _, w3⟩ := DataW.trod_int Tryz.underlying3 g3
    obtain ⟨n4, e4, _, w4⟩ := DataW.trod_int Tryz.underlying3 g4
    simp at e0 e1 e2 e3 e4
    subst e0 e1 e2 e3 e4
    obtain ⟨a, len, cap, hv5, hlc, hm, _⟩ := slice_open (d := x5.1) (p := x5.2) (v := c5) (enc := enc) (b0 := b0) (spare := spare) (held := held) Tryz.underlying34 (show Value.okWide Tryz.prog W r base 34 c5 by
      simp only [Value.okWide, Tryz.underlying34]; exact hc5) ⟨n, by
        have hcc : c5.cells.toList = [c5] := by cases c5 <;> simp_all [Cell.okWide, Cell.ok, Value.cells, Tryz.underlying34]
        rw [hcc]; exact g5⟩
    obtain ⟨l, hR, hl, hx⟩ := open_recs (d := x5.1) (p := x5.2) (v := c5) (enc := enc) (b0 := b0) (spare := spare) (held := held) (show Value.okWide Tryz.prog W r base 34 c5 by
      simp only [Value.okWide, Tryz.underlying34]; exact hc5) ⟨n, by subst hv5; simpa [Value.cells] using g5⟩
    exact ⟨⟨n0, n1, n2, n3, n4, l⟩, c5, rfl, hR, inR_wf w0, inR_wf w1, inR_wf w2, inR_wf w3, inR_wf w4, hl, hx⟩

set_option maxRecDepth 100000 in
theorem open_batch2 {W : World} {r : Reach} {base b0 : Nat} {H : Type} {enc : TypeId × Value → H} {spare : Nat → Bool} {held : Bool} {v : Value} {d : DataW H} {p : List MemPlace} (hv : Value.okWide Tryz.prog W r base 36 v)
    (h : DataW.Trod enc Tryz.prog W b0 spare held 36 v d p) : ∃ b rv, v = batV b rv ∧ Recs W rv b.recs ∧ BatOk b ∧ ∀ n c, rv = .slice none n c → c = 0 := by
  obtain ⟨cs, rfl, hlen, hc⟩ := agg_cells (P := Tryz.prog) [3, 3, 3, 3, 3, 34] Tryz.underlying36 (by kernel_rfl) (by kernel_rfl) hv
  obtain ⟨c0, c1, c2, c3, c4, c5, rfl⟩ := list6 hlen
  have hc5 := hc 5 c5 _ rfl rfl
  clear hc
  obtain ⟨fuel, hf⟩ := h
  obtain ⟨xs, n, _, _, _, hxl, hfd⟩ := DataW.trod_struct Tryz.underlying36 (by simpa [Value.cells] using hf)
  match xs, hxl with
  | [x0, x1, x2, x3, x4, x5], _ =>
    have g0 := hfd 0 _ rfl
    have g1 := hfd 1 _ rfl
    have g2 := hfd 2 _ rfl
    have g3 := hfd 3 _ rfl
    have g4 := hfd 4 _ rfl
    have g5 := hfd 5 _ rfl
    simp [cInt, cRecs] at g0 g1 g2 g3 g4 g5
    obtain ⟨n0, e0, _, w0⟩ := DataW.trod_int Tryz.underlying3 g0
    obtain ⟨n1, e1, _, w1⟩ := DataW.trod_int Tryz.underlying3 g1
    obtain ⟨n2, e2, _, w2⟩ := DataW.trod_int Tryz.underlying3 g2
    obtain ⟨n3, e3, _, w3⟩ := DataW.trod_int Tryz.underlying3 g3
    obtain ⟨n4, e4, _, w4⟩ := DataW.trod_int Tryz.underlying3 g4
    simp at e0 e1 e2 e3 e4
    subst e0 e1 e2 e3 e4
    obtain ⟨a, len, cap, hv5, hlc, hm, hno, -⟩ := slice_open (d := x5.1) (p := x5.2) (v := c5) (enc := enc) (b0 := b0) (spare := spare) (held := held) Tryz.underlying34 (show Value.okWide Tryz.prog W r base 34 c5 by
      simp only [Value.okWide, Tryz.underlying34]; exact hc5) ⟨n, by
        have hcc : c5.cells.toList = [c5] := by cases c5 <;> simp_all [Cell.okWide, Cell.ok, Value.cells, Tryz.underlying34]
        rw [hcc]; exact g5⟩
    obtain ⟨l, hR, hl, hx⟩ := open_recs (d := x5.1) (p := x5.2) (v := c5) (enc := enc) (b0 := b0) (spare := spare) (held := held) (show Value.okWide Tryz.prog W r base 34 c5 by
      simp only [Value.okWide, Tryz.underlying34]; exact hc5) ⟨n, by subst hv5; simpa [Value.cells] using g5⟩
    exact ⟨⟨n0, n1, n2, n3, n4, l⟩, c5, rfl, hR, ⟨inR_wf w0, inR_wf w1, inR_wf w2, inR_wf w3, inR_wf w4, hl, hx⟩, fun n c e => by
      rw [hv5] at e
      injection e with e1 e2 e3
      rw [← e3]
      exact (hno e1).2⟩

end Go.Proofs.YtbljbdjmgogknaaGreatDoor
