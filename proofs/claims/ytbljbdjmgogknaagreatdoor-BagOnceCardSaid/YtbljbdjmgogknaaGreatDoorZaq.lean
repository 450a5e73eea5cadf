/-
  Gk: texts of one proof, one behind the other.
  Conditions: none of its own.
-/
import Derived.Test.YtbljbdjmgogknaaGreatDoorZal
import Derived.Test.YtbljbdjmgogknaaGreatDoorZam
import Derived.Test.YtbljbdjmgogknaaGreatDoorZap
/-
  Bag: rows of calls that came in; a list of the call's own in a box, beside the bag.
  Conditions: none.
-/
set_option linter.unusedVariables false
set_option linter.unusedSimpArgs false
namespace Go.Proofs.YtbljbdjmgogknaaGreatDoor
open Go.ChangeShapes Go.WideShapes Go.ChangeAt Go.RowKit

/-- A call: its kind, a message with its slices, a number. -/
structure ActX where
  kind : Int
  m : Wi.Msg
  v : MsgV
  n : Int
def actC (x : ActX) : List Value := .int .i64 x.kind :: (msgC x.m x.v ++ [.int .i64 x.n])
theorem actC_len (x : ActX) : (actC x).length = 40 := rfl
def ActsAt (w : World) (v : Value) (l : List ActX) : Prop :=
  ∃ a cap, v = .slice a l.length cap ∧ ∀ i x, l[i]? = some x → ∃ g off, a = some ⟨g, off, none⟩ ∧ g < w.heap.size ∧ w.rangeAt g (off + i * 40) (actC x) ∧ MsgAt w x.m x.v
theorem ActsAt.kept {w w' : World} {v : Value} {l : List ActX} (h : ActsAt w v l) (hb : Below w.heap.size w w') : ActsAt w' v l := by
  obtain ⟨a, cap, rfl, hc⟩ := h
  refine ⟨a, cap, rfl, fun i x hx => ?_⟩
  obtain ⟨g, off, e, hg, hr, hm⟩ := hc i x hx
  exact ⟨g, off, e, Nat.lt_of_lt_of_le hg hb.size, fun j u hu => (hb.cell (p := ⟨g, off + i * 40 + j, none⟩) hg).trans (hr j u hu), hm.kept hb⟩
def ActOk (x : ActX) : Prop := MsgOk x.m ∧ Bd.inR x.kind ∧ Bd.inR x.n ∧ (actC x).all (·.oneCell') = true
theorem cAct : Tryz.prog.cellsOf 46 = 40 := by kernel_rfl
theorem rows_one {w : World} {α : Type} {sz : Nat} {f : α → List Value} {v : Value} {l : List α} (h : Rw sz f w v l) : v.oneCell' = true := by
  obtain ⟨a, cap, rfl⟩ := h.form
  rfl
theorem msg_one {w : World} {m : Wi.Msg} {v : MsgV} (h : MsgAt w m v) : ∀ u ∈ msgC m v, u.oneCell' = true := by
  obtain ⟨a0, c0, h0⟩ := h.chain.form
  obtain ⟨a1, c1, h1⟩ := h.lives.form
  obtain ⟨a2, c2, h2⟩ := h.brecs.form
  obtain ⟨a3, c3, h3⟩ := h.table.form
  obtain ⟨a4, c4, h4⟩ := h.qrecs.form
  obtain ⟨a5, c5, h5⟩ := h.parts.form
  obtain ⟨a6, c6, h6⟩ := h.arecs.form
  obtain ⟨v0, v1, v2, v3, v4, v5, v6⟩ := v
  dsimp only at h0 h1 h2 h3 h4 h5 h6
  subst h0 h1 h2 h3 h4 h5 h6
  simp [msgC, wreqC, wrespC, Value.oneCell']
set_option maxRecDepth 100000 in
theorem open_act1 {W : World} {b0 fuel : Nat} {H : Type} {enc : TypeId × Value → H} {spare : Nat → Bool} {held : Bool} {cs : List Value} {x : DataW H × List MemPlace}
    (h : DataW.trod enc Tryz.prog W b0 spare held fuel 46 cs = some x) : ∃ x : ActX, cs = actC x ∧ MsgAt W x.m x.v ∧ ActOk x := by
  obtain ⟨y0, y1, y2, m, _, hcl, h0, h1, h2⟩ := Go.Deep.trod_struct3 Tryz.underlying46 h
  rw [cAct] at hcl
  simp [cInt, cMsg] at h0 h1 h2
  obtain ⟨n0, e0, _, w0⟩ := DataW.trod_int Tryz.underlying3 h0
  obtain ⟨n2, e2, _, w2⟩ := DataW.trod_int Tryz.underlying3 h2
  obtain ⟨mm, mv, e1, hm, ho⟩ := open_msgT h1
  have e : cs = actC ⟨n0, mm, mv, n2⟩ := by
    obtain ⟨c0, t, rfl, ht⟩ := list_cons hcl
    simp at e0 e1 e2
    have k2 : t = t.take 38 ++ t.drop 38 := (List.take_append_drop 38 _).symm
    have k3 : (t.drop 38).take 1 = t.drop 38 := List.take_of_length_le (by simp; omega)
    rw [e0, actC, k2, e1, ← k3, e2]
  refine ⟨⟨n0, mm, mv, n2⟩, e, hm, ho, inR_wf w0, inR_wf w2, ?_⟩
  have := msg_one hm
  simp only [actC, List.all_cons, List.all_append, List.all_nil, Bool.and_true, Bool.and_eq_true, List.all_eq_true]
  exact ⟨rfl, this, rfl⟩
set_option maxRecDepth 100000 in
theorem open_acts {W : World} {r : Reach} {base b0 : Nat} {H : Type} {enc : TypeId × Value → H} {spare : Nat → Bool} {held : Bool} {v : Value} {d : DataW H} {p : List MemPlace}
    (h : DataW.Trod enc Tryz.prog W b0 spare held 22 v d p) (hv : Value.okWide Tryz.prog W r base 22 v) : ∃ l, ActsAt W v l ∧ l.length ≤ maxLen ∧ ∀ x ∈ l, ActOk x := by
  obtain ⟨a, len, cap, rfl, hl, hm, h0, h1, hel⟩ := slice_open Tryz.underlying22 hv h
  rw [cAct] at hel
  obtain ⟨zs, hz, hzs⟩ := list_of (⟨0, Wi.zMsg, zeroV, 0⟩ : ActX) (fun i (x : ActX) => (∃ g off, a = some ⟨g, off, none⟩ ∧ g < W.heap.size ∧ W.rangeAt g (off + i * 40) (actC x) ∧ MsgAt W x.m x.v) ∧ ActOk x) (n := len) (fun i hi => by
      obtain ⟨b, off, cs, n, y, rfl, hlt, hcl, hc, ht⟩ := hel i hi
      obtain ⟨x, rfl, hx, ho⟩ := open_act1 ht
      exact ⟨x, ⟨b, off, rfl, hlt, fun j u hu => (hc j (by have := (List.getElem?_eq_some_iff.1 hu).1; rwa [actC_len] at this)).trans hu, hx⟩, ho⟩)
  subst hz
  have hat : ∀ i x, zs[i]? = some x → i < zs.length ∧ zs.getD i ⟨0, Wi.zMsg, zeroV, 0⟩ = x := fun i x h => by
    obtain ⟨hi, rfl⟩ := List.getElem?_eq_some_iff.1 h
    exact ⟨hi, by simp [List.getD, hi]⟩
  refine ⟨zs, ⟨a, cap, rfl, fun i x hx => ?_⟩, Nat.le_trans hl hm, fun x hx => ?_⟩
  · obtain ⟨hi, rfl⟩ := hat i x hx
    exact (hzs i hi).1
  · obtain ⟨i, hi⟩ := List.getElem?_of_mem hx
    obtain ⟨hi2, rfl⟩ := hat i x hi
    exact (hzs i hi2).2

end Go.Proofs.YtbljbdjmgogknaaGreatDoor
