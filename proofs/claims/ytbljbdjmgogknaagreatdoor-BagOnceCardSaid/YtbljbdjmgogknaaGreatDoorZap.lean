/-
  Wv: texts of one proof, one behind the other.
  Conditions: none of its own.
-/
import Derived.Test.YtbljbdjmgogknaaGreatDoorZab
import Derived.Test.YtbljbdjmgogknaaGreatDoorZao
/-
  Messages that came in, opened by their readings alone (printed by wip/gen/mkopen.py).
  Conditions: none.
-/
set_option linter.unusedVariables false
set_option linter.unusedSimpArgs false
namespace Go.Proofs.YtbljbdjmgogknaaGreatDoor
open Go.ChangeShapes Go.WideShapes Go.ChangeAt Go.RowKit

theorem cLife : Tryz.prog.cellsOf 90 = 2 := by kernel_rfl
theorem cSlot : Tryz.prog.cellsOf 109 = 3 := by kernel_rfl
theorem cSeen : Tryz.prog.cellsOf 70 = 2 := by kernel_rfl
theorem cPart : Tryz.prog.cellsOf 32 = 3 := by kernel_rfl
theorem cReq : Tryz.prog.cellsOf 39 = 11 := by kernel_rfl
theorem cResp : Tryz.prog.cellsOf 42 = 8 := by kernel_rfl
theorem cMsg : Tryz.prog.cellsOf 44 = 38 := by kernel_rfl
theorem cErr : Tryz.prog.cellsOf 40 = 1 := by kernel_rfl
theorem cInts : Tryz.prog.cellsOf 30 = 1 := by kernel_rfl
theorem cLives : Tryz.prog.cellsOf 33 = 1 := by kernel_rfl
theorem cSlots : Tryz.prog.cellsOf 68 = 1 := by kernel_rfl
theorem cTab : Tryz.prog.cellsOf 37 = 1 := by kernel_rfl
theorem list_cons {α : Type} {n : Nat} {l : List α} (h : l.length = n + 1) : ∃ a t, l = a :: t ∧ t.length = n := by
  cases l with
  | nil => simp at h
  | cons a t => exact ⟨a, t, rfl, by simpa using h⟩
set_option maxRecDepth 100000 in
theorem open_intsT {W : World} {b0 fuel : Nat} {H : Type} {enc : TypeId × Value → H} {spare : Nat → Bool} {held : Bool} {cs : List Value} {x : DataW H × List MemPlace}
    (h : DataW.trod enc Tryz.prog W b0 spare held fuel 30 cs = some x) : ∃ v zs, cs = [v] ∧ Ints W v zs ∧ zs.length ≤ maxLen ∧ ∀ x ∈ zs, Bd.inR x := by
  obtain ⟨a, len, cap, rfl, hl, hm, h0, hel⟩ := slice_trod Tryz.underlying30 (by rw [cInt]; decide) h
  rw [cInt] at hel
  obtain ⟨zs, hz, hzs⟩ := list_of (0 : Int) (fun i (x : Int) => (∃ g off, a = some ⟨g, off, none⟩ ∧ g < W.heap.size ∧ W.cell? ⟨g, off + i, none⟩ = some (.int .i64 x)) ∧ Bd.inR x) (n := len) (fun i hi => by
      obtain ⟨b, off, cs, n, y, rfl, hlt, hcl, hc, ht⟩ := hel i hi
      obtain ⟨n0, e0, _, w0⟩ := DataW.trod_int Tryz.underlying3 ht
      subst e0
      exact ⟨n0, ⟨b, off, rfl, hlt, by simpa using hc 0 (by omega)⟩, inR_wf w0⟩)
  subst hz
  refine ⟨_, zs, rfl, ⟨a, cap, rfl, fun i hi => (hzs i hi).1⟩, Nat.le_trans hl hm, fun x hx => ?_⟩
  obtain ⟨i, hi⟩ := List.getElem?_of_mem hx
  obtain ⟨hi2, rfl⟩ := List.getElem?_eq_some_iff.1 hi
  have := (hzs i hi2).2
  simpa [List.getD, hi2] using this
set_option maxRecDepth 100000 in
theorem open_lives1 {W : World} {b0 fuel : Nat} {H : Type} {enc : TypeId × Value → H} {spare : Nat → Bool} {held : Bool} {cs : List Value} {x : DataW H × List MemPlace}
    (h : DataW.trod enc Tryz.prog W b0 spare held fuel 90 cs = some x) : ∃ x : Int × Int, (Bd.inR x.1 ∧ Bd.inR x.2) ∧ cs = lifeC x := by
  obtain ⟨xs, n, _, _, hcl, hxl, hfd⟩ := DataW.trod_struct Tryz.underlying90 h
  rw [cLife] at hcl
  match xs, hxl, cs, hcl with
  | [x0, x1], _, [c0, c1], _ =>
    have g0 := hfd 0 _ rfl
    have g1 := hfd 1 _ rfl
    simp [cInt, cStr, cRecs, cErr, cInts, cLives, cSlots, cTab, cPart, cBat, cReq, cResp] at g0 g1
    obtain ⟨n0, e0, _, w0⟩ := DataW.trod_int Tryz.underlying3 g0
    obtain ⟨n1, e1, _, w1⟩ := DataW.trod_int Tryz.underlying3 g1
    simp [wreqC, wrespC] at e0 e1
    subst e0 e1
    exact ⟨(n0, n1), ⟨inR_wf w0, inR_wf w1⟩, rfl⟩
set_option maxRecDepth 100000 in
theorem open_livesT {W : World} {b0 fuel : Nat} {H : Type} {enc : TypeId × Value → H} {spare : Nat → Bool} {held : Bool} {cs : List Value} {x : DataW H × List MemPlace}
    (h : DataW.trod enc Tryz.prog W b0 spare held fuel 33 cs = some x) : ∃ v l, cs = [v] ∧ Rw 2 lifeC W v l ∧ l.length ≤ maxLen ∧ ∀ x ∈ l, Bd.inR x.1 ∧ Bd.inR x.2 := by
  obtain ⟨a, len, cap, rfl, hl, hm, h0, hel⟩ := slice_trod Tryz.underlying33 (by rw [cLife]; decide) h
  rw [cLife] at hel
  obtain ⟨zs, hz, hzs⟩ := list_of ((0, 0) : Int × Int) (fun i (x : Int × Int) => (∃ g off, a = some ⟨g, off, none⟩ ∧ g < W.heap.size ∧ ∀ j u, (lifeC x)[j]? = some u → W.cell? ⟨g, off + i * 2 + j, none⟩ = some u) ∧ (Bd.inR x.1 ∧ Bd.inR x.2)) (n := len) (fun i hi => by
      obtain ⟨b, off, cs, n, y, rfl, hlt, hcl, hc, ht⟩ := hel i hi
      obtain ⟨x, hx, rfl⟩ := open_lives1 ht
      exact ⟨x, ⟨b, off, rfl, hlt, fun j u hu => (hc j (by have := (List.getElem?_eq_some_iff.1 hu).1; simpa [lifeC] using this)).trans hu⟩, hx⟩)
  subst hz
  have hat : ∀ i x, zs[i]? = some x → i < zs.length ∧ zs.getD i ((0, 0)) = x := fun i x h => by
    obtain ⟨hi, rfl⟩ := List.getElem?_eq_some_iff.1 h
    exact ⟨hi, by simp [List.getD, hi]⟩
  refine ⟨_, zs, rfl, ⟨a, cap, rfl, fun i x hx => ?_⟩, Nat.le_trans hl hm, fun x hx => ?_⟩
  · obtain ⟨hi, rfl⟩ := hat i x hx
    exact (hzs i hi).1
  · obtain ⟨i, hi⟩ := List.getElem?_of_mem hx
    obtain ⟨hi2, rfl⟩ := hat i x hi
    exact (hzs i hi2).2
set_option maxRecDepth 100000 in
theorem open_slots1 {W : World} {b0 fuel : Nat} {H : Type} {enc : TypeId × Value → H} {spare : Nat → Bool} {held : Bool} {cs : List Value} {x : DataW H × List MemPlace}
    (h : DataW.trod enc Tryz.prog W b0 spare held fuel 109 cs = some x) : ∃ x : Wi.Slot, (Bd.inR x.1 ∧ Bd.inR x.2.1 ∧ Bd.inR x.2.2) ∧ cs = slotC x := by
  obtain ⟨xs, n, _, _, hcl, hxl, hfd⟩ := DataW.trod_struct Tryz.underlying109 h
  rw [cSlot] at hcl
  match xs, hxl, cs, hcl with
  | [x0, x1, x2], _, [c0, c1, c2], _ =>
    have g0 := hfd 0 _ rfl
    have g1 := hfd 1 _ rfl
    have g2 := hfd 2 _ rfl
    simp [cInt, cStr, cRecs, cErr, cInts, cLives, cSlots, cTab, cPart, cBat, cReq, cResp] at g0 g1 g2
    obtain ⟨n0, e0, _, w0⟩ := DataW.trod_int Tryz.underlying3 g0
    obtain ⟨n1, e1, _, w1⟩ := DataW.trod_int Tryz.underlying3 g1
    obtain ⟨n2, e2, _, w2⟩ := DataW.trod_int Tryz.underlying3 g2
    simp [wreqC, wrespC] at e0 e1 e2
    subst e0 e1 e2
    exact ⟨(n0, n1, n2), ⟨inR_wf w0, inR_wf w1, inR_wf w2⟩, rfl⟩
set_option maxRecDepth 100000 in
theorem open_slotsT {W : World} {b0 fuel : Nat} {H : Type} {enc : TypeId × Value → H} {spare : Nat → Bool} {held : Bool} {cs : List Value} {x : DataW H × List MemPlace}
    (h : DataW.trod enc Tryz.prog W b0 spare held fuel 68 cs = some x) : ∃ v l, cs = [v] ∧ Rw 3 slotC W v l ∧ l.length ≤ maxLen ∧ ∀ x ∈ l, Bd.inR x.1 ∧ Bd.inR x.2.1 ∧ Bd.inR x.2.2 := by
  obtain ⟨a, len, cap, rfl, hl, hm, h0, hel⟩ := slice_trod Tryz.underlying68 (by rw [cSlot]; decide) h
  rw [cSlot] at hel
  obtain ⟨zs, hz, hzs⟩ := list_of ((0, 0, 0) : Wi.Slot) (fun i (x : Wi.Slot) => (∃ g off, a = some ⟨g, off, none⟩ ∧ g < W.heap.size ∧ ∀ j u, (slotC x)[j]? = some u → W.cell? ⟨g, off + i * 3 + j, none⟩ = some u) ∧ (Bd.inR x.1 ∧ Bd.inR x.2.1 ∧ Bd.inR x.2.2)) (n := len) (fun i hi => by
      obtain ⟨b, off, cs, n, y, rfl, hlt, hcl, hc, ht⟩ := hel i hi
      obtain ⟨x, hx, rfl⟩ := open_slots1 ht
      exact ⟨x, ⟨b, off, rfl, hlt, fun j u hu => (hc j (by have := (List.getElem?_eq_some_iff.1 hu).1; simpa [slotC] using this)).trans hu⟩, hx⟩)
  subst hz
  have hat : ∀ i x, zs[i]? = some x → i < zs.length ∧ zs.getD i ((0, 0, 0)) = x := fun i x h => by
    obtain ⟨hi, rfl⟩ := List.getElem?_eq_some_iff.1 h
    exact ⟨hi, by simp [List.getD, hi]⟩
  refine ⟨_, zs, rfl, ⟨a, cap, rfl, fun i x hx => ?_⟩, Nat.le_trans hl hm, fun x hx => ?_⟩
  · obtain ⟨hi, rfl⟩ := hat i x hx
    exact (hzs i hi).1
  · obtain ⟨i, hi⟩ := List.getElem?_of_mem hx
    obtain ⟨hi2, rfl⟩ := hat i x hi
    exact (hzs i hi2).2
set_option maxRecDepth 100000 in
theorem open_seen1 {W : World} {b0 fuel : Nat} {H : Type} {enc : TypeId × Value → H} {spare : Nat → Bool} {held : Bool} {cs : List Value} {x : DataW H × List MemPlace}
    (h : DataW.trod enc Tryz.prog W b0 spare held fuel 70 cs = some x) : ∃ (x : Wi.Seen) (sv : Value), (Bd.inR x.1 ∧ x.2.length ≤ maxLen ∧ ∀ y ∈ x.2, Bd.inR y.1 ∧ Bd.inR y.2.1 ∧ Bd.inR y.2.2) ∧ Rw 3 slotC W sv x.2 ∧ cs = [.int .i64 x.1, sv] := by
  obtain ⟨xs, n, _, _, hcl, hxl, hfd⟩ := DataW.trod_struct Tryz.underlying70 h
  rw [cSeen] at hcl
  match xs, hxl, cs, hcl with
  | [x0, x1], _, [c0, c1], _ =>
    have g0 := hfd 0 _ rfl
    have g1 := hfd 1 _ rfl
    simp [cInt, cStr, cRecs, cErr, cInts, cLives, cSlots, cTab, cPart, cBat, cReq, cResp] at g0 g1
    obtain ⟨n0, e0, _, w0⟩ := DataW.trod_int Tryz.underlying3 g0
    obtain ⟨v1, l1, e1, R1, m1, o1⟩ := open_slotsT g1
    simp [wreqC, wrespC] at e0 e1
    subst e0 e1
    exact ⟨(n0, l1), _, ⟨inR_wf w0, m1, o1⟩, R1, rfl⟩
set_option maxRecDepth 100000 in
theorem open_tableT {W : World} {b0 fuel : Nat} {H : Type} {enc : TypeId × Value → H} {spare : Nat → Bool} {held : Bool} {cs : List Value} {x : DataW H × List MemPlace}
    (h : DataW.trod enc Tryz.prog W b0 spare held fuel 37 cs = some x) : ∃ v l, cs = [v] ∧ Tbl W v l ∧ l.length ≤ maxLen ∧ ∀ x ∈ l, Bd.inR x.1 ∧ x.2.length ≤ maxLen ∧ ∀ y ∈ x.2, Bd.inR y.1 ∧ Bd.inR y.2.1 ∧ Bd.inR y.2.2 := by
  obtain ⟨a, len, cap, rfl, hl, hm, h0, hel⟩ := slice_trod Tryz.underlying37 (by rw [cSeen]; decide) h
  rw [cSeen] at hel
  obtain ⟨zs, hz, hzs⟩ := list_of ((0, []) : Wi.Seen) (fun i (x : Wi.Seen) => (∃ g off sv, a = some ⟨g, off, none⟩ ∧ g < W.heap.size ∧ W.cell? ⟨g, off + i * 2, none⟩ = some (.int .i64 x.1) ∧ W.cell? ⟨g, off + i * 2 + 1, none⟩ = some sv ∧ Rw 3 slotC W sv x.2) ∧ (Bd.inR x.1 ∧ x.2.length ≤ maxLen ∧ ∀ y ∈ x.2, Bd.inR y.1 ∧ Bd.inR y.2.1 ∧ Bd.inR y.2.2)) (n := len) (fun i hi => by
      obtain ⟨b, off, cs, n, y, rfl, hlt, hcl, hc, ht⟩ := hel i hi
      obtain ⟨x, sv, hx, hR, rfl⟩ := open_seen1 ht
      exact ⟨x, ⟨b, off, sv, rfl, hlt, by simpa using hc 0 (by omega), by simpa using hc 1 (by omega), hR⟩, hx⟩)
  subst hz
  have hat : ∀ i x, zs[i]? = some x → i < zs.length ∧ zs.getD i ((0, []) : Wi.Seen) = x := fun i x h => by
    obtain ⟨hi, rfl⟩ := List.getElem?_eq_some_iff.1 h
    exact ⟨hi, by simp [List.getD, hi]⟩
  refine ⟨_, zs, rfl, ⟨a, cap, rfl, fun i x hx => ?_⟩, Nat.le_trans hl hm, fun x hx => ?_⟩
  · obtain ⟨hi, rfl⟩ := hat i x hx
    exact (hzs i hi).1
  · obtain ⟨i, hi⟩ := List.getElem?_of_mem hx
    obtain ⟨hi2, rfl⟩ := hat i x hi
    exact (hzs i hi2).2
set_option maxRecDepth 100000 in
theorem open_partT {W : World} {b0 fuel : Nat} {H : Type} {enc : TypeId × Value → H} {spare : Nat → Bool} {held : Bool} {cs : List Value} {x : DataW H × List MemPlace}
    (h : DataW.trod enc Tryz.prog W b0 spare held fuel 32 cs = some x) : ∃ (ep : Int) (chain : List Int) (learner : Int) (cv : Value), cs = [.int .i64 ep, cv, .int .i64 learner] ∧ Bd.inR ep ∧ Ints W cv chain ∧ chain.length ≤ maxLen ∧ (∀ x ∈ chain, Bd.inR x) ∧ Bd.inR learner := by
  obtain ⟨xs, n, _, _, hcl, hxl, hfd⟩ := DataW.trod_struct Tryz.underlying32 h
  rw [cPart] at hcl
  match xs, hxl, cs, hcl with
  | [x0, x1, x2], _, [c0, c1, c2], _ =>
    have g0 := hfd 0 _ rfl
    have g1 := hfd 1 _ rfl
    have g2 := hfd 2 _ rfl
    simp [cInt, cStr, cRecs, cErr, cInts, cLives, cSlots, cTab, cPart, cBat, cReq, cResp] at g0 g1 g2
    obtain ⟨n0, e0, _, w0⟩ := DataW.trod_int Tryz.underlying3 g0
    obtain ⟨v1, l1, e1, R1, m1, o1⟩ := open_intsT g1
    obtain ⟨n2, e2, _, w2⟩ := DataW.trod_int Tryz.underlying3 g2
    simp [wreqC, wrespC] at e0 e1 e2
    subst e0 e1 e2
    exact ⟨n0, l1, n2, _, rfl, inR_wf w0, R1, m1, o1, inR_wf w2⟩
def ReqOk (q : Wi.Req) : Prop := (Bd.inR q.client ∧ Bd.inR q.n ∧ Bd.inR q.kind ∧ Bd.inR q.part ∧ Bd.inR q.seq ∧ Bd.inR q.off ∧ Bd.inR q.max ∧ Bd.inR q.gen) ∧ q.group.length ≤ maxLen ∧ q.member.length ≤ maxLen ∧ q.recs.length ≤ maxLen ∧ ∀ x ∈ q.recs, RecOk x
set_option maxRecDepth 100000 in
theorem open_reqT {W : World} {b0 fuel : Nat} {H : Type} {enc : TypeId × Value → H} {spare : Nat → Bool} {held : Bool} {cs : List Value} {x : DataW H × List MemPlace}
    (h : DataW.trod enc Tryz.prog W b0 spare held fuel 39 cs = some x) : ∃ (q : Wi.Req) (rv : Value), cs = wreqC q rv ∧ Recs W rv q.recs ∧ ReqOk q := by
  obtain ⟨xs, n, _, _, hcl, hxl, hfd⟩ := DataW.trod_struct Tryz.underlying39 h
  rw [cReq] at hcl
  match xs, hxl, cs, hcl with
  | [x0, x1, x2, x3, x4, x5, x6, x7, x8, x9, x10], _, [c0, c1, c2, c3, c4, c5, c6, c7, c8, c9, c10], _ =>
    have g0 := hfd 0 _ rfl
    have g1 := hfd 1 _ rfl
    have g2 := hfd 2 _ rfl
    have g3 := hfd 3 _ rfl
    have g4 := hfd 4 _ rfl
    have g5 := hfd 5 _ rfl
    have g6 := hfd 6 _ rfl
    have g7 := hfd 7 _ rfl
    have g8 := hfd 8 _ rfl
    have g9 := hfd 9 _ rfl
    have g10 := hfd 10 _ rfl
    simp [cInt, cStr, cRecs, cErr, cInts, cLives, cSlots, cTab, cPart, cBat, cReq, cResp] at g0 g1 g2 g3 g4 g5 g6 g7 g8 g9 g10
    obtain ⟨n0, e0, _, w0⟩ := DataW.trod_int Tryz.underlying3 g0
    obtain ⟨n1, e1, _, w1⟩ := DataW.trod_int Tryz.underlying3 g1
    obtain ⟨n2, e2, _, w2⟩ := DataW.trod_int Tryz.underlying3 g2
    obtain ⟨n3, e3, _, w3⟩ := DataW.trod_int Tryz.underlying3 g3
    obtain ⟨n4, e4, _, w4⟩ := DataW.trod_int Tryz.underlying3 g4
    obtain ⟨n5, e5, _, w5⟩ := DataW.trod_int Tryz.underlying3 g5
    obtain ⟨n6, e6, _, w6⟩ := DataW.trod_int Tryz.underlying3 g6
    obtain ⟨n7, e7, _, w7⟩ := DataW.trod_int Tryz.underlying3 g7
    obtain ⟨s8, e8, _, w8⟩ := DataW.trod_string Tryz.underlying9 g8
    obtain ⟨s9, e9, _, w9⟩ := DataW.trod_string Tryz.underlying9 g9
    obtain ⟨v10, l10, e10, R10, m10, o10, _⟩ := open_recsT g10
    simp [wreqC, wrespC] at e0 e1 e2 e3 e4 e5 e6 e7 e8 e9 e10
    subst e0 e1 e2 e3 e4 e5 e6 e7 e8 e9 e10
    exact ⟨⟨n0, n1, n2, n3, n4, n5, n6, n7, s8.data.toList, s9.data.toList, l10⟩, _, rfl, R10, ⟨inR_wf w0, inR_wf w1, inR_wf w2, inR_wf w3, inR_wf w4, inR_wf w5, inR_wf w6, inR_wf w7⟩, w8, w9, m10, o10⟩
def RespOk (a : Wi.Resp) : Prop := (Bd.inR a.client ∧ Bd.inR a.n ∧ Bd.inR a.code ∧ Bd.inR a.off ∧ Bd.inR a.high ∧ Bd.inR a.gen) ∧ (a.parts.length ≤ maxLen ∧ ∀ x ∈ a.parts, Bd.inR x) ∧ a.recs.length ≤ maxLen ∧ ∀ x ∈ a.recs, RecOk x
set_option maxRecDepth 100000 in
theorem open_respT {W : World} {b0 fuel : Nat} {H : Type} {enc : TypeId × Value → H} {spare : Nat → Bool} {held : Bool} {cs : List Value} {x : DataW H × List MemPlace}
    (h : DataW.trod enc Tryz.prog W b0 spare held fuel 42 cs = some x) : ∃ (a : Wi.Resp) (pv rv : Value), cs = wrespC a pv rv ∧ Ints W pv a.parts ∧ Recs W rv a.recs ∧ RespOk a := by
  obtain ⟨xs, n, _, _, hcl, hxl, hfd⟩ := DataW.trod_struct Tryz.underlying42 h
  rw [cResp] at hcl
  match xs, hxl, cs, hcl with
  | [x0, x1, x2, x3, x4, x5, x6, x7], _, [c0, c1, c2, c3, c4, c5, c6, c7], _ =>
    have g0 := hfd 0 _ rfl
    have g1 := hfd 1 _ rfl
    have g2 := hfd 2 _ rfl
    have g3 := hfd 3 _ rfl
    have g4 := hfd 4 _ rfl
    have g5 := hfd 5 _ rfl
    have g6 := hfd 6 _ rfl
    have g7 := hfd 7 _ rfl
    simp [cInt, cStr, cRecs, cErr, cInts, cLives, cSlots, cTab, cPart, cBat, cReq, cResp] at g0 g1 g2 g3 g4 g5 g6 g7
    obtain ⟨n0, e0, _, w0⟩ := DataW.trod_int Tryz.underlying3 g0
    obtain ⟨n1, e1, _, w1⟩ := DataW.trod_int Tryz.underlying3 g1
    obtain ⟨n2, e2, _, w2⟩ := DataW.trod_int Tryz.underlying40 g2
    obtain ⟨n3, e3, _, w3⟩ := DataW.trod_int Tryz.underlying3 g3
    obtain ⟨n4, e4, _, w4⟩ := DataW.trod_int Tryz.underlying3 g4
    obtain ⟨n5, e5, _, w5⟩ := DataW.trod_int Tryz.underlying3 g5
    obtain ⟨v6, l6, e6, R6, m6, o6⟩ := open_intsT g6
    obtain ⟨v7, l7, e7, R7, m7, o7, _⟩ := open_recsT g7
    simp [wreqC, wrespC] at e0 e1 e2 e3 e4 e5 e6 e7
    subst e0 e1 e2 e3 e4 e5 e6 e7
    exact ⟨⟨n0, n1, n2, n3, n4, n5, l6, l7⟩, _, _, rfl, R6, R7, ⟨inR_wf w0, inR_wf w1, inR_wf w2, inR_wf w3, inR_wf w4, inR_wf w5⟩, ⟨m6, o6⟩, m7, o7⟩
set_option maxRecDepth 100000 in
set_option maxHeartbeats 4000000 in
theorem open_msgT {W : World} {b0 fuel : Nat} {H : Type} {enc : TypeId × Value → H} {spare : Nat → Bool} {held : Bool} {cs : List Value} {x : DataW H × List MemPlace}
    (h : DataW.trod enc Tryz.prog W b0 spare held fuel 44 cs = some x) : ∃ (m : Wi.Msg) (v : MsgV), cs = msgC m v ∧ MsgAt W m v ∧ MsgOk m := by
  obtain ⟨xs, n, _, _, hcl, hxl, hfd⟩ := DataW.trod_struct Tryz.underlying44 h
  rw [cMsg] at hcl
  obtain ⟨c0, t0, rfl, k0⟩ := list_cons (hcl)
  obtain ⟨c1, t1, rfl, k1⟩ := list_cons (k0)
  obtain ⟨c2, t2, rfl, k2⟩ := list_cons (k1)
  obtain ⟨c3, t3, rfl, k3⟩ := list_cons (k2)
  obtain ⟨c4, t4, rfl, k4⟩ := list_cons (k3)
  obtain ⟨c5, t5, rfl, k5⟩ := list_cons (k4)
  obtain ⟨c6, t6, rfl, k6⟩ := list_cons (k5)
  obtain ⟨c7, t7, rfl, k7⟩ := list_cons (k6)
  obtain ⟨c8, t8, rfl, k8⟩ := list_cons (k7)
  obtain ⟨c9, t9, rfl, k9⟩ := list_cons (k8)
  obtain ⟨c10, t10, rfl, k10⟩ := list_cons (k9)
  obtain ⟨c11, t11, rfl, k11⟩ := list_cons (k10)
  obtain ⟨c12, t12, rfl, k12⟩ := list_cons (k11)
  obtain ⟨c13, t13, rfl, k13⟩ := list_cons (k12)
  obtain ⟨c14, t14, rfl, k14⟩ := list_cons (k13)
  obtain ⟨c15, t15, rfl, k15⟩ := list_cons (k14)
  obtain ⟨c16, t16, rfl, k16⟩ := list_cons (k15)
  obtain ⟨c17, t17, rfl, k17⟩ := list_cons (k16)
  obtain ⟨c18, t18, rfl, k18⟩ := list_cons (k17)
  obtain ⟨c19, t19, rfl, k19⟩ := list_cons (k18)
  obtain ⟨c20, t20, rfl, k20⟩ := list_cons (k19)
  obtain ⟨c21, t21, rfl, k21⟩ := list_cons (k20)
  obtain ⟨c22, t22, rfl, k22⟩ := list_cons (k21)
  obtain ⟨c23, t23, rfl, k23⟩ := list_cons (k22)
  obtain ⟨c24, t24, rfl, k24⟩ := list_cons (k23)
  obtain ⟨c25, t25, rfl, k25⟩ := list_cons (k24)
  obtain ⟨c26, t26, rfl, k26⟩ := list_cons (k25)
  obtain ⟨c27, t27, rfl, k27⟩ := list_cons (k26)
  obtain ⟨c28, t28, rfl, k28⟩ := list_cons (k27)
  obtain ⟨c29, t29, rfl, k29⟩ := list_cons (k28)
  obtain ⟨c30, t30, rfl, k30⟩ := list_cons (k29)
  obtain ⟨c31, t31, rfl, k31⟩ := list_cons (k30)
  obtain ⟨c32, t32, rfl, k32⟩ := list_cons (k31)
  obtain ⟨c33, t33, rfl, k33⟩ := list_cons (k32)
  obtain ⟨c34, t34, rfl, k34⟩ := list_cons (k33)
  obtain ⟨c35, t35, rfl, k35⟩ := list_cons (k34)
  obtain ⟨c36, t36, rfl, k36⟩ := list_cons (k35)
  obtain ⟨c37, t37, rfl, k37⟩ := list_cons (k36)
  obtain rfl := List.eq_nil_of_length_eq_zero k37
  match xs, hxl with
  | [x0, x1, x2, x3, x4, x5, x6, x7, x8, x9, x10, x11, x12, x13], _ =>
    have g0 := hfd 0 _ rfl
    have g1 := hfd 1 _ rfl
    have g2 := hfd 2 _ rfl
    have g3 := hfd 3 _ rfl
    have g4 := hfd 4 _ rfl
    have g5 := hfd 5 _ rfl
    have g6 := hfd 6 _ rfl
    have g7 := hfd 7 _ rfl
    have g8 := hfd 8 _ rfl
    have g9 := hfd 9 _ rfl
    have g10 := hfd 10 _ rfl
    have g11 := hfd 11 _ rfl
    have g12 := hfd 12 _ rfl
    have g13 := hfd 13 _ rfl
    simp [cInt, cStr, cRecs, cErr, cInts, cLives, cSlots, cTab, cPart, cBat, cReq, cResp] at g0 g1 g2 g3 g4 g5 g6 g7 g8 g9 g10 g11 g12 g13
    obtain ⟨n0, e0, _, w0⟩ := DataW.trod_int Tryz.underlying3 g0
    obtain ⟨n1, e1, _, w1⟩ := DataW.trod_int Tryz.underlying3 g1
    obtain ⟨n2, e2, _, w2⟩ := DataW.trod_int Tryz.underlying3 g2
    obtain ⟨n3, e3, _, w3⟩ := DataW.trod_int Tryz.underlying3 g3
    obtain ⟨n4, e4, _, w4⟩ := DataW.trod_int Tryz.underlying3 g4
    obtain ⟨n5, e5, _, w5⟩ := DataW.trod_int Tryz.underlying3 g5
    obtain ⟨n6, e6, _, w6⟩ := DataW.trod_int Tryz.underlying3 g6
    obtain ⟨n7, e7, _, w7⟩ := DataW.trod_int Tryz.underlying3 g7
    obtain ⟨pa8, pc8, pl8, pv8, e8, wa8, R8, m8, o8, wb8⟩ := open_partT g8
    obtain ⟨v9, l9, e9, R9, m9, o9⟩ := open_livesT g9
    obtain ⟨b10, v10, e10, R10, o10⟩ := open_batT g10
    obtain ⟨v11, l11, e11, R11, m11, o11⟩ := open_tableT g11
    obtain ⟨q12, v12, e12, R12, o12⟩ := open_reqT g12
    obtain ⟨q13, v13, u13, e13, P13, R13, o13⟩ := open_respT g13
    simp [wreqC, wrespC] at e0 e1 e2 e3 e4 e5 e6 e7 e8 e9 e10 e11 e12 e13
    obtain ⟨f8_0, f8_1, f8_2⟩ := e8
    obtain ⟨f10_0, f10_1, f10_2, f10_3, f10_4, f10_5⟩ := e10
    obtain ⟨f12_0, f12_1, f12_2, f12_3, f12_4, f12_5, f12_6, f12_7, f12_8, f12_9, f12_10⟩ := e12
    obtain ⟨f13_0, f13_1, f13_2, f13_3, f13_4, f13_5, f13_6, f13_7⟩ := e13
    subst e0 e1 e2 e3 e4 e5 e6 e7 f8_0 f8_1 f8_2 e9 f10_0 f10_1 f10_2 f10_3 f10_4 f10_5 e11 f12_0 f12_1 f12_2 f12_3 f12_4 f12_5 f12_6 f12_7 f12_8 f12_9 f12_10 f13_0 f13_1 f13_2 f13_3 f13_4 f13_5 f13_6 f13_7
    refine ⟨⟨n0, n1, n2, n3, n4, n5, n6, n7, pa8, pc8, pl8, l9, b10, l11, q12, q13⟩, ⟨_, _, _, _, _, _, _⟩, rfl, ⟨R8, R9, R10, R11, R12, P13, R13⟩, ?_⟩
    obtain ⟨⟨a0, a1, a2, a3, a4, a5, a6, a7⟩, a8, a9, a10, a11⟩ := o12
    obtain ⟨⟨d0, d1, d2, d3, d4, d5⟩, d6, d7, d8⟩ := o13
    refine ⟨?_, ⟨m8, o8⟩, ⟨m9, o9⟩, o10, ⟨m11, o11⟩, ⟨a8, a9, a10, a11⟩, d6, ⟨d7, d8⟩⟩
    simp only [List.mem_cons, List.not_mem_nil, or_false, forall_eq_or_imp, forall_eq]
    exact ⟨inR_wf w0, inR_wf w1, inR_wf w2, inR_wf w3, inR_wf w4, inR_wf w5, inR_wf w6, inR_wf w7, wa8, wb8, a0, a1, a2, a3, a4, a5, a6, a7, d0, d1, d2, d3, d4, d5⟩

end Go.Proofs.YtbljbdjmgogknaaGreatDoor
