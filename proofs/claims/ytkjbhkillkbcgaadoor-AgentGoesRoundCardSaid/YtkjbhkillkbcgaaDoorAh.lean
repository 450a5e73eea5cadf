/-
  Agent: a call (printed by wip/gen/mkagh.py).
  Conditions: none.
-/
import Derived.Test.YtkjbhkillkbcgaaDoorAg
set_option linter.unusedVariables false
set_option linter.unusedSimpArgs false
namespace Go.Proofs.YtkjbhkillkbcgaaDoor
open Go.RowKit

theorem Recs.keepT {w w' : World} {S : Nat → Prop} {v : Value} {l : List Cr.Rec} (h : Recs w v l) (k : Keeps S w w') (hs : ∀ j, v.ownBlock = some j → ¬ S j) : Recs w' v l := by
  obtain ⟨a, cap, rfl, hc⟩ := h
  refine ⟨a, cap, rfl, fun i x hx => ?_⟩
  obtain ⟨g', off, rfl, hg, h0, h1, h2, h3⟩ := hc i x hx
  have hn : ¬ S g' := hs g' rfl
  exact ⟨g', off, rfl, Nat.lt_of_lt_of_le hg k.size, (k.cell (a := ⟨g', off + i * 4, none⟩) hg hn).trans h0, (k.cell (a := ⟨g', off + i * 4 + 1, none⟩) hg hn).trans h1, (k.cell (a := ⟨g', off + i * 4 + 2, none⟩) hg hn).trans h2, (k.cell (a := ⟨g', off + i * 4 + 3, none⟩) hg hn).trans h3⟩
theorem Sl.lowerA {w : World} {B B' size : Nat} {v : Value} {n : Nat} {xs : List Value} (h : Sl w B size v n xs) (hb : B' ≤ B) : Sl w B' size v n xs := by
  obtain ⟨h1, h2⟩ := h
  refine ⟨h1, ?_⟩
  rcases h2 with h2 | ⟨g, off, cap, e, hB, r⟩
  · exact .inl h2
  · exact .inr ⟨g, off, cap, e, Nat.le_trans hb hB, r⟩
/-- Records that lie not in the client's block. -/
def RecA (w : World) (g m : Nat) (v : Value) : Prop := ∃ rl, Recs w v rl ∧ rl.length ≤ 1000000 ∧ ∀ j, v.ownBlock = some j → j ≠ g ∧ j ≠ m
theorem RecA.keep {w w' : World} {g m : Nat} {v : Value} (h : RecA w g m v) (k : Keeps (fun j => j = g) w w') : RecA w' g m v := by
  obtain ⟨rl, h1, h2, h3⟩ := h
  exact ⟨rl, h1.keepT k (fun j hj e => (h3 j hj).1 e), h2, h3⟩
theorem RecA.keep2 {w w' : World} {g m : Nat} {v : Value} (h : RecA w g m v) (k : Keeps (fun j => j = g ∨ j = m) w w') : RecA w' g m v := by
  obtain ⟨rl, h1, h2, h3⟩ := h
  exact ⟨rl, h1.keepT k (fun j hj e => e.elim (h3 j hj).1 (h3 j hj).2), h2, h3⟩
theorem RecA.none (w : World) (g m : Nat) : RecA w g m (.slice none 0 0) := ⟨[], ⟨Option.none, 0, rfl, fun i x hx => by simp at hx⟩, by simp, by simp [Value.ownBlock]⟩
/-- A client that works. -/
structure AgI (w : World) (g : Nat) (s : AgS) (gl : LM) : Prop where
  a : Ag w g s
  rr : RecA w g s.gens s.req.recs
  cr : RecA w g s.gens s.call.recs
  M : Mp w s.gens (imap gl)
  gg : s.gens ≠ g
  cl : 1 ≤ s.client ∧ s.client ≤ 4
  nd : 1 ≤ s.nodes ∧ s.nodes ≤ 5
  cu : 1 ≤ s.cur ∧ s.cur ≤ s.nodes
  kd : s.req.kind ≠ 8
  nn : 0 ≤ s.n ∧ s.n ≤ 1000000
  sq : 0 ≤ s.s0 ∧ s.s0 ≤ 1000000 ∧ 0 ≤ s.s1 ∧ s.s1 ≤ 1000000
  tk : 0 ≤ s.ticks ∧ s.ticks ≤ 1000000
theorem AgI.below {w w' : World} {g : Nat} {s : AgS} {gl : LM} (h : AgI w g s gl) (hb : Below w.heap.size w w') : AgI w' g s gl :=
  { a := Cl.below h.a hb, rr := h.rr.keep (Keeps.below _ hb), cr := h.cr.keep (Keeps.below _ hb), M := h.M.below hb, gg := h.gg, cl := h.cl, nd := h.nd, cu := h.cu, kd := h.kd, nn := h.nn, sq := h.sq, tk := h.tk }
def CallPost (w : World) (g : Nat) (s : AgS) (gl : LM) (x : CallS) (R : ReqS → Prop) (e : Ending) (w' : World) : Prop :=
  ∃ rv rq v rv2, e = .returned (.int .i64 0) ∧ AgI w' g { s with n := s.n + 1, busy := true, ticks := 0, call := { x with recs := rv }, req := rq, out := v } gl ∧ R rq ∧ OutIs w' w.heap.size v (10 + s.client) s.cur { rq with recs := rv2 } ∧ Keeps (fun j => j = g) w w' ∧ ∀ j, rv.ownBlock = some j → w.heap.size ≤ j ∧ j < w'.heap.size
set_option maxRecDepth 20000 in
set_option maxHeartbeats 6400000 in
theorem call_any (g : Nat) (s : AgS) (gl : LM) (x : CallS) (R : ReqS → Prop) (rl : List Cr.Rec) (w : World) (h : AgI w g s gl) (hb0 : s.busy = false) (ho : s.out = .slice none 0 0) (hx : Recs w x.recs rl) (hrl : rl.length ≤ 1000000) (hn : s.n ≤ 999999)
    (HR : ∀ W, Below w.heap.size w W → Calls Tryd.prog 13 #[callV x] W fun e w' => e = .returned (.bool true) ∧ Below W.heap.size W w')
    (HQ : ∀ W a' l' c', Recs W (.slice a' l' c') rl → Keeps (fun j => j = g) w W → Ag W g { s with n := s.n + 1, busy := true, ticks := 0, call := { x with recs := .slice a' l' c' } } → Mp W s.gens (imap gl) → (∀ j, (Value.slice a' l' c').ownBlock = some j → j < W.heap.size) →
      Calls Tryd.prog 15 #[.pointer (some ⟨g, 0, none⟩), callV { x with recs := .slice a' l' c' }] W fun e w' => ∃ rq, e = .returned (reqV rq) ∧ R rq ∧ rq.kind ≠ 8 ∧ RecA w' g s.gens rq.recs ∧ Below W.heap.size W w') :
    Calls Tryd.prog 7 #[.pointer (some ⟨g, 0, none⟩), callV x] w (CallPost w g s gl x R) := by
  have HI := Lib.hid h
  have HX := Lib.hid hx
  have HRR := Lib.hid HR
  have HQQ := Lib.hid HQ
  have HO := Lib.hid ho
  obtain ⟨a, cap, hxr⟩ := hx.form
  obtain ⟨kind, part, off, max, group, recs⟩ := x
  dsimp only at *
  subst hxr
  have hgl := Cl.lt h.a
  have hnn := h.nn
  clear HR HQ h hx ho
  unfold callV callC
  go_enter Tryd.func7, Tryd.ntmps7
  obtain ⟨w1, hw1, C1, B1⟩ := right_start (w := w) ⟨kind, part, off, max, group, .slice a rl.length cap⟩ a rl.length cap kind part off max group
  go_upto_region 1 with (fail)
  first | rw [hw1] | skip
  clear hw1
  have I1 := Lib.hid (HI.out.below B1.out)
  have X1 := Lib.hid (HX.out.kept B1.out)
  have HRW := Lib.hid (HRR.out w1 B1.out)
  unfold callV callC at HRW
  have K1 : Hid (Keeps (fun j => j = g) w w1) := Keeps.below _ B1.out
  have hgp : g ≠ w.heap.size := by omega
  generalize hp : w.heap.size = p at C1 hgp ⊢
  have HLE := Lib.hid (Nat.le_of_eq hp)
  clear hp
  have c9 := Cl.cell I1.out.a 9
  have x0 := C1.out.cell 0
  have x1 := C1.out.cell 1
  have x2 := C1.out.cell 2
  have x3 := C1.out.cell 3
  have x4 := C1.out.cell 4
  have x5 := C1.out.cell 5
  simp only [agC, List.getElem?_cons_zero, List.getElem?_cons_succ] at c9 x0 x1 x2 x3 x4 x5
  rw [hb0] at c9
  go_wp2_with fail
  refine HRW.out.mono ?_
  rintro e w2 ⟨rfl, hb2⟩
  have C2 := Lib.hid (C1.out.below hb2)
  have I2 := Lib.hid (I1.out.below hb2)
  have X2 := Lib.hid (X1.out.kept hb2)
  have K2 : Hid (Keeps (fun j => j = g) w w2) := K1.out.trans (Keeps.below _ hb2)
  have hpl := C2.out.lt
  have hsz2 := K2.out.size
  clear hb2 HRW HRR x0 x1 x2 x3 x4 x5 c9 C1 I1 X1 K1
  have x5 := C2.out.cell 5
  simp only [List.getElem?_cons_zero, List.getElem?_cons_succ] at x5
  go_wp2_with fail
  refine (clonerecs_any rl hrl _ w2 X2.out).mono ?_
  rintro e w3 ⟨v3, rfl, hs3, hb3⟩
  obtain ⟨a3, cap3, hv3, _⟩ := hs3.form
  subst hv3
  have S3 := Lib.hid hs3
  have C3 := Lib.hid (C2.out.below hb3)
  have I3 := Lib.hid (I2.out.below hb3)
  have K3 : Hid (Keeps (fun j => j = g) w w3) := K2.out.trans (Keeps.below _ hb3)
  have hsz3 := hb3.size
  clear hb3 hs3 x5 C2 I2 X2 K2
  have x5 := C3.out.cell 5
  have f5 := C3.out.free 5
  simp only [List.getElem?_cons_zero, List.getElem?_cons_succ] at x5
  have C4 := Lib.hid (C3.out.set 5 (.slice a3 rl.length cap3))
  have A4 : Hid (Ag (w3.setCell ⟨p, 5, none⟩ (.slice a3 rl.length cap3)) g s) := Cl.other I3.out.a _ _ (fun e => hgp e.symm)
  have K4 : Hid (Keeps (fun j => j = g) w (w3.setCell ⟨p, 5, none⟩ (.slice a3 rl.length cap3))) := Keeps.fresh K3.out (Keeps.setCell (fun j => j = p) w3 _ _ rfl) (fun j hj e => by have := HLE.out; omega)
  have R4 : Hid (Recs (w3.setCell ⟨p, 5, none⟩ (.slice a3 rl.length cap3)) (.slice a3 rl.length cap3) rl ∧ (∀ j, (Value.slice a3 rl.length cap3).ownBlock = some j → j ≠ g ∧ j ≠ s.gens ∧ j < (w3.setCell ⟨p, 5, none⟩ (.slice a3 rl.length cap3)).heap.size ∧ w.heap.size ≤ j)) := by
    have hlo := S3.out.lt
    refine ⟨S3.out.recs.keepT (S := fun j => j = p) (Keeps.setCell _ _ _ _ rfl) (fun j hj e => by have := (hlo j hj).1; omega), fun j hj => by have h1 := (hlo j hj).1; have h2 := HI.out.M.lt; exact ⟨by omega, by omega, by simpa [World.setCell] using (hlo j hj).2, by omega⟩⟩
  simp only [List.set_cons_zero, List.set_cons_succ] at C4
  go_upto_region 8 with (fail)
  generalize w3.setCell ⟨p, 5, none⟩ (.slice a3 rl.length cap3) = w4 at *
  clear x5 f5 C3 S3 K3 hsz3
  have c2 := Cl.cell A4.out 2
  have f2 := Cl.free A4.out 2
  simp only [agC, List.getElem?_cons_zero, List.getElem?_cons_succ] at c2
  have A5 : Hid (Ag (w4.setCell ⟨g, 2, none⟩ (.int .i64 (s.n + 1))) g { s with n := s.n + 1 }) := Cl.set A4.out 2 (.int .i64 (s.n + 1))
  have C5 : Hid (Cl (w4.setCell ⟨g, 2, none⟩ (.int .i64 (s.n + 1))) p [.int .i64 kind, .int .i64 part, .int .i64 off, .int .i64 max, .string ⟨group.toArray⟩, .slice a3 rl.length cap3] 31) := Cl.other C4.out _ _ hgp
  have K5 : Hid (Keeps (fun j => j = g) w4 (w4.setCell ⟨g, 2, none⟩ (.int .i64 (s.n + 1)))) := Keeps.setCell _ _ _ _ rfl
  obtain ⟨hn1, hn2⟩ := hnn
  go_upto_region 9 with (fail)
  generalize w4.setCell ⟨g, 2, none⟩ (.int .i64 (s.n + 1)) = w5 at *
  clear c2 f2 A4 C4
  have c9 := Cl.cell A5.out 9
  have f9 := Cl.free A5.out 9
  have c10 := Cl.cell A5.out 10
  have f10 := Cl.free A5.out 10
  have c11 := Cl.cell A5.out 11
  have f11 := Cl.free A5.out 11
  have c12 := Cl.cell A5.out 12
  have f12 := Cl.free A5.out 12
  have c13 := Cl.cell A5.out 13
  have f13 := Cl.free A5.out 13
  have c14 := Cl.cell A5.out 14
  have f14 := Cl.free A5.out 14
  have c15 := Cl.cell A5.out 15
  have f15 := Cl.free A5.out 15
  have c16 := Cl.cell A5.out 16
  have f16 := Cl.free A5.out 16
  have x0 := C5.out.cell 0
  have x1 := C5.out.cell 1
  have x2 := C5.out.cell 2
  have x3 := C5.out.cell 3
  have x4 := C5.out.cell 4
  have x5 := C5.out.cell 5
  simp only [agC, List.getElem?_cons_zero, List.getElem?_cons_succ] at c9 c10 c11 c12 c13 c14 c15 c16 x0 x1 x2 x3 x4 x5
  go_wp2
  go_region
  obtain ⟨w6, hw6, A6, C6, K6⟩ : ∃ w6, ((((((((w5.setCell ⟨g, 9, none⟩ (.bool true)).setCell ⟨g, 10, none⟩ (.int .i64 0)).setCell ⟨g, 11, none⟩ (.int .i64 kind)).setCell ⟨g, 12, none⟩ (.int .i64 part)).setCell ⟨g, 13, none⟩ (.int .i64 off)).setCell ⟨g, 14, none⟩ (.int .i64 max)).setCell ⟨g, 15, none⟩ (.string ⟨group.toArray⟩)).setCell ⟨g, 16, none⟩ (.slice a3 rl.length cap3)).drew = w6 ∧ Hid (Ag w6 g { s with n := s.n + 1, busy := true, ticks := 0, call := ⟨kind, part, off, max, group, .slice a3 rl.length cap3⟩ }) ∧ Hid (Cl w6 p [.int .i64 kind, .int .i64 part, .int .i64 off, .int .i64 max, .string ⟨group.toArray⟩, .slice a3 rl.length cap3] 31) ∧ Hid (Keeps (fun j => j = g) w5 w6) :=
    ⟨_, rfl, Cl.drewN (Cl.set (Cl.set (Cl.set (Cl.set (Cl.set (Cl.set (Cl.set (Cl.set A5.out 9 (.bool true)) 10 (.int .i64 0)) 11 (.int .i64 kind)) 12 (.int .i64 part)) 13 (.int .i64 off)) 14 (.int .i64 max)) 15 (.string ⟨group.toArray⟩)) 16 (.slice a3 rl.length cap3)) 1, Cl.drewN (Cl.other (Cl.other (Cl.other (Cl.other (Cl.other (Cl.other (Cl.other (Cl.other C5.out ⟨g, 9, none⟩ (.bool true) hgp) ⟨g, 10, none⟩ (.int .i64 0) hgp) ⟨g, 11, none⟩ (.int .i64 kind) hgp) ⟨g, 12, none⟩ (.int .i64 part) hgp) ⟨g, 13, none⟩ (.int .i64 off) hgp) ⟨g, 14, none⟩ (.int .i64 max) hgp) ⟨g, 15, none⟩ (.string ⟨group.toArray⟩) hgp) ⟨g, 16, none⟩ (.slice a3 rl.length cap3) hgp) 1, (((((((((Keeps.refl (fun j => j = g) w5).trans (Keeps.setCell (fun j => j = g) w5 ⟨g, 9, none⟩ (.bool true) rfl)).trans (Keeps.setCell (fun j => j = g) (w5.setCell ⟨g, 9, none⟩ (.bool true)) ⟨g, 10, none⟩ (.int .i64 0) rfl)).trans (Keeps.setCell (fun j => j = g) ((w5.setCell ⟨g, 9, none⟩ (.bool true)).setCell ⟨g, 10, none⟩ (.int .i64 0)) ⟨g, 11, none⟩ (.int .i64 kind) rfl)).trans (Keeps.setCell (fun j => j = g) (((w5.setCell ⟨g, 9, none⟩ (.bool true)).setCell ⟨g, 10, none⟩ (.int .i64 0)).setCell ⟨g, 11, none⟩ (.int .i64 kind)) ⟨g, 12, none⟩ (.int .i64 part) rfl)).trans (Keeps.setCell (fun j => j = g) ((((w5.setCell ⟨g, 9, none⟩ (.bool true)).setCell ⟨g, 10, none⟩ (.int .i64 0)).setCell ⟨g, 11, none⟩ (.int .i64 kind)).setCell ⟨g, 12, none⟩ (.int .i64 part)) ⟨g, 13, none⟩ (.int .i64 off) rfl)).trans (Keeps.setCell (fun j => j = g) (((((w5.setCell ⟨g, 9, none⟩ (.bool true)).setCell ⟨g, 10, none⟩ (.int .i64 0)).setCell ⟨g, 11, none⟩ (.int .i64 kind)).setCell ⟨g, 12, none⟩ (.int .i64 part)).setCell ⟨g, 13, none⟩ (.int .i64 off)) ⟨g, 14, none⟩ (.int .i64 max) rfl)).trans (Keeps.setCell (fun j => j = g) ((((((w5.setCell ⟨g, 9, none⟩ (.bool true)).setCell ⟨g, 10, none⟩ (.int .i64 0)).setCell ⟨g, 11, none⟩ (.int .i64 kind)).setCell ⟨g, 12, none⟩ (.int .i64 part)).setCell ⟨g, 13, none⟩ (.int .i64 off)).setCell ⟨g, 14, none⟩ (.int .i64 max)) ⟨g, 15, none⟩ (.string ⟨group.toArray⟩) rfl)).trans (Keeps.setCell (fun j => j = g) (((((((w5.setCell ⟨g, 9, none⟩ (.bool true)).setCell ⟨g, 10, none⟩ (.int .i64 0)).setCell ⟨g, 11, none⟩ (.int .i64 kind)).setCell ⟨g, 12, none⟩ (.int .i64 part)).setCell ⟨g, 13, none⟩ (.int .i64 off)).setCell ⟨g, 14, none⟩ (.int .i64 max)).setCell ⟨g, 15, none⟩ (.string ⟨group.toArray⟩)) ⟨g, 16, none⟩ (.slice a3 rl.length cap3) rfl)).trans (Keeps.drew _ _)⟩
  first | rw [hw6] | skip
  clear hw6 A5 C5 c9 f9 c10 f10 c11 f11 c12 f12 c13 f13 c14 f14 c15 f15 c16 f16 x0 x1 x2 x3 x4 x5
  have K46 : Hid (Keeps (fun j => j = g) w4 w6) := K5.out.trans K6.out
  have KW : Hid (Keeps (fun j => j = g) w w6) := K4.out.trans K46.out
  have R6 : Hid (Recs w6 (.slice a3 rl.length cap3) rl) := R4.out.1.keepT K46.out (fun j hj e => (R4.out.2 j hj).1 e)
  have M6 := Lib.hid (HI.out.M.kept KW.out HI.out.gg)
  have HQW := Lib.hid (HQQ.out w6 a3 rl.length cap3 R6.out KW.out A6.out M6.out (fun j hj => Nat.lt_of_lt_of_le (R4.out.2 j hj).2.2.1 K46.out.size))
  unfold callV callC at HQW
  have x0 := C6.out.cell 0
  have x1 := C6.out.cell 1
  have x2 := C6.out.cell 2
  have x3 := C6.out.cell 3
  have x4 := C6.out.cell 4
  have x5 := C6.out.cell 5
  simp only [List.getElem?_cons_zero, List.getElem?_cons_succ] at x0 x1 x2 x3 x4 x5
  go_wp2_with fail
  refine HQW.out.mono ?_
  rintro e w7 ⟨rq, rfl, hRq, hkq, hra, hb7⟩
  obtain ⟨rlq, hrq1, hrq2, hrq3⟩ := id hra
  obtain ⟨aq, capq, hrqf⟩ := hrq1.form
  obtain ⟨q0, q1, q2, q3, q4, q5, q6, q7, q8, q9, q10⟩ := rq
  dsimp only at hrqf hkq
  subst hrqf
  have HRQ := Lib.hid hRq
  have HKQ := Lib.hid hkq
  have HRA := Lib.hid hra
  have A7 : Hid (Ag w7 g { s with n := s.n + 1, busy := true, ticks := 0, call := ⟨kind, part, off, max, group, .slice a3 rl.length cap3⟩ }) := Cl.below A6.out hb7
  have K67 : Hid (Keeps (fun j => j = g) w6 w7) := Keeps.below _ hb7
  unfold reqV reqC
  clear hRq hkq hra hrq1 hrq3 hb7 HQW HQQ C6 A6 x0 x1 x2 x3 x4 x5
  have c17 := Cl.cell A7.out 17
  have f17 := Cl.free A7.out 17
  have c18 := Cl.cell A7.out 18
  have f18 := Cl.free A7.out 18
  have c19 := Cl.cell A7.out 19
  have f19 := Cl.free A7.out 19
  have c20 := Cl.cell A7.out 20
  have f20 := Cl.free A7.out 20
  have c21 := Cl.cell A7.out 21
  have f21 := Cl.free A7.out 21
  have c22 := Cl.cell A7.out 22
  have f22 := Cl.free A7.out 22
  have c23 := Cl.cell A7.out 23
  have f23 := Cl.free A7.out 23
  have c24 := Cl.cell A7.out 24
  have f24 := Cl.free A7.out 24
  have c25 := Cl.cell A7.out 25
  have f25 := Cl.free A7.out 25
  have c26 := Cl.cell A7.out 26
  have f26 := Cl.free A7.out 26
  have c27 := Cl.cell A7.out 27
  have f27 := Cl.free A7.out 27
  simp only [agC, List.getElem?_cons_zero, List.getElem?_cons_succ] at c17 c18 c19 c20 c21 c22 c23 c24 c25 c26 c27
  obtain ⟨w8, hw8, A8, K8⟩ : ∃ w8, (((((((((((w7.setCell ⟨g, 17, none⟩ (.int .i64 q0)).setCell ⟨g, 18, none⟩ (.int .i64 q1)).setCell ⟨g, 19, none⟩ (.int .i64 q2)).setCell ⟨g, 20, none⟩ (.int .i64 q3)).setCell ⟨g, 21, none⟩ (.int .i64 q4)).setCell ⟨g, 22, none⟩ (.int .i64 q5)).setCell ⟨g, 23, none⟩ (.int .i64 q6)).setCell ⟨g, 24, none⟩ (.int .i64 q7)).setCell ⟨g, 25, none⟩ (.string ⟨q8.toArray⟩)).setCell ⟨g, 26, none⟩ (.string ⟨q9.toArray⟩)).setCell ⟨g, 27, none⟩ (.slice aq rlq.length capq)) = w8 ∧ Hid (Ag w8 g { s with n := s.n + 1, busy := true, ticks := 0, call := ⟨kind, part, off, max, group, .slice a3 rl.length cap3⟩, req := ⟨q0, q1, q2, q3, q4, q5, q6, q7, q8, q9, .slice aq rlq.length capq⟩ }) ∧ Hid (Keeps (fun j => j = g) w7 w8) :=
    ⟨_, rfl, (Cl.set (Cl.set (Cl.set (Cl.set (Cl.set (Cl.set (Cl.set (Cl.set (Cl.set (Cl.set (Cl.set A7.out 17 (.int .i64 q0)) 18 (.int .i64 q1)) 19 (.int .i64 q2)) 20 (.int .i64 q3)) 21 (.int .i64 q4)) 22 (.int .i64 q5)) 23 (.int .i64 q6)) 24 (.int .i64 q7)) 25 (.string ⟨q8.toArray⟩)) 26 (.string ⟨q9.toArray⟩)) 27 (.slice aq rlq.length capq)), ((((((((((((Keeps.refl (fun j => j = g) w7).trans (Keeps.setCell (fun j => j = g) w7 ⟨g, 17, none⟩ (.int .i64 q0) rfl)).trans (Keeps.setCell (fun j => j = g) (w7.setCell ⟨g, 17, none⟩ (.int .i64 q0)) ⟨g, 18, none⟩ (.int .i64 q1) rfl)).trans (Keeps.setCell (fun j => j = g) ((w7.setCell ⟨g, 17, none⟩ (.int .i64 q0)).setCell ⟨g, 18, none⟩ (.int .i64 q1)) ⟨g, 19, none⟩ (.int .i64 q2) rfl)).trans (Keeps.setCell (fun j => j = g) (((w7.setCell ⟨g, 17, none⟩ (.int .i64 q0)).setCell ⟨g, 18, none⟩ (.int .i64 q1)).setCell ⟨g, 19, none⟩ (.int .i64 q2)) ⟨g, 20, none⟩ (.int .i64 q3) rfl)).trans (Keeps.setCell (fun j => j = g) ((((w7.setCell ⟨g, 17, none⟩ (.int .i64 q0)).setCell ⟨g, 18, none⟩ (.int .i64 q1)).setCell ⟨g, 19, none⟩ (.int .i64 q2)).setCell ⟨g, 20, none⟩ (.int .i64 q3)) ⟨g, 21, none⟩ (.int .i64 q4) rfl)).trans (Keeps.setCell (fun j => j = g) (((((w7.setCell ⟨g, 17, none⟩ (.int .i64 q0)).setCell ⟨g, 18, none⟩ (.int .i64 q1)).setCell ⟨g, 19, none⟩ (.int .i64 q2)).setCell ⟨g, 20, none⟩ (.int .i64 q3)).setCell ⟨g, 21, none⟩ (.int .i64 q4)) ⟨g, 22, none⟩ (.int .i64 q5) rfl)).trans (Keeps.setCell (fun j => j = g) ((((((w7.setCell ⟨g, 17, none⟩ (.int .i64 q0)).setCell ⟨g, 18, none⟩ (.int .i64 q1)).setCell ⟨g, 19, none⟩ (.int .i64 q2)).setCell ⟨g, 20, none⟩ (.int .i64 q3)).setCell ⟨g, 21, none⟩ (.int .i64 q4)).setCell ⟨g, 22, none⟩ (.int .i64 q5)) ⟨g, 23, none⟩ (.int .i64 q6) rfl)).trans (Keeps.setCell (fun j => j = g) (((((((w7.setCell ⟨g, 17, none⟩ (.int .i64 q0)).setCell ⟨g, 18, none⟩ (.int .i64 q1)).setCell ⟨g, 19, none⟩ (.int .i64 q2)).setCell ⟨g, 20, none⟩ (.int .i64 q3)).setCell ⟨g, 21, none⟩ (.int .i64 q4)).setCell ⟨g, 22, none⟩ (.int .i64 q5)).setCell ⟨g, 23, none⟩ (.int .i64 q6)) ⟨g, 24, none⟩ (.int .i64 q7) rfl)).trans (Keeps.setCell (fun j => j = g) ((((((((w7.setCell ⟨g, 17, none⟩ (.int .i64 q0)).setCell ⟨g, 18, none⟩ (.int .i64 q1)).setCell ⟨g, 19, none⟩ (.int .i64 q2)).setCell ⟨g, 20, none⟩ (.int .i64 q3)).setCell ⟨g, 21, none⟩ (.int .i64 q4)).setCell ⟨g, 22, none⟩ (.int .i64 q5)).setCell ⟨g, 23, none⟩ (.int .i64 q6)).setCell ⟨g, 24, none⟩ (.int .i64 q7)) ⟨g, 25, none⟩ (.string ⟨q8.toArray⟩) rfl)).trans (Keeps.setCell (fun j => j = g) (((((((((w7.setCell ⟨g, 17, none⟩ (.int .i64 q0)).setCell ⟨g, 18, none⟩ (.int .i64 q1)).setCell ⟨g, 19, none⟩ (.int .i64 q2)).setCell ⟨g, 20, none⟩ (.int .i64 q3)).setCell ⟨g, 21, none⟩ (.int .i64 q4)).setCell ⟨g, 22, none⟩ (.int .i64 q5)).setCell ⟨g, 23, none⟩ (.int .i64 q6)).setCell ⟨g, 24, none⟩ (.int .i64 q7)).setCell ⟨g, 25, none⟩ (.string ⟨q8.toArray⟩)) ⟨g, 26, none⟩ (.string ⟨q9.toArray⟩) rfl)).trans (Keeps.setCell (fun j => j = g) ((((((((((w7.setCell ⟨g, 17, none⟩ (.int .i64 q0)).setCell ⟨g, 18, none⟩ (.int .i64 q1)).setCell ⟨g, 19, none⟩ (.int .i64 q2)).setCell ⟨g, 20, none⟩ (.int .i64 q3)).setCell ⟨g, 21, none⟩ (.int .i64 q4)).setCell ⟨g, 22, none⟩ (.int .i64 q5)).setCell ⟨g, 23, none⟩ (.int .i64 q6)).setCell ⟨g, 24, none⟩ (.int .i64 q7)).setCell ⟨g, 25, none⟩ (.string ⟨q8.toArray⟩)).setCell ⟨g, 26, none⟩ (.string ⟨q9.toArray⟩)) ⟨g, 27, none⟩ (.slice aq rlq.length capq) rfl))⟩
  go_upto_region 11 with (fail)
  first | rw [hw8] | skip
  clear hw8 A7 c17 f17 c18 f18 c19 f19 c20 f20 c21 f21 c22 f22 c23 f23 c24 f24 c25 f25 c26 f26 c27 f27
  have RA8 := Lib.hid (HRA.out.keep K8.out)
  obtain ⟨rl8, h81, h82, h83⟩ := RA8.out
  have HS := Lib.hid (send_any g { s with n := s.n + 1, busy := true, ticks := 0, call := ⟨kind, part, off, max, group, .slice a3 rl.length cap3⟩, req := ⟨q0, q1, q2, q3, q4, q5, q6, q7, q8, q9, .slice aq rlq.length capq⟩ } rl8 h82 w8 A8.out HO.out h81 HKQ.out HI.out.cl)
  clear h81 h82 h83
  go_wp2_with fail
  refine HS.out.mono ?_
  rintro e w9 ⟨v9, rv9, rfl, hA9, hO9, hK9⟩
  have K69 : Hid (Keeps (fun j => j = g) w6 w9) := (K67.out.trans K8.out).trans hK9
  have HP : Hid (CallPost w g s gl ⟨kind, part, off, max, group, .slice a rl.length cap⟩ R (.returned (.int .i64 0)) w9) := by
    have hsz : w.heap.size ≤ w8.heap.size := Nat.le_trans KW.out.size (K67.out.trans K8.out).size
    refine ⟨.slice a3 rl.length cap3, _, v9, rv9, rfl, ?_, HRQ.out, ?_, KW.out.trans K69.out, fun j hj => ⟨(R4.out.2 j hj).2.2.2, Nat.lt_of_lt_of_le (R4.out.2 j hj).2.2.1 (K46.out.trans K69.out).size⟩⟩
    · exact { a := hA9, rr := RA8.out.keep hK9, cr := ⟨rl, R6.out.keepT K69.out (fun j hj e => (R4.out.2 j hj).1 e), hrl, fun j hj => ⟨(R4.out.2 j hj).1, (R4.out.2 j hj).2.1⟩⟩, M := M6.out.kept K69.out HI.out.gg, gg := HI.out.gg, cl := HI.out.cl, nd := HI.out.nd, cu := HI.out.cu, kd := HKQ.out, nn := ⟨by dsimp only; omega, by dsimp only; omega⟩, sq := HI.out.sq, tk := ⟨by simp, by simp⟩ }
    · exact Sl.lowerA hO9 hsz
  go_wp2
  go_ret
  exact HP.out

end Go.Proofs.YtkjbhkillkbcgaaDoor
