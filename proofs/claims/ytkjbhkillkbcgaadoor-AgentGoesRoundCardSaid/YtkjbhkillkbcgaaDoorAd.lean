/-
  Agent: the request that a call becomes, kind by kind (printed by wip/gen/mkag.py).
  Conditions: none.
-/
import Derived.Test.YtkjbhkillkbcgaaDoorAc
set_option linter.unusedVariables false
set_option linter.unusedSimpArgs false
namespace Go.Proofs.YtkjbhkillkbcgaaDoor
open Go.RowKit

set_option maxRecDepth 20000 in
set_option maxHeartbeats 3200000 in
theorem request_fetch (g : Nat) (s : AgS) (x : CallS) (a : Option Addr) (l cap : Nat) (hx : x.recs = .slice a l cap) (w : World) (h : Ag w g s) (hk : x.kind = 2) (hc : 1 ≤ s.client ∧ s.client ≤ 4) :
    Calls Tryd.prog 15 #[.pointer (some ⟨g, 0, none⟩), callV x] w fun e w' => e = .returned (reqV ⟨s.client, s.n, 2, x.part, 0, x.off, x.max, 0, [], [], .slice none 0 0⟩) ∧ Below w.heap.size w w' := by
  obtain ⟨kind, part, off, max, group, recs⟩ := x
  dsimp only at hk hx
  subst hk hx
  have H := Lib.hid h
  have HC := Lib.hid hc
  have hlt := Cl.lt h
  have hm := mem_dig s.client
  clear h hc
  unfold callV callC
  go_enter Tryd.func15, Tryd.ntmps15
  obtain ⟨w1, hw1, C1, Z1, A1, B1, hsz⟩ := rq_start H.out 2 part off max group a l cap
  go_upto_region 1 with (fail)
  clear hw1 H
  generalize hp : w.heap.size = p at C1 Z1 hsz ⊢
  have HLE := Lib.hid (Nat.le_of_eq hp)
  clear hp
  have c0 := Cl.cell A1.out 0
  have c2 := Cl.cell A1.out 2
  have x0 := C1.out.cell 0
  simp only [agC, List.getElem?_cons_zero, List.getElem?_cons_succ] at c0 c2 x0
  have c0A : (w1.alloc (.cells (reqC zeroReq).toArray 43)).cell? ⟨g, 0, none⟩ = some (.int .i64 s.client) := Cl.cell (Cl.alloc A1.out _) 0
  have c2A : (w1.alloc (.cells (reqC zeroReq).toArray 43)).cell? ⟨g, 2, none⟩ = some (.int .i64 s.n) := Cl.cell (Cl.alloc A1.out _) 2
  have x0A : (w1.alloc (.cells (reqC zeroReq).toArray 43)).cell? ⟨p, 0, none⟩ = some (.int .i64 2) := (C1.out.alloc _).cell 0
  simp only [reqC] at c0A c2A x0A
  go_region
  obtain ⟨w2, hw2, C2, Z2, Q2, A2, B2⟩ := rq_mid C1 Z1 A1 B1 hsz 2
  rw [hw2]
  clear hw2 C1 Z1 A1 c0 c2 x0 c0A c2A x0A
  have B3 := Lib.hid (bt B1.out B2.out)
  have HS2 := Lib.hid B2.out.size
  clear B1 B2
  have x0 := C2.out.cell 0
  have c0 := Cl.cell A2.out 0
  simp only [agC, List.getElem?_cons_zero, List.getElem?_cons_succ] at c0 x0
  go_wp2_with fail
  refine (itoa_dig s.client HC.out w2).mono ?_
  rintro e w9 ⟨rfl, rfl⟩
  have hB0 : w.heap.size ≤ (⟨p + 2, 0, none⟩ : Addr).block := by have := HLE.out; simp only; omega
  have x0 := C2.out.cell 0
  have x1 := C2.out.cell 1
  have x2 := C2.out.cell 2
  have x3 := C2.out.cell 3
  have c0 := Cl.cell A2.out 0
  simp only [agC, List.getElem?_cons_zero, List.getElem?_cons_succ] at x0 x1 x2 x3 c0
  have f3 := Q2.out.free 3
  have q3 := Q2.out.cell 3
  have f5 := Q2.out.free 5
  have q5 := Q2.out.cell 5
  have f6 := Q2.out.free 6
  have q6 := Q2.out.cell 6
  simp only [List.getElem?_cons_zero, List.getElem?_cons_succ] at q3 q5 q6
  go_wp2
  go_region
  obtain ⟨w3, hw3, Z3, Q3, B4⟩ : ∃ w3, (((w2.setCell ⟨p + 2, 3, none⟩ (.int .i64 part)).setCell ⟨p + 2, 5, none⟩ (.int .i64 off)).setCell ⟨p + 2, 6, none⟩ (.int .i64 max)).drew = w3 ∧ Hid (Cl w3 (p + 1) (reqC zeroReq) 43) ∧ Hid (Cl w3 (p + 2) [.int .i64 s.client, .int .i64 s.n, .int .i64 2, .int .i64 part, .int .i64 0, .int .i64 off, .int .i64 max, .int .i64 0, .string ⟨#[]⟩, .string ⟨#[]⟩, .slice none 0 0] 43) ∧ Hid (Below w.heap.size w w3) :=
    ⟨_, rfl, Cl.drewN (Cl.other (Cl.other (Cl.other Z2.out ⟨p + 2, 3, none⟩ (.int .i64 part) (by simp)) ⟨p + 2, 5, none⟩ (.int .i64 off) (by simp)) ⟨p + 2, 6, none⟩ (.int .i64 max) (by simp)) 1, Cl.drewN (((Q2.out.set 3 (.int .i64 part)).set 5 (.int .i64 off)).set 6 (.int .i64 max)) 1, below_drewN (B3.out
      |>.setCell (p := ⟨p + 2, 3, none⟩) hB0 (.int .i64 part)
      |>.setCell (p := ⟨p + 2, 5, none⟩) hB0 (.int .i64 off)
      |>.setCell (p := ⟨p + 2, 6, none⟩) hB0 (.int .i64 max)
      ) 1⟩
  rw [hw3]
  clear hw3 B3 f3 q3 f5 q5 f6 q6 x0 x1 x2 x3 c0 C2 Q2 A2 Z2
  have q0 := Q3.out.cell 0
  have q1 := Q3.out.cell 1
  have q2 := Q3.out.cell 2
  have q3 := Q3.out.cell 3
  have q4 := Q3.out.cell 4
  have q5 := Q3.out.cell 5
  have q6 := Q3.out.cell 6
  have q7 := Q3.out.cell 7
  have q8 := Q3.out.cell 8
  have q9 := Q3.out.cell 9
  have q10 := Q3.out.cell 10
  have z0 := Z3.out.cell 0
  have z1 := Z3.out.cell 1
  have z2 := Z3.out.cell 2
  have z3 := Z3.out.cell 3
  have z4 := Z3.out.cell 4
  have z5 := Z3.out.cell 5
  have z6 := Z3.out.cell 6
  have z7 := Z3.out.cell 7
  have z8 := Z3.out.cell 8
  have z9 := Z3.out.cell 9
  have z10 := Z3.out.cell 10
  simp only [reqC, List.getElem?_cons_zero, List.getElem?_cons_succ] at q0 z0 q1 z1 q2 z2 q3 z3 q4 z4 q5 z5 q6 z6 q7 z7 q8 z8 q9 z9 q10 z10
  have f0 := Z3.out.free 0
  have f1 := Z3.out.free 1
  have f2 := Z3.out.free 2
  have f3 := Z3.out.free 3
  have f4 := Z3.out.free 4
  have f5 := Z3.out.free 5
  have f6 := Z3.out.free 6
  have f7 := Z3.out.free 7
  have f8 := Z3.out.free 8
  have f9 := Z3.out.free 9
  have f10 := Z3.out.free 10
  obtain ⟨w4, hw4, Z4, B5⟩ : ∃ w4, (((((((((((w3.setCell ⟨p + 1, 0, none⟩ (.int .i64 s.client)).setCell ⟨p + 1, 1, none⟩ (.int .i64 s.n)).setCell ⟨p + 1, 2, none⟩ (.int .i64 2)).setCell ⟨p + 1, 3, none⟩ (.int .i64 part)).setCell ⟨p + 1, 4, none⟩ (.int .i64 0)).setCell ⟨p + 1, 5, none⟩ (.int .i64 off)).setCell ⟨p + 1, 6, none⟩ (.int .i64 max)).setCell ⟨p + 1, 7, none⟩ (.int .i64 0)).setCell ⟨p + 1, 8, none⟩ (.string ⟨#[]⟩)).setCell ⟨p + 1, 9, none⟩ (.string ⟨#[]⟩)).setCell ⟨p + 1, 10, none⟩ (.slice none 0 0)) = w4 ∧ Hid (Cl w4 (p + 1) [.int .i64 s.client, .int .i64 s.n, .int .i64 2, .int .i64 part, .int .i64 0, .int .i64 off, .int .i64 max, .int .i64 0, .string ⟨#[]⟩, .string ⟨#[]⟩, .slice none 0 0] 43) ∧ Hid (Below w.heap.size w w4) := by
    have hB1 : w.heap.size ≤ (⟨p + 1, 0, none⟩ : Addr).block := by have := HLE.out; simp only; omega
    exact ⟨_, rfl, Z3.out |>.set 0 (.int .i64 s.client) |>.set 1 (.int .i64 s.n) |>.set 2 (.int .i64 2) |>.set 3 (.int .i64 part) |>.set 4 (.int .i64 0) |>.set 5 (.int .i64 off) |>.set 6 (.int .i64 max) |>.set 7 (.int .i64 0) |>.set 8 (.string ⟨#[]⟩) |>.set 9 (.string ⟨#[]⟩) |>.set 10 (.slice none 0 0), B4.out |>.setCell (p := ⟨p + 1, 0, none⟩) hB1 (.int .i64 s.client) |>.setCell (p := ⟨p + 1, 1, none⟩) hB1 (.int .i64 s.n) |>.setCell (p := ⟨p + 1, 2, none⟩) hB1 (.int .i64 2) |>.setCell (p := ⟨p + 1, 3, none⟩) hB1 (.int .i64 part) |>.setCell (p := ⟨p + 1, 4, none⟩) hB1 (.int .i64 0) |>.setCell (p := ⟨p + 1, 5, none⟩) hB1 (.int .i64 off) |>.setCell (p := ⟨p + 1, 6, none⟩) hB1 (.int .i64 max) |>.setCell (p := ⟨p + 1, 7, none⟩) hB1 (.int .i64 0) |>.setCell (p := ⟨p + 1, 8, none⟩) hB1 (.string ⟨#[]⟩) |>.setCell (p := ⟨p + 1, 9, none⟩) hB1 (.string ⟨#[]⟩) |>.setCell (p := ⟨p + 1, 10, none⟩) hB1 (.slice none 0 0)⟩
  go_wp2
  first | rw [hw4] | skip
  refine bodyPost_ret (results_cl rfl _ _ _ _ _ _ rfl Z4.out Tryd.underlying43 rfl (by kernel_rfl)) rfl ?_
  exact ⟨rfl, B5.out⟩

end Go.Proofs.YtkjbhkillkbcgaaDoor
