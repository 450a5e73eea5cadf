/-
  Agent: the request that a call becomes, for records.
  Conditions: none.
-/
import Derived.Test.YtkjbhkillkbcgaaDoorAh
import Derived.Deep.DeepCutAuto
import Derived.Deep.RegionLaw
import Derived.Deep.CutBlock
set_option linter.unusedVariables false
set_option linter.unusedSimpArgs false
namespace Go.Proofs.YtkjbhkillkbcgaaDoor
open Go.RowKit

set_option maxRecDepth 20000 in
set_option maxHeartbeats 3200000 in
theorem request_prod (g : Nat) (s : AgS) (x : CallS) (a : Option Addr) (l cap : Nat) (hx : x.recs = .slice a l cap) (rl : List Cr.Rec) (hrl : rl.length ≤ 1000000) (w : World) (h : Ag w g s) (hk : x.kind = 1) (hpt : x.part = 1) (hR : Recs w x.recs rl) (hal : ∀ j, x.recs.ownBlock = some j → j < w.heap.size) (hc : 1 ≤ s.client ∧ s.client ≤ 4) :
    Calls Tryd.prog 15 #[.pointer (some ⟨g, 0, none⟩), callV x] w fun e w' => ∃ rv, e = .returned (reqV ⟨s.client, s.n, 1, 1, s.s1, 0, 0, 0, [], [], rv⟩) ∧ Recs w' rv rl ∧ (∀ j, rv.ownBlock = some j → w.heap.size ≤ j) ∧ Below w.heap.size w w' := by
  obtain ⟨kind, part, off, max, group, recs⟩ := x
  dsimp only at hk hx hpt hR hal
  subst hk hx hpt
  have H := Lib.hid h
  have HRR := Lib.hid hR
  clear hR
  have HC := Lib.hid hc
  have hlt := Cl.lt h
  have hm := mem_dig s.client
  clear h hc
  unfold callV callC
  go_enter Tryd.func15, Tryd.ntmps15
  obtain ⟨w1, hw1, C1, Z1, A1, B1, hsz⟩ := rq_start H.out 1 1 off max group a l cap
  go_upto_region 1 with (fail)
  clear hw1 H
  generalize hp : w.heap.size = p at C1 Z1 hsz ⊢
  have HLE := Lib.hid (Nat.le_of_eq hp)
  clear hp
  have c0 := Cl.cell A1.out 0
  have c2 := Cl.cell A1.out 2
  have x0 := C1.out.cell 0
  simp only [agC, List.getElem?_cons_zero, List.getElem?_cons_succ] at c0 c2 x0
  have c0A : (w1.alloc (.cells (reqC zeroReq).toArray 43)).cell? ⟨g, 0, none⟩ = some (.int .i64 s.client) := Cl.cell (Cl.alloc A1.out _) 0
  have c2A : (w1.alloc (.cells (reqC zeroReq).toArray 43)).cell? ⟨g, 2, none⟩ = some (.int .i64 s.n) := Cl.cell (Cl.alloc A1.out _) 2
  have x0A : (w1.alloc (.cells (reqC zeroReq).toArray 43)).cell? ⟨p, 0, none⟩ = some (.int .i64 1) := (C1.out.alloc _).cell 0
  simp only [reqC] at c0A c2A x0A
  go_region
  obtain ⟨w2, hw2, C2, Z2, Q2, A2, B2⟩ := rq_mid C1 Z1 A1 B1 hsz 1
  rw [hw2]
  clear hw2 C1 Z1 A1 c0 c2 x0 c0A c2A x0A
  have B3 := Lib.hid (bt B1.out B2.out)
  have HS2 := Lib.hid B2.out.size
  clear B1 B2
  have x0 := C2.out.cell 0
  have c0 := Cl.cell A2.out 0
  simp only [agC, List.getElem?_cons_zero, List.getElem?_cons_succ] at c0 x0
  go_wp2_with fail
  refine (itoa_dig s.client HC.out w2).mono ?_
  rintro e w9 ⟨rfl, rfl⟩
  go_upto_block 0 with (fail)
  have R2 := Lib.hid (HRR.out.kept B3.out)
  have HGQ : g ≠ p + 2 := by have := HLE.out; omega
  have HWR : Hid (∀ W, Keeps (fun j => j = p + 2) w2 W → Recs W (.slice a l cap) rl) := fun W k => by
    exact R2.out.keepT k (fun j hj e => by have := hal j hj; have := HLE.out; omega)
  go_cut [] (fun wz => ∃ rv, Cl wz (p + 2) [.int .i64 s.client, .int .i64 s.n, .int .i64 1, .int .i64 1, .int .i64 s.s1, .int .i64 0, .int .i64 0, .int .i64 0, .string ⟨#[]⟩, .string ⟨#[]⟩, rv] 43 ∧ Keeps (fun j => j = p + 2) w2 wz ∧ Recs wz rv rl ∧ (∀ j, rv.ownBlock = some j → w2.heap.size ≤ j) ∧ ∃ av cv, rv = .slice av rl.length cv)
  case first =>
    have x1 := C2.out.cell 1
    have x5 := C2.out.cell 5
    have c5 := Cl.cell A2.out 5
    have f3 := Q2.out.free 3
    have f4 := Q2.out.free 4
    have f10 := Q2.out.free 10
    have q3 := Q2.out.cell 3
    have q4 := Q2.out.cell 4
    have q10 := Q2.out.cell 10
    have CD0 : Hid (Cl w2.drew (p + 2) [.int .i64 s.client, .int .i64 s.n, .int .i64 1, .int .i64 0, .int .i64 0, .int .i64 0, .int .i64 0, .int .i64 0, .string ⟨#[]⟩, .string ⟨#[]⟩, .slice none 0 0] 43) := Q2.out
    have CS0 : Hid (Cl ((w2.setCell ⟨p + 2, 3, none⟩ (.int .i64 1)).setCell ⟨p + 2, 4, none⟩ (.int .i64 s.s1)).drew (p + 2) [.int .i64 s.client, .int .i64 s.n, .int .i64 1, .int .i64 1, .int .i64 s.s1, .int .i64 0, .int .i64 0, .int .i64 0, .string ⟨#[]⟩, .string ⟨#[]⟩, .slice none 0 0] 43) := Cl.drewN (Cl.set (Cl.set Q2.out 3 (.int .i64 1)) 4 (.int .i64 s.s1)) 1
    have x1d : w2.drew.cell? ⟨p, 1, none⟩ = _ := x1
    have x5d : w2.drew.cell? ⟨p, 5, none⟩ = _ := x5
    have c5d : w2.drew.cell? ⟨g, 5, none⟩ = _ := c5
    have q3d : w2.drew.cell? ⟨p + 2, 3, none⟩ = _ := q3
    have q4d : w2.drew.cell? ⟨p + 2, 4, none⟩ = _ := q4
    have q10d : w2.drew.cell? ⟨p + 2, 10, none⟩ = _ := q10
    simp only [agC, List.getElem?_cons_zero, List.getElem?_cons_succ] at x1 x5 c5 q3 q4 q10 x1d x5d c5d q3d q4d q10d
    go_wp2
    go_region_law (first
      | (go_simp; go_at_call 14; refine (clonerecs_any rl hrl _ _ (HWR.out _ (by first | exact Keeps.drew _ _ | exact ((Keeps.setCell (fun j => j = p + 2) _ ⟨p + 2, 3, none⟩ _ rfl).trans (Keeps.setCell (fun j => j = p + 2) _ ⟨p + 2, 4, none⟩ _ rfl)).trans (Keeps.drew _ _) | exact (Keeps.setCell (fun j => j = p + 2) _ ⟨p + 2, 3, none⟩ _ rfl).trans (Keeps.drew _ _)))).mono ?_; rintro e w8 ⟨v8, rfl, hs8, hb8⟩; obtain ⟨a8, c8, hv8, _⟩ := hs8.form; subst hv8; have S8 := Lib.hid hs8; have KB : Hid (Keeps (fun j => j = p + 2) w2 w8) := (show Keeps (fun j => j = p + 2) w2 _ from (by first | exact Keeps.drew _ _ | exact ((Keeps.setCell (fun j => j = p + 2) _ ⟨p + 2, 3, none⟩ _ rfl).trans (Keeps.setCell (fun j => j = p + 2) _ ⟨p + 2, 4, none⟩ _ rfl)).trans (Keeps.drew _ _) | exact (Keeps.setCell (fun j => j = p + 2) _ ⟨p + 2, 3, none⟩ _ rfl).trans (Keeps.drew _ _))).trans (Keeps.below _ hb8); have hz8 := Nat.le_trans (show w2.heap.size ≤ _ from ((by first | exact Keeps.drew _ _ | exact ((Keeps.setCell (fun j => j = p + 2) _ ⟨p + 2, 3, none⟩ _ rfl).trans (Keeps.setCell (fun j => j = p + 2) _ ⟨p + 2, 4, none⟩ _ rfl)).trans (Keeps.drew _ _) | exact (Keeps.setCell (fun j => j = p + 2) _ ⟨p + 2, 3, none⟩ _ rfl).trans (Keeps.drew _ _)) : Keeps (fun j => j = p + 2) w2 _).size) (Nat.le_refl _); (first | have CQ8 := Lib.hid (Cl.below CD0.out hb8) | have CQ8 := Lib.hid (Cl.below CS0.out hb8)); have g3 := CQ8.out.free 3; have g4 := CQ8.out.free 4; have g10 := CQ8.out.free 10; have k3 := CQ8.out.cell 3; have k4 := CQ8.out.cell 4; have k10 := CQ8.out.cell 10; simp only [List.getElem?_cons_zero, List.getElem?_cons_succ] at k3 k4 k10; have x18 := (KB.out.cell (a := ⟨p, 1, none⟩) C2.out.lt (by simp)).trans x1; have x58 := (KB.out.cell (a := ⟨p, 5, none⟩) C2.out.lt (by simp)).trans x5; have c58 := (KB.out.cell (a := ⟨g, 5, none⟩) (Cl.lt A2.out) HGQ).trans c5; clear hs8 hb8))
    all_goals
      go_wp2
      go_meet
      case rel =>
        have hlo := S8.out.lt
        have hql := Q2.out.lt
        have CF := Cl.set (Cl.set (Cl.set CQ8.out 3 (.int .i64 1)) 4 (.int .i64 s.s1)) 10 (.slice a8 rl.length c8)
        have KF := (Keeps.setCell (fun j => j = p + 2) w8 ⟨p + 2, 3, none⟩ (.int .i64 1) rfl).trans ((Keeps.setCell (fun j => j = p + 2) _ ⟨p + 2, 4, none⟩ (.int .i64 s.s1) rfl).trans (Keeps.setCell (fun j => j = p + 2) _ ⟨p + 2, 10, none⟩ (.slice a8 rl.length c8) rfl))
        exact ⟨_, CF, KB.out.trans KF, S8.out.recs.keepT KF (fun j hj e => by have h1 : w2.heap.size ≤ j := (hlo j hj).1; omega), fun j hj => (hlo j hj).1, _, _, rfl⟩
  case rest =>
    obtain ⟨rv, hC, hK, hRR, hOO, av, cv, rfl⟩ := hcut
    generalize wc = w3 at *
    have Q3 := Lib.hid hC
    have Z3 := Lib.hid (Cl.keep Z2.out hK (by simp))
    have B4 : Hid (Below w.heap.size w w3) := B3.out.trans (hK.toBelow B3.out.size (fun k hk e => by have := HLE.out; omega))
    have hql := Q2.out.lt
    have R3 := Lib.hid hRR
    have O3 := Lib.hid hOO
    clear hC hK hRR hOO Z2 Q2 C2 A2 R2 HWR
    have z0 := Z3.out.cell 0
    have f0 := Z3.out.free 0
    have q0 := Q3.out.cell 0
    have z1 := Z3.out.cell 1
    have f1 := Z3.out.free 1
    have q1 := Q3.out.cell 1
    have z2 := Z3.out.cell 2
    have f2 := Z3.out.free 2
    have q2 := Q3.out.cell 2
    have z3 := Z3.out.cell 3
    have f3 := Z3.out.free 3
    have q3 := Q3.out.cell 3
    have z4 := Z3.out.cell 4
    have f4 := Z3.out.free 4
    have q4 := Q3.out.cell 4
    have z5 := Z3.out.cell 5
    have f5 := Z3.out.free 5
    have q5 := Q3.out.cell 5
    have z6 := Z3.out.cell 6
    have f6 := Z3.out.free 6
    have q6 := Q3.out.cell 6
    have z7 := Z3.out.cell 7
    have f7 := Z3.out.free 7
    have q7 := Q3.out.cell 7
    have z8 := Z3.out.cell 8
    have f8 := Z3.out.free 8
    have q8 := Q3.out.cell 8
    have z9 := Z3.out.cell 9
    have f9 := Z3.out.free 9
    have q9 := Q3.out.cell 9
    have z10 := Z3.out.cell 10
    have f10 := Z3.out.free 10
    have q10 := Q3.out.cell 10
    simp only [reqC, List.getElem?_cons_zero, List.getElem?_cons_succ] at z0 q0 z1 q1 z2 q2 z3 q3 z4 q4 z5 q5 z6 q6 z7 q7 z8 q8 z9 q9 z10 q10
    obtain ⟨w4, hw4, Z4, K4⟩ : ∃ w4, (((((((((((w3.setCell ⟨p + 1, 0, none⟩ (.int .i64 s.client)).setCell ⟨p + 1, 1, none⟩ (.int .i64 s.n)).setCell ⟨p + 1, 2, none⟩ (.int .i64 1)).setCell ⟨p + 1, 3, none⟩ (.int .i64 1)).setCell ⟨p + 1, 4, none⟩ (.int .i64 s.s1)).setCell ⟨p + 1, 5, none⟩ (.int .i64 0)).setCell ⟨p + 1, 6, none⟩ (.int .i64 0)).setCell ⟨p + 1, 7, none⟩ (.int .i64 0)).setCell ⟨p + 1, 8, none⟩ (.string ⟨#[]⟩)).setCell ⟨p + 1, 9, none⟩ (.string ⟨#[]⟩)).setCell ⟨p + 1, 10, none⟩ (.slice av rl.length cv)) = w4 ∧ Hid (Cl w4 (p + 1) [.int .i64 s.client, .int .i64 s.n, .int .i64 1, .int .i64 1, .int .i64 s.s1, .int .i64 0, .int .i64 0, .int .i64 0, .string ⟨#[]⟩, .string ⟨#[]⟩, .slice av rl.length cv] 43) ∧ Hid (Keeps (fun j => j = p + 1) w3 w4) := ⟨_, rfl, (Cl.set (Cl.set (Cl.set (Cl.set (Cl.set (Cl.set (Cl.set (Cl.set (Cl.set (Cl.set (Cl.set Z3.out 0 (.int .i64 s.client)) 1 (.int .i64 s.n)) 2 (.int .i64 1)) 3 (.int .i64 1)) 4 (.int .i64 s.s1)) 5 (.int .i64 0)) 6 (.int .i64 0)) 7 (.int .i64 0)) 8 (.string ⟨#[]⟩)) 9 (.string ⟨#[]⟩)) 10 (.slice av rl.length cv)), ((((((((((((Keeps.refl (fun j => j = p + 1) w3).trans (Keeps.setCell (fun j => j = p + 1) w3 ⟨p + 1, 0, none⟩ (.int .i64 s.client) rfl)).trans (Keeps.setCell (fun j => j = p + 1) (w3.setCell ⟨p + 1, 0, none⟩ (.int .i64 s.client)) ⟨p + 1, 1, none⟩ (.int .i64 s.n) rfl)).trans (Keeps.setCell (fun j => j = p + 1) ((w3.setCell ⟨p + 1, 0, none⟩ (.int .i64 s.client)).setCell ⟨p + 1, 1, none⟩ (.int .i64 s.n)) ⟨p + 1, 2, none⟩ (.int .i64 1) rfl)).trans (Keeps.setCell (fun j => j = p + 1) (((w3.setCell ⟨p + 1, 0, none⟩ (.int .i64 s.client)).setCell ⟨p + 1, 1, none⟩ (.int .i64 s.n)).setCell ⟨p + 1, 2, none⟩ (.int .i64 1)) ⟨p + 1, 3, none⟩ (.int .i64 1) rfl)).trans (Keeps.setCell (fun j => j = p + 1) ((((w3.setCell ⟨p + 1, 0, none⟩ (.int .i64 s.client)).setCell ⟨p + 1, 1, none⟩ (.int .i64 s.n)).setCell ⟨p + 1, 2, none⟩ (.int .i64 1)).setCell ⟨p + 1, 3, none⟩ (.int .i64 1)) ⟨p + 1, 4, none⟩ (.int .i64 s.s1) rfl)).trans (Keeps.setCell (fun j => j = p + 1) (((((w3.setCell ⟨p + 1, 0, none⟩ (.int .i64 s.client)).setCell ⟨p + 1, 1, none⟩ (.int .i64 s.n)).setCell ⟨p + 1, 2, none⟩ (.int .i64 1)).setCell ⟨p + 1, 3, none⟩ (.int .i64 1)).setCell ⟨p + 1, 4, none⟩ (.int .i64 s.s1)) ⟨p + 1, 5, none⟩ (.int .i64 0) rfl)).trans (Keeps.setCell (fun j => j = p + 1) ((((((w3.setCell ⟨p + 1, 0, none⟩ (.int .i64 s.client)).setCell ⟨p + 1, 1, none⟩ (.int .i64 s.n)).setCell ⟨p + 1, 2, none⟩ (.int .i64 1)).setCell ⟨p + 1, 3, none⟩ (.int .i64 1)).setCell ⟨p + 1, 4, none⟩ (.int .i64 s.s1)).setCell ⟨p + 1, 5, none⟩ (.int .i64 0)) ⟨p + 1, 6, none⟩ (.int .i64 0) rfl)).trans (Keeps.setCell (fun j => j = p + 1) (((((((w3.setCell ⟨p + 1, 0, none⟩ (.int .i64 s.client)).setCell ⟨p + 1, 1, none⟩ (.int .i64 s.n)).setCell ⟨p + 1, 2, none⟩ (.int .i64 1)).setCell ⟨p + 1, 3, none⟩ (.int .i64 1)).setCell ⟨p + 1, 4, none⟩ (.int .i64 s.s1)).setCell ⟨p + 1, 5, none⟩ (.int .i64 0)).setCell ⟨p + 1, 6, none⟩ (.int .i64 0)) ⟨p + 1, 7, none⟩ (.int .i64 0) rfl)).trans (Keeps.setCell (fun j => j = p + 1) ((((((((w3.setCell ⟨p + 1, 0, none⟩ (.int .i64 s.client)).setCell ⟨p + 1, 1, none⟩ (.int .i64 s.n)).setCell ⟨p + 1, 2, none⟩ (.int .i64 1)).setCell ⟨p + 1, 3, none⟩ (.int .i64 1)).setCell ⟨p + 1, 4, none⟩ (.int .i64 s.s1)).setCell ⟨p + 1, 5, none⟩ (.int .i64 0)).setCell ⟨p + 1, 6, none⟩ (.int .i64 0)).setCell ⟨p + 1, 7, none⟩ (.int .i64 0)) ⟨p + 1, 8, none⟩ (.string ⟨#[]⟩) rfl)).trans (Keeps.setCell (fun j => j = p + 1) (((((((((w3.setCell ⟨p + 1, 0, none⟩ (.int .i64 s.client)).setCell ⟨p + 1, 1, none⟩ (.int .i64 s.n)).setCell ⟨p + 1, 2, none⟩ (.int .i64 1)).setCell ⟨p + 1, 3, none⟩ (.int .i64 1)).setCell ⟨p + 1, 4, none⟩ (.int .i64 s.s1)).setCell ⟨p + 1, 5, none⟩ (.int .i64 0)).setCell ⟨p + 1, 6, none⟩ (.int .i64 0)).setCell ⟨p + 1, 7, none⟩ (.int .i64 0)).setCell ⟨p + 1, 8, none⟩ (.string ⟨#[]⟩)) ⟨p + 1, 9, none⟩ (.string ⟨#[]⟩) rfl)).trans (Keeps.setCell (fun j => j = p + 1) ((((((((((w3.setCell ⟨p + 1, 0, none⟩ (.int .i64 s.client)).setCell ⟨p + 1, 1, none⟩ (.int .i64 s.n)).setCell ⟨p + 1, 2, none⟩ (.int .i64 1)).setCell ⟨p + 1, 3, none⟩ (.int .i64 1)).setCell ⟨p + 1, 4, none⟩ (.int .i64 s.s1)).setCell ⟨p + 1, 5, none⟩ (.int .i64 0)).setCell ⟨p + 1, 6, none⟩ (.int .i64 0)).setCell ⟨p + 1, 7, none⟩ (.int .i64 0)).setCell ⟨p + 1, 8, none⟩ (.string ⟨#[]⟩)).setCell ⟨p + 1, 9, none⟩ (.string ⟨#[]⟩)) ⟨p + 1, 10, none⟩ (.slice av rl.length cv) rfl))⟩
    go_wp2
    first | rw [hw4] | skip
    have HP : Hid (Recs w4 (.slice av rl.length cv) rl ∧ (∀ j, (Value.slice av rl.length cv).ownBlock = some j → w.heap.size ≤ j) ∧ Below w.heap.size w w4) := by
      have hs := B3.out.size
      exact ⟨R3.out.keepT K4.out (fun j hj e => by have := O3.out j hj; omega), fun j hj => Nat.le_trans hs (O3.out j hj), B4.out.trans (K4.out.toBelow B4.out.size (fun k hk e => by have := HLE.out; omega))⟩
    refine bodyPost_ret (results_cl rfl _ _ _ _ _ _ rfl Z4.out Tryd.underlying43 rfl (by kernel_rfl)) rfl ?_
    exact ⟨_, rfl, HP.out.1, HP.out.2.1, HP.out.2.2⟩

end Go.Proofs.YtkjbhkillkbcgaaDoor
