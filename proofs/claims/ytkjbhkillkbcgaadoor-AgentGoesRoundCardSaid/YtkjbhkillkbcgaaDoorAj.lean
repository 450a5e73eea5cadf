/-
  Agent: what a client hears: another node is the head (printed by wip/gen/mkagj.py).
  Conditions: none.
-/
import Derived.Test.YtkjbhkillkbcgaaDoorAi
import Derived.Test.YtkjbhkillkbcgaaDoorQt
set_option linter.unusedVariables false
set_option linter.unusedSimpArgs false
namespace Go.Proofs.YtkjbhkillkbcgaaDoor
open Go.RowKit

/-- An answer to a client's call. -/
def respC (s : AgS) (frm code off gen : Int) : List Value := [.int .i64 2, .int .i64 frm, .int .i64 (10 + s.client), .int .i64 0, .int .i64 0, .int .i64 0, .int .i64 0, .int .i64 0, .int .i64 0, .slice none 0 0, .int .i64 0, .slice none 0 0, .int .i64 0, .int .i64 0, .int .i64 0, .int .i64 0, .int .i64 0, .slice none 0 0, .slice none 0 0, .int .i64 0, .int .i64 0, .int .i64 0, .int .i64 0, .int .i64 0, .int .i64 0, .int .i64 0, .int .i64 0, .string ⟨#[]⟩, .string ⟨#[]⟩, .slice none 0 0, .int .i64 s.client, .int .i64 s.n, .int .i64 code, .int .i64 off, .int .i64 0, .int .i64 gen, .slice none 0 0, .slice none 0 0]
def saidZ : List Value := [.int .i64 0, .int .i64 0, .int .i64 0, .int .i64 0, .int .i64 0, .string ⟨#[]⟩, .slice none 0 0, .int .i64 0, .int .i64 0, .int .i64 0, .int .i64 0, .int .i64 0, .int .i64 0, .slice none 0 0, .slice none 0 0]
theorem hear_start {w : World} {g : Nat} {s : AgS} {gl : LM} (h : AgI w g s gl) (frm code off gen : Int) :
    ∃ w1, (w.alloc (.cells (respC s frm code off gen).toArray 47)).alloc (.cells saidZ.toArray 49) = w1 ∧ Hid (Cl w1 w.heap.size (respC s frm code off gen) 47) ∧ Hid (Cl w1 (w.heap.size + 1) saidZ 49) ∧ Hid (AgI w1 g s gl) ∧ Hid (Below w.heap.size w w1) := by
  have hb : Below w.heap.size w ((w.alloc (.cells (respC s frm code off gen).toArray 47)).alloc (.cells saidZ.toArray 49)) := ((Below.refl _ _).alloc (Nat.le_refl _) _).alloc (by simp) _
  refine ⟨_, rfl, (Cl.new w _ _).alloc _, ?_, h.below hb, hb⟩
  have h1 := Cl.new (w.alloc (.cells (respC s frm code off gen).toArray 47)) saidZ 49
  rw [World.size_alloc] at h1
  exact h1
def headS (s : AgS) (frm : Int) : AgS := if frm = s.cur then { s with cur := s.cur % s.nodes + 1, ticks := 0 } else s
theorem head_post {w w' : World} {g : Nat} {s : AgS} {gl : LM} {frm : Int} (h : AgI w g s gl) (k : Keeps (fun j => j = g) w w') (ha : Ag w' g (headS s frm)) : AgI w' g (headS s frm) gl := by
  unfold headS at *
  split
  · rename_i hf
    rw [if_pos hf] at ha
    exact { a := ha, rr := h.rr.keep k, cr := h.cr.keep k, M := h.M.kept k h.gg, gg := h.gg, cl := h.cl, nd := h.nd, cu := next_cu h.nd h.cu, kd := h.kd, nn := h.nn, sq := h.sq, tk := ⟨by simp, by simp⟩ }
  · rename_i hf
    rw [if_neg hf] at ha
    exact { a := ha, rr := h.rr.keep k, cr := h.cr.keep k, M := h.M.kept k h.gg, gg := h.gg, cl := h.cl, nd := h.nd, cu := h.cu, kd := h.kd, nn := h.nn, sq := h.sq, tk := h.tk }
set_option maxRecDepth 20000 in
set_option maxHeartbeats 6400000 in
theorem hear_head (g : Nat) (s : AgS) (gl : LM) (frm off gen : Int) (w : World) (h : AgI w g s gl) (hb : s.busy = true) :
    Calls Tryd.prog 10 #[.pointer (some ⟨g, 0, none⟩), .agg (respC s frm 23 off gen).toArray] w fun e w' => e = .returned (.tuple #[.agg saidZ.toArray, .bool false]) ∧ AgI w' g (headS s frm) gl ∧ Keeps (fun j => j = g) w w' := by
  have HI := Lib.hid h
  have hgl := Cl.lt h.a
  have hwr : IntKind.i64.wrap (10 + s.client) = 10 + s.client := by rw [IntKind.wrap_i64]; have := h.cl; omega
  clear h
  unfold respC
  go_enter Tryd.func10, Tryd.ntmps10
  obtain ⟨w1, hw1, C1, Z1, I1, B1⟩ := hear_start HI.out frm 23 off gen
  unfold respC saidZ at hw1
  go_upto_region 1 with (fail)
  first | rw [hw1] | skip
  clear hw1
  have hgp : g ≠ w.heap.size := by omega
  have hgp1 : g ≠ w.heap.size + 1 := by omega
  generalize hp : w.heap.size = p at C1 Z1 hgp hgp1 ⊢
  have HLE := Lib.hid (Nat.le_of_eq hp)
  clear hp
  unfold respC at C1
  unfold saidZ at Z1
  have IB := Lib.hid (below_class (w := w1) fun W hW => (busy_any g s W (Cl.below I1.out.a hW)).mono fun e w' ⟨he, hw⟩ => ⟨he, (show Below W.heap.size W w' from hw ▸ Below.refl _ _)⟩)
  rw [hb] at IB
  have m0 := fun x : BelowOf w1 => x.cell (C1.out.cell 0)
  have m2 := fun x : BelowOf w1 => x.cell (C1.out.cell 2)
  have m30 := fun x : BelowOf w1 => x.cell (C1.out.cell 30)
  have m31 := fun x : BelowOf w1 => x.cell (C1.out.cell 31)
  have n0 := fun x : BelowOf w1 => x.cell (Cl.cell I1.out.a 0)
  have n2 := fun x : BelowOf w1 => x.cell (Cl.cell I1.out.a 2)
  go_wp2
  refine wp_region_below (by kernel_rfl) (by kernel_rfl) ?_
  repeat (go_big_quiet_step (fail))
  go_big_quiet_step ((exact IB.out _))
  repeat (go_big_quiet_step (fail))
  refine wpQuiet_nil ?_
  intro w9 hw9
  obtain ⟨⟨w9, hb2⟩, rfl⟩ := hw9
  have C2 := Lib.hid (C1.out.below hb2)
  have Z2 := Lib.hid (Z1.out.below hb2)
  have I2 := Lib.hid (I1.out.below hb2)
  have B2 := Lib.hid (bt B1.out hb2)
  clear hb2 m0 m2 m30 m31 n0 n2 IB C1 Z1 I1 B1
  have x1 := C2.out.cell 1
  have x32 := C2.out.cell 32
  have c11 := Cl.cell I2.out.a 11
  have c3 := Cl.cell I2.out.a 3
  simp only [List.getElem?_cons_zero, List.getElem?_cons_succ, agC] at x1 x32 c11 c3
  by_cases hf : frm = s.cur
  · have hbe : (frm == s.cur) = true := by simp [hf]
    have HH : Hid (headS s frm = { s with cur := s.cur % s.nodes + 1, ticks := 0 }) := by rw [Hid, headS, if_pos hf]
    clear hf
    go_wp2
    go_quiet (fail)
    have Z2d : Hid (Cl (w9.drewN nq) (p + 1) saidZ 49) := Z2.out
    have A2d : Hid (Ag (w9.drewN nq) g s) := I2.out.a
    have K2d : Hid (Keeps (fun j => j = g) w (w9.drewN nq)) := (Keeps.below _ B2.out).trans (Keeps.drewN _ _ _)
    generalize w9.drewN nq = w2d at *
    go_wp2_with fail
    refine (next_any g s w2d A2d.out HI.out.nd HI.out.cu).mono ?_
    rintro e w3 ⟨rfl, hA3, hK3⟩
    have A3 : Hid (Ag w3 g (headS s frm)) := by rw [Hid, HH.out]; exact hA3
    have Z3 : Hid (Cl w3 (p + 1) saidZ 49) := Cl.keep Z2d.out hK3 (fun e => hgp1 e.symm)
    have K3 : Hid (Keeps (fun j => j = g) w w3) := K2d.out.trans hK3
    unfold saidZ at Z3
    clear hA3 hK3 Z2d A2d K2d
    have z0 := Z3.out.cell 0
    have y0 := Z3.out.free 0
    have z1 := Z3.out.cell 1
    have y1 := Z3.out.free 1
    have z2 := Z3.out.cell 2
    have y2 := Z3.out.free 2
    have z3 := Z3.out.cell 3
    have y3 := Z3.out.free 3
    have z4 := Z3.out.cell 4
    have y4 := Z3.out.free 4
    have z5 := Z3.out.cell 5
    have y5 := Z3.out.free 5
    have z6 := Z3.out.cell 6
    have y6 := Z3.out.free 6
    have z7 := Z3.out.cell 7
    have y7 := Z3.out.free 7
    have z8 := Z3.out.cell 8
    have y8 := Z3.out.free 8
    have z9 := Z3.out.cell 9
    have y9 := Z3.out.free 9
    have z10 := Z3.out.cell 10
    have y10 := Z3.out.free 10
    have z11 := Z3.out.cell 11
    have y11 := Z3.out.free 11
    have z12 := Z3.out.cell 12
    have y12 := Z3.out.free 12
    have z13 := Z3.out.cell 13
    have y13 := Z3.out.free 13
    have z14 := Z3.out.cell 14
    have y14 := Z3.out.free 14
    simp only [List.getElem?_cons_zero, List.getElem?_cons_succ] at z0 z1 z2 z3 z4 z5 z6 z7 z8 z9 z10 z11 z12 z13 z14
    obtain ⟨w4, hw4, Z4, K4⟩ : ∃ w4, (((((((((((((((w3.setCell ⟨(p + 1), 0, none⟩ (.int .i64 0)).setCell ⟨(p + 1), 1, none⟩ (.int .i64 0)).setCell ⟨(p + 1), 2, none⟩ (.int .i64 0)).setCell ⟨(p + 1), 3, none⟩ (.int .i64 0)).setCell ⟨(p + 1), 4, none⟩ (.int .i64 0)).setCell ⟨(p + 1), 5, none⟩ (.string ⟨#[]⟩)).setCell ⟨(p + 1), 6, none⟩ (.slice none 0 0)).setCell ⟨(p + 1), 7, none⟩ (.int .i64 0)).setCell ⟨(p + 1), 8, none⟩ (.int .i64 0)).setCell ⟨(p + 1), 9, none⟩ (.int .i64 0)).setCell ⟨(p + 1), 10, none⟩ (.int .i64 0)).setCell ⟨(p + 1), 11, none⟩ (.int .i64 0)).setCell ⟨(p + 1), 12, none⟩ (.int .i64 0)).setCell ⟨(p + 1), 13, none⟩ (.slice none 0 0)).setCell ⟨(p + 1), 14, none⟩ (.slice none 0 0)) = w4 ∧ Hid (Cl w4 (p + 1) saidZ 49) ∧ Hid (Keeps (fun j => j = p + 1) w3 w4) := ⟨_, rfl, (Cl.set (Cl.set (Cl.set (Cl.set (Cl.set (Cl.set (Cl.set (Cl.set (Cl.set (Cl.set (Cl.set (Cl.set (Cl.set (Cl.set (Cl.set Z3.out 0 (.int .i64 0)) 1 (.int .i64 0)) 2 (.int .i64 0)) 3 (.int .i64 0)) 4 (.int .i64 0)) 5 (.string ⟨#[]⟩)) 6 (.slice none 0 0)) 7 (.int .i64 0)) 8 (.int .i64 0)) 9 (.int .i64 0)) 10 (.int .i64 0)) 11 (.int .i64 0)) 12 (.int .i64 0)) 13 (.slice none 0 0)) 14 (.slice none 0 0)), ((((((((((((((((Keeps.refl (fun j => j = (p + 1)) w3).trans (Keeps.setCell (fun j => j = (p + 1)) w3 ⟨(p + 1), 0, none⟩ (.int .i64 0) rfl)).trans (Keeps.setCell (fun j => j = (p + 1)) (w3.setCell ⟨(p + 1), 0, none⟩ (.int .i64 0)) ⟨(p + 1), 1, none⟩ (.int .i64 0) rfl)).trans (Keeps.setCell (fun j => j = (p + 1)) ((w3.setCell ⟨(p + 1), 0, none⟩ (.int .i64 0)).setCell ⟨(p + 1), 1, none⟩ (.int .i64 0)) ⟨(p + 1), 2, none⟩ (.int .i64 0) rfl)).trans (Keeps.setCell (fun j => j = (p + 1)) (((w3.setCell ⟨(p + 1), 0, none⟩ (.int .i64 0)).setCell ⟨(p + 1), 1, none⟩ (.int .i64 0)).setCell ⟨(p + 1), 2, none⟩ (.int .i64 0)) ⟨(p + 1), 3, none⟩ (.int .i64 0) rfl)).trans (Keeps.setCell (fun j => j = (p + 1)) ((((w3.setCell ⟨(p + 1), 0, none⟩ (.int .i64 0)).setCell ⟨(p + 1), 1, none⟩ (.int .i64 0)).setCell ⟨(p + 1), 2, none⟩ (.int .i64 0)).setCell ⟨(p + 1), 3, none⟩ (.int .i64 0)) ⟨(p + 1), 4, none⟩ (.int .i64 0) rfl)).trans (Keeps.setCell (fun j => j = (p + 1)) (((((w3.setCell ⟨(p + 1), 0, none⟩ (.int .i64 0)).setCell ⟨(p + 1), 1, none⟩ (.int .i64 0)).setCell ⟨(p + 1), 2, none⟩ (.int .i64 0)).setCell ⟨(p + 1), 3, none⟩ (.int .i64 0)).setCell ⟨(p + 1), 4, none⟩ (.int .i64 0)) ⟨(p + 1), 5, none⟩ (.string ⟨#[]⟩) rfl)).trans (Keeps.setCell (fun j => j = (p + 1)) ((((((w3.setCell ⟨(p + 1), 0, none⟩ (.int .i64 0)).setCell ⟨(p + 1), 1, none⟩ (.int .i64 0)).setCell ⟨(p + 1), 2, none⟩ (.int .i64 0)).setCell ⟨(p + 1), 3, none⟩ (.int .i64 0)).setCell ⟨(p + 1), 4, none⟩ (.int .i64 0)).setCell ⟨(p + 1), 5, none⟩ (.string ⟨#[]⟩)) ⟨(p + 1), 6, none⟩ (.slice none 0 0) rfl)).trans (Keeps.setCell (fun j => j = (p + 1)) (((((((w3.setCell ⟨(p + 1), 0, none⟩ (.int .i64 0)).setCell ⟨(p + 1), 1, none⟩ (.int .i64 0)).setCell ⟨(p + 1), 2, none⟩ (.int .i64 0)).setCell ⟨(p + 1), 3, none⟩ (.int .i64 0)).setCell ⟨(p + 1), 4, none⟩ (.int .i64 0)).setCell ⟨(p + 1), 5, none⟩ (.string ⟨#[]⟩)).setCell ⟨(p + 1), 6, none⟩ (.slice none 0 0)) ⟨(p + 1), 7, none⟩ (.int .i64 0) rfl)).trans (Keeps.setCell (fun j => j = (p + 1)) ((((((((w3.setCell ⟨(p + 1), 0, none⟩ (.int .i64 0)).setCell ⟨(p + 1), 1, none⟩ (.int .i64 0)).setCell ⟨(p + 1), 2, none⟩ (.int .i64 0)).setCell ⟨(p + 1), 3, none⟩ (.int .i64 0)).setCell ⟨(p + 1), 4, none⟩ (.int .i64 0)).setCell ⟨(p + 1), 5, none⟩ (.string ⟨#[]⟩)).setCell ⟨(p + 1), 6, none⟩ (.slice none 0 0)).setCell ⟨(p + 1), 7, none⟩ (.int .i64 0)) ⟨(p + 1), 8, none⟩ (.int .i64 0) rfl)).trans (Keeps.setCell (fun j => j = (p + 1)) (((((((((w3.setCell ⟨(p + 1), 0, none⟩ (.int .i64 0)).setCell ⟨(p + 1), 1, none⟩ (.int .i64 0)).setCell ⟨(p + 1), 2, none⟩ (.int .i64 0)).setCell ⟨(p + 1), 3, none⟩ (.int .i64 0)).setCell ⟨(p + 1), 4, none⟩ (.int .i64 0)).setCell ⟨(p + 1), 5, none⟩ (.string ⟨#[]⟩)).setCell ⟨(p + 1), 6, none⟩ (.slice none 0 0)).setCell ⟨(p + 1), 7, none⟩ (.int .i64 0)).setCell ⟨(p + 1), 8, none⟩ (.int .i64 0)) ⟨(p + 1), 9, none⟩ (.int .i64 0) rfl)).trans (Keeps.setCell (fun j => j = (p + 1)) ((((((((((w3.setCell ⟨(p + 1), 0, none⟩ (.int .i64 0)).setCell ⟨(p + 1), 1, none⟩ (.int .i64 0)).setCell ⟨(p + 1), 2, none⟩ (.int .i64 0)).setCell ⟨(p + 1), 3, none⟩ (.int .i64 0)).setCell ⟨(p + 1), 4, none⟩ (.int .i64 0)).setCell ⟨(p + 1), 5, none⟩ (.string ⟨#[]⟩)).setCell ⟨(p + 1), 6, none⟩ (.slice none 0 0)).setCell ⟨(p + 1), 7, none⟩ (.int .i64 0)).setCell ⟨(p + 1), 8, none⟩ (.int .i64 0)).setCell ⟨(p + 1), 9, none⟩ (.int .i64 0)) ⟨(p + 1), 10, none⟩ (.int .i64 0) rfl)).trans (Keeps.setCell (fun j => j = (p + 1)) (((((((((((w3.setCell ⟨(p + 1), 0, none⟩ (.int .i64 0)).setCell ⟨(p + 1), 1, none⟩ (.int .i64 0)).setCell ⟨(p + 1), 2, none⟩ (.int .i64 0)).setCell ⟨(p + 1), 3, none⟩ (.int .i64 0)).setCell ⟨(p + 1), 4, none⟩ (.int .i64 0)).setCell ⟨(p + 1), 5, none⟩ (.string ⟨#[]⟩)).setCell ⟨(p + 1), 6, none⟩ (.slice none 0 0)).setCell ⟨(p + 1), 7, none⟩ (.int .i64 0)).setCell ⟨(p + 1), 8, none⟩ (.int .i64 0)).setCell ⟨(p + 1), 9, none⟩ (.int .i64 0)).setCell ⟨(p + 1), 10, none⟩ (.int .i64 0)) ⟨(p + 1), 11, none⟩ (.int .i64 0) rfl)).trans (Keeps.setCell (fun j => j = (p + 1)) ((((((((((((w3.setCell ⟨(p + 1), 0, none⟩ (.int .i64 0)).setCell ⟨(p + 1), 1, none⟩ (.int .i64 0)).setCell ⟨(p + 1), 2, none⟩ (.int .i64 0)).setCell ⟨(p + 1), 3, none⟩ (.int .i64 0)).setCell ⟨(p + 1), 4, none⟩ (.int .i64 0)).setCell ⟨(p + 1), 5, none⟩ (.string ⟨#[]⟩)).setCell ⟨(p + 1), 6, none⟩ (.slice none 0 0)).setCell ⟨(p + 1), 7, none⟩ (.int .i64 0)).setCell ⟨(p + 1), 8, none⟩ (.int .i64 0)).setCell ⟨(p + 1), 9, none⟩ (.int .i64 0)).setCell ⟨(p + 1), 10, none⟩ (.int .i64 0)).setCell ⟨(p + 1), 11, none⟩ (.int .i64 0)) ⟨(p + 1), 12, none⟩ (.int .i64 0) rfl)).trans (Keeps.setCell (fun j => j = (p + 1)) (((((((((((((w3.setCell ⟨(p + 1), 0, none⟩ (.int .i64 0)).setCell ⟨(p + 1), 1, none⟩ (.int .i64 0)).setCell ⟨(p + 1), 2, none⟩ (.int .i64 0)).setCell ⟨(p + 1), 3, none⟩ (.int .i64 0)).setCell ⟨(p + 1), 4, none⟩ (.int .i64 0)).setCell ⟨(p + 1), 5, none⟩ (.string ⟨#[]⟩)).setCell ⟨(p + 1), 6, none⟩ (.slice none 0 0)).setCell ⟨(p + 1), 7, none⟩ (.int .i64 0)).setCell ⟨(p + 1), 8, none⟩ (.int .i64 0)).setCell ⟨(p + 1), 9, none⟩ (.int .i64 0)).setCell ⟨(p + 1), 10, none⟩ (.int .i64 0)).setCell ⟨(p + 1), 11, none⟩ (.int .i64 0)).setCell ⟨(p + 1), 12, none⟩ (.int .i64 0)) ⟨(p + 1), 13, none⟩ (.slice none 0 0) rfl)).trans (Keeps.setCell (fun j => j = (p + 1)) ((((((((((((((w3.setCell ⟨(p + 1), 0, none⟩ (.int .i64 0)).setCell ⟨(p + 1), 1, none⟩ (.int .i64 0)).setCell ⟨(p + 1), 2, none⟩ (.int .i64 0)).setCell ⟨(p + 1), 3, none⟩ (.int .i64 0)).setCell ⟨(p + 1), 4, none⟩ (.int .i64 0)).setCell ⟨(p + 1), 5, none⟩ (.string ⟨#[]⟩)).setCell ⟨(p + 1), 6, none⟩ (.slice none 0 0)).setCell ⟨(p + 1), 7, none⟩ (.int .i64 0)).setCell ⟨(p + 1), 8, none⟩ (.int .i64 0)).setCell ⟨(p + 1), 9, none⟩ (.int .i64 0)).setCell ⟨(p + 1), 10, none⟩ (.int .i64 0)).setCell ⟨(p + 1), 11, none⟩ (.int .i64 0)).setCell ⟨(p + 1), 12, none⟩ (.int .i64 0)).setCell ⟨(p + 1), 13, none⟩ (.slice none 0 0)) ⟨(p + 1), 14, none⟩ (.slice none 0 0) rfl))⟩
    go_wp2
    first | rw [hw4] | skip
    clear hw4 z0 y0 z1 y1 z2 y2 z3 y3 z4 y4 z5 y5 z6 y6 z7 y7 z8 y8 z9 y9 z10 y10 z11 y11 z12 y12 z13 y13 z14 y14
    have K5 : Keeps (fun j => j = g) w w4 := Keeps.fresh K3.out K4.out (fun j hj e => by have := HLE.out; omega)
    have A4 : Ag w4 g (headS s frm) := Cl.keep A3.out K4.out hgp1
    have HP := Lib.hid (head_post HI.out K5 A4)
    refine bodyPost_ret (results_cl_tmp rfl _ _ _ _ _ _ rfl Z4.out Tryd.underlying49 rfl (by kernel_rfl)) rfl ?_
    exact ⟨rfl, HP.out, K5⟩
  · have hbe : (frm == s.cur) = false := by simp [hf]
    have HH : Hid (headS s frm = s) := by rw [Hid, headS, if_neg hf]
    clear hf
    go_wp2
    go_quiet (fail)
    have Z3 : Hid (Cl (w9.drewN nq) (p + 1) saidZ 49) := Z2.out
    have A3 : Hid (Ag (w9.drewN nq) g (headS s frm)) := by rw [Hid, HH.out]; exact I2.out.a
    have K3 : Hid (Keeps (fun j => j = g) w (w9.drewN nq)) := (Keeps.below _ B2.out).trans (Keeps.drewN _ _ _)
    generalize w9.drewN nq = w3 at *
    unfold saidZ at Z3
    have z0 := Z3.out.cell 0
    have y0 := Z3.out.free 0
    have z1 := Z3.out.cell 1
    have y1 := Z3.out.free 1
    have z2 := Z3.out.cell 2
    have y2 := Z3.out.free 2
    have z3 := Z3.out.cell 3
    have y3 := Z3.out.free 3
    have z4 := Z3.out.cell 4
    have y4 := Z3.out.free 4
    have z5 := Z3.out.cell 5
    have y5 := Z3.out.free 5
    have z6 := Z3.out.cell 6
    have y6 := Z3.out.free 6
    have z7 := Z3.out.cell 7
    have y7 := Z3.out.free 7
    have z8 := Z3.out.cell 8
    have y8 := Z3.out.free 8
    have z9 := Z3.out.cell 9
    have y9 := Z3.out.free 9
    have z10 := Z3.out.cell 10
    have y10 := Z3.out.free 10
    have z11 := Z3.out.cell 11
    have y11 := Z3.out.free 11
    have z12 := Z3.out.cell 12
    have y12 := Z3.out.free 12
    have z13 := Z3.out.cell 13
    have y13 := Z3.out.free 13
    have z14 := Z3.out.cell 14
    have y14 := Z3.out.free 14
    simp only [List.getElem?_cons_zero, List.getElem?_cons_succ] at z0 z1 z2 z3 z4 z5 z6 z7 z8 z9 z10 z11 z12 z13 z14
    obtain ⟨w4, hw4, Z4, K4⟩ : ∃ w4, (((((((((((((((w3.setCell ⟨(p + 1), 0, none⟩ (.int .i64 0)).setCell ⟨(p + 1), 1, none⟩ (.int .i64 0)).setCell ⟨(p + 1), 2, none⟩ (.int .i64 0)).setCell ⟨(p + 1), 3, none⟩ (.int .i64 0)).setCell ⟨(p + 1), 4, none⟩ (.int .i64 0)).setCell ⟨(p + 1), 5, none⟩ (.string ⟨#[]⟩)).setCell ⟨(p + 1), 6, none⟩ (.slice none 0 0)).setCell ⟨(p + 1), 7, none⟩ (.int .i64 0)).setCell ⟨(p + 1), 8, none⟩ (.int .i64 0)).setCell ⟨(p + 1), 9, none⟩ (.int .i64 0)).setCell ⟨(p + 1), 10, none⟩ (.int .i64 0)).setCell ⟨(p + 1), 11, none⟩ (.int .i64 0)).setCell ⟨(p + 1), 12, none⟩ (.int .i64 0)).setCell ⟨(p + 1), 13, none⟩ (.slice none 0 0)).setCell ⟨(p + 1), 14, none⟩ (.slice none 0 0)) = w4 ∧ Hid (Cl w4 (p + 1) saidZ 49) ∧ Hid (Keeps (fun j => j = p + 1) w3 w4) := ⟨_, rfl, (Cl.set (Cl.set (Cl.set (Cl.set (Cl.set (Cl.set (Cl.set (Cl.set (Cl.set (Cl.set (Cl.set (Cl.set (Cl.set (Cl.set (Cl.set Z3.out 0 (.int .i64 0)) 1 (.int .i64 0)) 2 (.int .i64 0)) 3 (.int .i64 0)) 4 (.int .i64 0)) 5 (.string ⟨#[]⟩)) 6 (.slice none 0 0)) 7 (.int .i64 0)) 8 (.int .i64 0)) 9 (.int .i64 0)) 10 (.int .i64 0)) 11 (.int .i64 0)) 12 (.int .i64 0)) 13 (.slice none 0 0)) 14 (.slice none 0 0)), ((((((((((((((((Keeps.refl (fun j => j = (p + 1)) w3).trans (Keeps.setCell (fun j => j = (p + 1)) w3 ⟨(p + 1), 0, none⟩ (.int .i64 0) rfl)).trans (Keeps.setCell (fun j => j = (p + 1)) (w3.setCell ⟨(p + 1), 0, none⟩ (.int .i64 0)) ⟨(p + 1), 1, none⟩ (.int .i64 0) rfl)).trans (Keeps.setCell (fun j => j = (p + 1)) ((w3.setCell ⟨(p + 1), 0, none⟩ (.int .i64 0)).setCell ⟨(p + 1), 1, none⟩ (.int .i64 0)) ⟨(p + 1), 2, none⟩ (.int .i64 0) rfl)).trans (Keeps.setCell (fun j => j = (p + 1)) (((w3.setCell ⟨(p + 1), 0, none⟩ (.int .i64 0)).setCell ⟨(p + 1), 1, none⟩ (.int .i64 0)).setCell ⟨(p + 1), 2, none⟩ (.int .i64 0)) ⟨(p + 1), 3, none⟩ (.int .i64 0) rfl)).trans (Keeps.setCell (fun j => j = (p + 1)) ((((w3.setCell ⟨(p + 1), 0, none⟩ (.int .i64 0)).setCell ⟨(p + 1), 1, none⟩ (.int .i64 0)).setCell ⟨(p + 1), 2, none⟩ (.int .i64 0)).setCell ⟨(p + 1), 3, none⟩ (.int .i64 0)) ⟨(p + 1), 4, none⟩ (.int .i64 0) rfl)).trans (Keeps.setCell (fun j => j = (p + 1)) (((((w3.setCell ⟨(p + 1), 0, none⟩ (.int .i64 0)).setCell ⟨(p + 1), 1, none⟩ (.int .i64 0)).setCell ⟨(p + 1), 2, none⟩ (.int .i64 0)).setCell ⟨(p + 1), 3, none⟩ (.int .i64 0)).setCell ⟨(p + 1), 4, none⟩ (.int .i64 0)) ⟨(p + 1), 5, none⟩ (.string ⟨#[]⟩) rfl)).trans (Keeps.setCell (fun j => j = (p + 1)) ((((((w3.setCell ⟨(p + 1), 0, none⟩ (.int .i64 0)).setCell ⟨(p + 1), 1, none⟩ (.int .i64 0)).setCell ⟨(p + 1), 2, none⟩ (.int .i64 0)).setCell ⟨(p + 1), 3, none⟩ (.int .i64 0)).setCell ⟨(p + 1), 4, none⟩ (.int .i64 0)).setCell ⟨(p + 1), 5, none⟩ (.string ⟨#[]⟩)) ⟨(p + 1), 6, none⟩ (.slice none 0 0) rfl)).trans (Keeps.setCell (fun j => j = (p + 1)) (((((((w3.setCell ⟨(p + 1), 0, none⟩ (.int .i64 0)).setCell ⟨(p + 1), 1, none⟩ (.int .i64 0)).setCell ⟨(p + 1), 2, none⟩ (.int .i64 0)).setCell ⟨(p + 1), 3, none⟩ (.int .i64 0)).setCell ⟨(p + 1), 4, none⟩ (.int .i64 0)).setCell ⟨(p + 1), 5, none⟩ (.string ⟨#[]⟩)).setCell ⟨(p + 1), 6, none⟩ (.slice none 0 0)) ⟨(p + 1), 7, none⟩ (.int .i64 0) rfl)).trans (Keeps.setCell (fun j => j = (p + 1)) ((((((((w3.setCell ⟨(p + 1), 0, none⟩ (.int .i64 0)).setCell ⟨(p + 1), 1, none⟩ (.int .i64 0)).setCell ⟨(p + 1), 2, none⟩ (.int .i64 0)).setCell ⟨(p + 1), 3, none⟩ (.int .i64 0)).setCell ⟨(p + 1), 4, none⟩ (.int .i64 0)).setCell ⟨(p + 1), 5, none⟩ (.string ⟨#[]⟩)).setCell ⟨(p + 1), 6, none⟩ (.slice none 0 0)).setCell ⟨(p + 1), 7, none⟩ (.int .i64 0)) ⟨(p + 1), 8, none⟩ (.int .i64 0) rfl)).trans (Keeps.setCell (fun j => j = (p + 1)) (((((((((w3.setCell ⟨(p + 1), 0, none⟩ (.int .i64 0)).setCell ⟨(p + 1), 1, none⟩ (.int .i64 0)).setCell ⟨(p + 1), 2, none⟩ (.int .i64 0)).setCell ⟨(p + 1), 3, none⟩ (.int .i64 0)).setCell ⟨(p + 1), 4, none⟩ (.int .i64 0)).setCell ⟨(p + 1), 5, none⟩ (.string ⟨#[]⟩)).setCell ⟨(p + 1), 6, none⟩ (.slice none 0 0)).setCell ⟨(p + 1), 7, none⟩ (.int .i64 0)).setCell ⟨(p + 1), 8, none⟩ (.int .i64 0)) ⟨(p + 1), 9, none⟩ (.int .i64 0) rfl)).trans (Keeps.setCell (fun j => j = (p + 1)) ((((((((((w3.setCell ⟨(p + 1), 0, none⟩ (.int .i64 0)).setCell ⟨(p + 1), 1, none⟩ (.int .i64 0)).setCell ⟨(p + 1), 2, none⟩ (.int .i64 0)).setCell ⟨(p + 1), 3, none⟩ (.int .i64 0)).setCell ⟨(p + 1), 4, none⟩ (.int .i64 0)).setCell ⟨(p + 1), 5, none⟩ (.string ⟨#[]⟩)).setCell ⟨(p + 1), 6, none⟩ (.slice none 0 0)).setCell ⟨(p + 1), 7, none⟩ (.int .i64 0)).setCell ⟨(p + 1), 8, none⟩ (.int .i64 0)).setCell ⟨(p + 1), 9, none⟩ (.int .i64 0)) ⟨(p + 1), 10, none⟩ (.int .i64 0) rfl)).trans (Keeps.setCell (fun j => j = (p + 1)) (((((((((((w3.setCell ⟨(p + 1), 0, none⟩ (.int .i64 0)).setCell ⟨(p + 1), 1, none⟩ (.int .i64 0)).setCell ⟨(p + 1), 2, none⟩ (.int .i64 0)).setCell ⟨(p + 1), 3, none⟩ (.int .i64 0)).setCell ⟨(p + 1), 4, none⟩ (.int .i64 0)).setCell ⟨(p + 1), 5, none⟩ (.string ⟨#[]⟩)).setCell ⟨(p + 1), 6, none⟩ (.slice none 0 0)).setCell ⟨(p + 1), 7, none⟩ (.int .i64 0)).setCell ⟨(p + 1), 8, none⟩ (.int .i64 0)).setCell ⟨(p + 1), 9, none⟩ (.int .i64 0)).setCell ⟨(p + 1), 10, none⟩ (.int .i64 0)) ⟨(p + 1), 11, none⟩ (.int .i64 0) rfl)).trans (Keeps.setCell (fun j => j = (p + 1)) ((((((((((((w3.setCell ⟨(p + 1), 0, none⟩ (.int .i64 0)).setCell ⟨(p + 1), 1, none⟩ (.int .i64 0)).setCell ⟨(p + 1), 2, none⟩ (.int .i64 0)).setCell ⟨(p + 1), 3, none⟩ (.int .i64 0)).setCell ⟨(p + 1), 4, none⟩ (.int .i64 0)).setCell ⟨(p + 1), 5, none⟩ (.string ⟨#[]⟩)).setCell ⟨(p + 1), 6, none⟩ (.slice none 0 0)).setCell ⟨(p + 1), 7, none⟩ (.int .i64 0)).setCell ⟨(p + 1), 8, none⟩ (.int .i64 0)).setCell ⟨(p + 1), 9, none⟩ (.int .i64 0)).setCell ⟨(p + 1), 10, none⟩ (.int .i64 0)).setCell ⟨(p + 1), 11, none⟩ (.int .i64 0)) ⟨(p + 1), 12, none⟩ (.int .i64 0) rfl)).trans (Keeps.setCell (fun j => j = (p + 1)) (((((((((((((w3.setCell ⟨(p + 1), 0, none⟩ (.int .i64 0)).setCell ⟨(p + 1), 1, none⟩ (.int .i64 0)).setCell ⟨(p + 1), 2, none⟩ (.int .i64 0)).setCell ⟨(p + 1), 3, none⟩ (.int .i64 0)).setCell ⟨(p + 1), 4, none⟩ (.int .i64 0)).setCell ⟨(p + 1), 5, none⟩ (.string ⟨#[]⟩)).setCell ⟨(p + 1), 6, none⟩ (.slice none 0 0)).setCell ⟨(p + 1), 7, none⟩ (.int .i64 0)).setCell ⟨(p + 1), 8, none⟩ (.int .i64 0)).setCell ⟨(p + 1), 9, none⟩ (.int .i64 0)).setCell ⟨(p + 1), 10, none⟩ (.int .i64 0)).setCell ⟨(p + 1), 11, none⟩ (.int .i64 0)).setCell ⟨(p + 1), 12, none⟩ (.int .i64 0)) ⟨(p + 1), 13, none⟩ (.slice none 0 0) rfl)).trans (Keeps.setCell (fun j => j = (p + 1)) ((((((((((((((w3.setCell ⟨(p + 1), 0, none⟩ (.int .i64 0)).setCell ⟨(p + 1), 1, none⟩ (.int .i64 0)).setCell ⟨(p + 1), 2, none⟩ (.int .i64 0)).setCell ⟨(p + 1), 3, none⟩ (.int .i64 0)).setCell ⟨(p + 1), 4, none⟩ (.int .i64 0)).setCell ⟨(p + 1), 5, none⟩ (.string ⟨#[]⟩)).setCell ⟨(p + 1), 6, none⟩ (.slice none 0 0)).setCell ⟨(p + 1), 7, none⟩ (.int .i64 0)).setCell ⟨(p + 1), 8, none⟩ (.int .i64 0)).setCell ⟨(p + 1), 9, none⟩ (.int .i64 0)).setCell ⟨(p + 1), 10, none⟩ (.int .i64 0)).setCell ⟨(p + 1), 11, none⟩ (.int .i64 0)).setCell ⟨(p + 1), 12, none⟩ (.int .i64 0)).setCell ⟨(p + 1), 13, none⟩ (.slice none 0 0)) ⟨(p + 1), 14, none⟩ (.slice none 0 0) rfl))⟩
    go_wp2
    first | rw [hw4] | skip
    clear hw4 z0 y0 z1 y1 z2 y2 z3 y3 z4 y4 z5 y5 z6 y6 z7 y7 z8 y8 z9 y9 z10 y10 z11 y11 z12 y12 z13 y13 z14 y14
    have K5 : Keeps (fun j => j = g) w w4 := Keeps.fresh K3.out K4.out (fun j hj e => by have := HLE.out; omega)
    have A4 : Ag w4 g (headS s frm) := Cl.keep A3.out K4.out hgp1
    have HP := Lib.hid (head_post HI.out K5 A4)
    refine bodyPost_ret (results_cl_tmp rfl _ _ _ _ _ _ rfl Z4.out Tryd.underlying49 rfl (by kernel_rfl)) rfl ?_
    exact ⟨rfl, HP.out, K5⟩

end Go.Proofs.YtkjbhkillkbcgaaDoor
