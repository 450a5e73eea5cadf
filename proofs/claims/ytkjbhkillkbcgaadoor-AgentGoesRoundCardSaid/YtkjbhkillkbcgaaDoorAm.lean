/-
  Agent: what a client hears: its call is answered, kind 1 (printed by wip/gen/mkagj.py).
  Conditions: none.
-/
import Derived.Test.YtkjbhkillkbcgaaDoorAk
import Derived.Deep.DeepCutAuto
import Derived.Deep.RegionLaw
set_option linter.unusedVariables false
set_option linter.unusedSimpArgs false
namespace Go.Proofs.YtkjbhkillkbcgaaDoor
open Go.RowKit

set_option maxRecDepth 20000 in
set_option maxHeartbeats 6400000 in
theorem hear_prod (g : Nat) (s : AgS) (gl : LM) (frm off gen : Int) (w : World) (h : AgI w g s gl) (hb : s.busy = true) (hk : s.call.kind = 1) (hp1 : s.call.part = 1) (hs : s.s1 ≤ 1000) :
    Calls Tryd.prog 10 #[.pointer (some ⟨g, 0, none⟩), .agg (respC s frm 0 off gen).toArray] w (HeardPost w g s { s with busy := false, s1 := s.s1 + 1 } gl off gen) := by
  have HI := Lib.hid h
  have HP1 := Lib.hid hp1
  clear hp1
  have hgl := Cl.lt h.a
  have hwr : IntKind.i64.wrap (10 + s.client) = 10 + s.client := by rw [IntKind.wrap_i64]; have := h.cl; omega
  clear h
  unfold respC
  go_enter Tryd.func10, Tryd.ntmps10
  obtain ⟨w1, hw1, C1, Z1, I1, B1⟩ := hear_start HI.out frm 0 off gen
  unfold respC saidZ at hw1
  go_upto_region 1 with (fail)
  first | rw [hw1] | skip
  clear hw1
  have hgp : g ≠ w.heap.size := by omega
  have hgp1 : g ≠ w.heap.size + 1 := by omega
  generalize hp : w.heap.size = p at C1 Z1 hgp hgp1 ⊢
  have HLE := Lib.hid (Nat.le_of_eq hp)
  clear hp
  unfold respC at C1
  unfold saidZ at Z1
  have IB := Lib.hid (below_class (w := w1) fun W hW => (busy_any g s W (Cl.below I1.out.a hW)).mono fun e w' ⟨he, hw⟩ => ⟨he, (show Below W.heap.size W w' from hw ▸ Below.refl _ _)⟩)
  rw [hb] at IB
  have m0 := fun x : BelowOf w1 => x.cell (C1.out.cell 0)
  have m2 := fun x : BelowOf w1 => x.cell (C1.out.cell 2)
  have m30 := fun x : BelowOf w1 => x.cell (C1.out.cell 30)
  have m31 := fun x : BelowOf w1 => x.cell (C1.out.cell 31)
  have n0 := fun x : BelowOf w1 => x.cell (Cl.cell I1.out.a 0)
  have n2 := fun x : BelowOf w1 => x.cell (Cl.cell I1.out.a 2)
  go_wp2
  refine wp_region_below (by kernel_rfl) (by kernel_rfl) ?_
  repeat (go_big_quiet_step (fail))
  go_big_quiet_step ((exact IB.out _))
  repeat (go_big_quiet_step (fail))
  refine wpQuiet_nil ?_
  intro w9 hw9
  obtain ⟨⟨w9, hb2⟩, rfl⟩ := hw9
  have C2 := Lib.hid (C1.out.below hb2)
  have Z2 := Lib.hid (Z1.out.below hb2)
  have I2 := Lib.hid (I1.out.below hb2)
  have B2 := Lib.hid (bt B1.out hb2)
  clear hb2 m0 m2 m30 m31 n0 n2 IB C1 Z1 I1 B1
  have x1 := C2.out.cell 1
  have x32 := C2.out.cell 32
  have c11 := Cl.cell I2.out.a 11
  have c3 := Cl.cell I2.out.a 3
  simp only [List.getElem?_cons_zero, List.getElem?_cons_succ, agC] at x1 x32 c11 c3
  obtain ⟨rl0, hr1, hr2, hr3⟩ := id HI.out.cr
  obtain ⟨ac, cc, hcr⟩ := hr1.form
  generalize rl0.length = lc at hcr
  clear hr1 hr2 hr3
  have c9 := Cl.cell I2.out.a 9
  have f9 := Cl.free I2.out.a 9
  simp only [List.getElem?_cons_zero, List.getElem?_cons_succ, agC] at c9
  rw [hk] at c11
  have A3 : Hid (Ag (w9.setCell ⟨g, 9, none⟩ (.bool false)) g { s with busy := false }) := Cl.set I2.out.a 9 (.bool false)
  have C3 := Lib.hid (Cl.other C2.out ⟨g, 9, none⟩ (.bool false) hgp)
  have Z3 := Lib.hid (Cl.other Z2.out ⟨g, 9, none⟩ (.bool false) hgp1)
  have K3g0 : Hid (Keeps (fun j => j = g) w (w9.setCell ⟨g, 9, none⟩ (.bool false))) := (Keeps.below _ B2.out).trans (Keeps.setCell _ _ _ _ rfl)
  have K3 : Hid (Keeps (fun j => j = g ∨ j = s.gens) w (w9.setCell ⟨g, 9, none⟩ (.bool false))) := (Keeps.below _ B2.out).trans (Keeps.setCell _ _ _ _ (Or.inl rfl))
  go_upto_region 13 with (fail)
  generalize w9.setCell ⟨g, 9, none⟩ (.bool false) = w3 at *
  clear c9 f9 c11 c3 x1 x32 C2 Z2 I2 B2
  go_wp2_with fail
  refine (writes_any 1 w3).mono ?_
  rintro e w0 ⟨rfl, rfl⟩

  have hw5 : wrt 1 = true := rfl
  rw [hw5]
  have hin : (decide ((3 : Int) ≤ 1) && decide ((1 : Int) ≤ 7)) = false := rfl
  have K3g : Hid (Keeps (fun j => j = g) w w3) := K3g0.out
  have M3 := Lib.hid (HI.out.M.kept K3g.out HI.out.gg)
  have hsq := HI.out.sq
  obtain ⟨hs1, hs2, hs3, hs4⟩ := hsq
  have c5 := Cl.cell A3.out 5
  have f5 := Cl.free A3.out 5
  have c12 := Cl.cell A3.out 12
  simp only [List.getElem?_cons_zero, List.getElem?_cons_succ, agC] at c5 c12
  rw [HP1.out] at c12
  go_wp2
  go_region
  obtain ⟨w5, hw5, A5, C5, Z5, K5, M5⟩ : ∃ w5, (w3.setCell ⟨g, 5, none⟩ (.int .i64 (s.s1 + 1))).drew = w5 ∧ Hid (Ag w5 g { s with busy := false, s1 := s.s1 + 1 }) ∧ Hid (Cl w5 p [.int .i64 2, .int .i64 frm, .int .i64 (10 + s.client), .int .i64 0, .int .i64 0, .int .i64 0, .int .i64 0, .int .i64 0, .int .i64 0, .slice none 0 0, .int .i64 0, .slice none 0 0, .int .i64 0, .int .i64 0, .int .i64 0, .int .i64 0, .int .i64 0, .slice none 0 0, .slice none 0 0, .int .i64 0, .int .i64 0, .int .i64 0, .int .i64 0, .int .i64 0, .int .i64 0, .int .i64 0, .int .i64 0, .string ⟨#[]⟩, .string ⟨#[]⟩, .slice none 0 0, .int .i64 s.client, .int .i64 s.n, .int .i64 0, .int .i64 off, .int .i64 0, .int .i64 gen, .slice none 0 0, .slice none 0 0] 47) ∧ Hid (Cl w5 (p + 1) [.int .i64 0, .int .i64 0, .int .i64 0, .int .i64 0, .int .i64 0, .string ⟨#[]⟩, .slice none 0 0, .int .i64 0, .int .i64 0, .int .i64 0, .int .i64 0, .int .i64 0, .int .i64 0, .slice none 0 0, .slice none 0 0] 49) ∧ Hid (Keeps (fun j => j = g ∨ j = s.gens) w w5) ∧ Hid (Mp w5 s.gens (imap gl)) :=
    ⟨_, rfl, Cl.drewN (Cl.set A3.out 5 (.int .i64 (s.s1 + 1))) 1, Cl.drewN (Cl.other C3.out ⟨g, 5, none⟩ (.int .i64 (s.s1 + 1)) hgp) 1, Cl.drewN (Cl.other Z3.out ⟨g, 5, none⟩ (.int .i64 (s.s1 + 1)) hgp1) 1, K3.out.trans ((Keeps.setCell _ _ _ _ (Or.inl rfl)).trans (Keeps.drew _ _)), M3.out.kept (S := fun j => j = g) ((Keeps.setCell (fun j => j = g) w3 ⟨g, 5, none⟩ (.int .i64 (s.s1 + 1)) rfl).trans (Keeps.drew _ _)) HI.out.gg⟩
  first | rw [hw5] | skip
  clear hw5 c5 c12 f5 A3 C3 Z3 K3 M3 K3g
  go_wp2_with fail
  refine (within_any 1 3 7 w5).mono ?_
  rintro e w0 ⟨rfl, rfl⟩
  try rw [hin]
  go_upto_region 20 with (fail)
  have x30 := C5.out.cell 30
  have x31 := C5.out.cell 31
  have x32 := C5.out.cell 32
  have x33 := C5.out.cell 33
  have x34 := C5.out.cell 34
  have x35 := C5.out.cell 35
  have x36 := C5.out.cell 36
  have x37 := C5.out.cell 37
  simp only [List.getElem?_cons_zero, List.getElem?_cons_succ] at x30 x31 x32 x33 x34 x35 x36 x37
  have C6 : Hid (Cl (w5.alloc (.cells #[.int .i64 s.client, .int .i64 s.n, .int .i64 0, .int .i64 off, .int .i64 0, .int .i64 gen, .slice none 0 0, .slice none 0 0] 45)) w5.heap.size [.int .i64 s.client, .int .i64 s.n, .int .i64 0, .int .i64 off, .int .i64 0, .int .i64 gen, .slice none 0 0, .slice none 0 0] 45) := Cl.new w5 _ _
  have A6 : Hid (Ag (w5.alloc (.cells #[.int .i64 s.client, .int .i64 s.n, .int .i64 0, .int .i64 off, .int .i64 0, .int .i64 gen, .slice none 0 0, .slice none 0 0] 45)) g { s with busy := false, s1 := s.s1 + 1 }) := Cl.alloc A5.out _
  have Z6 := Lib.hid (Z5.out.alloc (.cells #[.int .i64 s.client, .int .i64 s.n, .int .i64 0, .int .i64 off, .int .i64 0, .int .i64 gen, .slice none 0 0, .slice none 0 0] 45))
  have K6 : Hid (Keeps (fun j => j = g ∨ j = s.gens) w (w5.alloc (.cells #[.int .i64 s.client, .int .i64 s.n, .int .i64 0, .int .i64 off, .int .i64 0, .int .i64 gen, .slice none 0 0, .slice none 0 0] 45))) := K5.out.trans (Keeps.alloc _ _ _)
  have M6 : Hid (Mp (w5.alloc (.cells #[.int .i64 s.client, .int .i64 s.n, .int .i64 0, .int .i64 off, .int .i64 0, .int .i64 gen, .slice none 0 0, .slice none 0 0] 45)) s.gens (imap gl)) := M5.out.below ((Below.refl _ _).alloc (Nat.le_refl _) _)
  have hq1 := A5.out.lt
  have hq2 := Z5.out.lt
  have hq3 := M5.out.lt
  have hq4 := K5.out.size
  go_upto_region 21 with (fail)
  generalize w5.alloc (.cells #[.int .i64 s.client, .int .i64 s.n, .int .i64 0, .int .i64 off, .int .i64 0, .int .i64 gen, .slice none 0 0, .slice none 0 0] 45) = w6 at *
  generalize w5.heap.size = q at *
  clear x30 x31 x32 x33 x34 x35 x36 x37 C5 A5 Z5 K5 M5
  go_cut [] (fun wz => Cl wz q [.int .i64 s.client, .int .i64 s.n, .int .i64 0, .int .i64 off, .int .i64 0, .int .i64 gen, .slice none 0 0, .slice none 0 0] 45 ∧ Keeps (fun j => j = q) w6 wz)
  case first =>
    have r6 := C6.out.cell 6
    have r7 := C6.out.cell 7
    have y6 := C6.out.free 6
    have y7 := C6.out.free 7
    have C6d : Hid (Cl w6.drew q [.int .i64 s.client, .int .i64 s.n, .int .i64 0, .int .i64 off, .int .i64 0, .int .i64 gen, .slice none 0 0, .slice none 0 0] 45) := C6.out
    have r6d := C6d.out.cell 6
    have r7d := C6d.out.cell 7
    have y6d := C6d.out.free 6
    have y7d := C6d.out.free 7
    simp only [List.getElem?_cons_zero, List.getElem?_cons_succ] at r6 r7 r6d r7d
    have CW : Hid (Cl ((w6.setCell ⟨q, 6, none⟩ (.slice none 0 0)).setCell ⟨q, 7, none⟩ (.slice none 0 0)).drew q [.int .i64 s.client, .int .i64 s.n, .int .i64 0, .int .i64 off, .int .i64 0, .int .i64 gen, .slice none 0 0, .slice none 0 0] 45) := Cl.drewN (Cl.set (Cl.set C6.out 6 (.slice none 0 0)) 7 (.slice none 0 0)) 1
    have s7 := (Cl.set C6d.out 6 (.slice none 0 0)).cell 7
    have t7 := (Cl.set C6d.out 6 (.slice none 0 0)).free 7
    simp only [List.set_cons_zero, List.set_cons_succ, List.getElem?_cons_zero, List.getElem?_cons_succ] at s7
    have KS : Hid (Keeps (fun j => j = q) w6 ((w6.setCell ⟨q, 6, none⟩ (.slice none 0 0)).setCell ⟨q, 7, none⟩ (.slice none 0 0)).drew) := ((Keeps.setCell (fun j => j = q) _ ⟨q, 6, none⟩ _ rfl).trans (Keeps.setCell (fun j => j = q) _ ⟨q, 7, none⟩ _ rfl)).trans (Keeps.drew _ _)
    go_wp2
    go_region_law (first
      | (go_simp; go_at_call 19; refine (cloneints_nil _).mono ?_; rintro e we ⟨rfl, rfl⟩)
      | (go_simp; go_at_call 14; refine (clonerecs_nil _).mono ?_; rintro e we ⟨rfl, rfl⟩))
    all_goals
      go_wp2
      go_meet
      case rel => exact ⟨CW.out, KS.out⟩
  case rest =>
    obtain ⟨hC7, hK7⟩ := hcut
    generalize wc = w7 at *
    have C7 := Lib.hid hC7
    have A7 : Hid (Ag w7 g { s with busy := false, s1 := s.s1 + 1 }) := Cl.keep A6.out hK7 (by omega)
    have Z7 := Lib.hid (Cl.keep Z6.out hK7 (by omega))
    have M7 := Lib.hid (M6.out.kept hK7 (by omega))
    have K7 : Hid (Keeps (fun j => j = g ∨ j = s.gens) w w7) := Keeps.fresh K6.out hK7 (fun j hj e => by omega)
    clear hC7 hK7 C6 A6 Z6 K6 M6
    have c0 := Cl.cell A7.out 0
    have c11 := Cl.cell A7.out 11
    have c12 := Cl.cell A7.out 12
    have c13 := Cl.cell A7.out 13
    have c14 := Cl.cell A7.out 14
    have c15 := Cl.cell A7.out 15
    have c16 := Cl.cell A7.out 16
    have r0 := C7.out.cell 0
    have r1 := C7.out.cell 1
    have r2 := C7.out.cell 2
    have r3 := C7.out.cell 3
    have r4 := C7.out.cell 4
    have r5 := C7.out.cell 5
    have r6 := C7.out.cell 6
    have r7 := C7.out.cell 7
    have z0 := Z7.out.cell 0
    have y0 := Z7.out.free 0
    have z1 := Z7.out.cell 1
    have y1 := Z7.out.free 1
    have z2 := Z7.out.cell 2
    have y2 := Z7.out.free 2
    have z3 := Z7.out.cell 3
    have y3 := Z7.out.free 3
    have z4 := Z7.out.cell 4
    have y4 := Z7.out.free 4
    have z5 := Z7.out.cell 5
    have y5 := Z7.out.free 5
    have z6 := Z7.out.cell 6
    have y6 := Z7.out.free 6
    have z7 := Z7.out.cell 7
    have y7 := Z7.out.free 7
    have z8 := Z7.out.cell 8
    have y8 := Z7.out.free 8
    have z9 := Z7.out.cell 9
    have y9 := Z7.out.free 9
    have z10 := Z7.out.cell 10
    have y10 := Z7.out.free 10
    have z11 := Z7.out.cell 11
    have y11 := Z7.out.free 11
    have z12 := Z7.out.cell 12
    have y12 := Z7.out.free 12
    have z13 := Z7.out.cell 13
    have y13 := Z7.out.free 13
    have z14 := Z7.out.cell 14
    have y14 := Z7.out.free 14
    simp only [List.getElem?_cons_zero, List.getElem?_cons_succ, agC] at c0 c11 c12 c13 c14 c15 c16 r0 r1 r2 r3 r4 r5 r6 r7 z0 z1 z2 z3 z4 z5 z6 z7 z8 z9 z10 z11 z12 z13 z14
    rw [hk] at c11
    rw [hcr] at c16
    go_wp2
    go_region
    obtain ⟨w8, hw8, Z8, K8⟩ : ∃ w8, (((((((((((((((w7.setCell ⟨(p + 1), 0, none⟩ (.int .i64 s.client)).setCell ⟨(p + 1), 1, none⟩ (.int .i64 1)).setCell ⟨(p + 1), 2, none⟩ (.int .i64 s.call.part)).setCell ⟨(p + 1), 3, none⟩ (.int .i64 s.call.off)).setCell ⟨(p + 1), 4, none⟩ (.int .i64 s.call.max)).setCell ⟨(p + 1), 5, none⟩ (.string ⟨s.call.group.toArray⟩)).setCell ⟨(p + 1), 6, none⟩ (.slice ac lc cc)).setCell ⟨(p + 1), 7, none⟩ (.int .i64 s.client)).setCell ⟨(p + 1), 8, none⟩ (.int .i64 s.n)).setCell ⟨(p + 1), 9, none⟩ (.int .i64 0)).setCell ⟨(p + 1), 10, none⟩ (.int .i64 off)).setCell ⟨(p + 1), 11, none⟩ (.int .i64 0)).setCell ⟨(p + 1), 12, none⟩ (.int .i64 gen)).setCell ⟨(p + 1), 13, none⟩ (.slice none 0 0)).setCell ⟨(p + 1), 14, none⟩ (.slice none 0 0)).drew = w8 ∧ Hid (Cl w8 (p + 1) [.int .i64 s.client, .int .i64 1, .int .i64 s.call.part, .int .i64 s.call.off, .int .i64 s.call.max, .string ⟨s.call.group.toArray⟩, .slice ac lc cc, .int .i64 s.client, .int .i64 s.n, .int .i64 0, .int .i64 off, .int .i64 0, .int .i64 gen, .slice none 0 0, .slice none 0 0] 49) ∧ Hid (Keeps (fun j => j = p + 1) w7 w8) := ⟨_, rfl, Cl.drewN (Cl.set (Cl.set (Cl.set (Cl.set (Cl.set (Cl.set (Cl.set (Cl.set (Cl.set (Cl.set (Cl.set (Cl.set (Cl.set (Cl.set (Cl.set Z7.out 0 (.int .i64 s.client)) 1 (.int .i64 1)) 2 (.int .i64 s.call.part)) 3 (.int .i64 s.call.off)) 4 (.int .i64 s.call.max)) 5 (.string ⟨s.call.group.toArray⟩)) 6 (.slice ac lc cc)) 7 (.int .i64 s.client)) 8 (.int .i64 s.n)) 9 (.int .i64 0)) 10 (.int .i64 off)) 11 (.int .i64 0)) 12 (.int .i64 gen)) 13 (.slice none 0 0)) 14 (.slice none 0 0)) 1, ((((((((((((((((Keeps.refl (fun j => j = (p + 1)) w7).trans (Keeps.setCell (fun j => j = (p + 1)) w7 ⟨(p + 1), 0, none⟩ (.int .i64 s.client) rfl)).trans (Keeps.setCell (fun j => j = (p + 1)) (w7.setCell ⟨(p + 1), 0, none⟩ (.int .i64 s.client)) ⟨(p + 1), 1, none⟩ (.int .i64 1) rfl)).trans (Keeps.setCell (fun j => j = (p + 1)) ((w7.setCell ⟨(p + 1), 0, none⟩ (.int .i64 s.client)).setCell ⟨(p + 1), 1, none⟩ (.int .i64 1)) ⟨(p + 1), 2, none⟩ (.int .i64 s.call.part) rfl)).trans (Keeps.setCell (fun j => j = (p + 1)) (((w7.setCell ⟨(p + 1), 0, none⟩ (.int .i64 s.client)).setCell ⟨(p + 1), 1, none⟩ (.int .i64 1)).setCell ⟨(p + 1), 2, none⟩ (.int .i64 s.call.part)) ⟨(p + 1), 3, none⟩ (.int .i64 s.call.off) rfl)).trans (Keeps.setCell (fun j => j = (p + 1)) ((((w7.setCell ⟨(p + 1), 0, none⟩ (.int .i64 s.client)).setCell ⟨(p + 1), 1, none⟩ (.int .i64 1)).setCell ⟨(p + 1), 2, none⟩ (.int .i64 s.call.part)).setCell ⟨(p + 1), 3, none⟩ (.int .i64 s.call.off)) ⟨(p + 1), 4, none⟩ (.int .i64 s.call.max) rfl)).trans (Keeps.setCell (fun j => j = (p + 1)) (((((w7.setCell ⟨(p + 1), 0, none⟩ (.int .i64 s.client)).setCell ⟨(p + 1), 1, none⟩ (.int .i64 1)).setCell ⟨(p + 1), 2, none⟩ (.int .i64 s.call.part)).setCell ⟨(p + 1), 3, none⟩ (.int .i64 s.call.off)).setCell ⟨(p + 1), 4, none⟩ (.int .i64 s.call.max)) ⟨(p + 1), 5, none⟩ (.string ⟨s.call.group.toArray⟩) rfl)).trans (Keeps.setCell (fun j => j = (p + 1)) ((((((w7.setCell ⟨(p + 1), 0, none⟩ (.int .i64 s.client)).setCell ⟨(p + 1), 1, none⟩ (.int .i64 1)).setCell ⟨(p + 1), 2, none⟩ (.int .i64 s.call.part)).setCell ⟨(p + 1), 3, none⟩ (.int .i64 s.call.off)).setCell ⟨(p + 1), 4, none⟩ (.int .i64 s.call.max)).setCell ⟨(p + 1), 5, none⟩ (.string ⟨s.call.group.toArray⟩)) ⟨(p + 1), 6, none⟩ (.slice ac lc cc) rfl)).trans (Keeps.setCell (fun j => j = (p + 1)) (((((((w7.setCell ⟨(p + 1), 0, none⟩ (.int .i64 s.client)).setCell ⟨(p + 1), 1, none⟩ (.int .i64 1)).setCell ⟨(p + 1), 2, none⟩ (.int .i64 s.call.part)).setCell ⟨(p + 1), 3, none⟩ (.int .i64 s.call.off)).setCell ⟨(p + 1), 4, none⟩ (.int .i64 s.call.max)).setCell ⟨(p + 1), 5, none⟩ (.string ⟨s.call.group.toArray⟩)).setCell ⟨(p + 1), 6, none⟩ (.slice ac lc cc)) ⟨(p + 1), 7, none⟩ (.int .i64 s.client) rfl)).trans (Keeps.setCell (fun j => j = (p + 1)) ((((((((w7.setCell ⟨(p + 1), 0, none⟩ (.int .i64 s.client)).setCell ⟨(p + 1), 1, none⟩ (.int .i64 1)).setCell ⟨(p + 1), 2, none⟩ (.int .i64 s.call.part)).setCell ⟨(p + 1), 3, none⟩ (.int .i64 s.call.off)).setCell ⟨(p + 1), 4, none⟩ (.int .i64 s.call.max)).setCell ⟨(p + 1), 5, none⟩ (.string ⟨s.call.group.toArray⟩)).setCell ⟨(p + 1), 6, none⟩ (.slice ac lc cc)).setCell ⟨(p + 1), 7, none⟩ (.int .i64 s.client)) ⟨(p + 1), 8, none⟩ (.int .i64 s.n) rfl)).trans (Keeps.setCell (fun j => j = (p + 1)) (((((((((w7.setCell ⟨(p + 1), 0, none⟩ (.int .i64 s.client)).setCell ⟨(p + 1), 1, none⟩ (.int .i64 1)).setCell ⟨(p + 1), 2, none⟩ (.int .i64 s.call.part)).setCell ⟨(p + 1), 3, none⟩ (.int .i64 s.call.off)).setCell ⟨(p + 1), 4, none⟩ (.int .i64 s.call.max)).setCell ⟨(p + 1), 5, none⟩ (.string ⟨s.call.group.toArray⟩)).setCell ⟨(p + 1), 6, none⟩ (.slice ac lc cc)).setCell ⟨(p + 1), 7, none⟩ (.int .i64 s.client)).setCell ⟨(p + 1), 8, none⟩ (.int .i64 s.n)) ⟨(p + 1), 9, none⟩ (.int .i64 0) rfl)).trans (Keeps.setCell (fun j => j = (p + 1)) ((((((((((w7.setCell ⟨(p + 1), 0, none⟩ (.int .i64 s.client)).setCell ⟨(p + 1), 1, none⟩ (.int .i64 1)).setCell ⟨(p + 1), 2, none⟩ (.int .i64 s.call.part)).setCell ⟨(p + 1), 3, none⟩ (.int .i64 s.call.off)).setCell ⟨(p + 1), 4, none⟩ (.int .i64 s.call.max)).setCell ⟨(p + 1), 5, none⟩ (.string ⟨s.call.group.toArray⟩)).setCell ⟨(p + 1), 6, none⟩ (.slice ac lc cc)).setCell ⟨(p + 1), 7, none⟩ (.int .i64 s.client)).setCell ⟨(p + 1), 8, none⟩ (.int .i64 s.n)).setCell ⟨(p + 1), 9, none⟩ (.int .i64 0)) ⟨(p + 1), 10, none⟩ (.int .i64 off) rfl)).trans (Keeps.setCell (fun j => j = (p + 1)) (((((((((((w7.setCell ⟨(p + 1), 0, none⟩ (.int .i64 s.client)).setCell ⟨(p + 1), 1, none⟩ (.int .i64 1)).setCell ⟨(p + 1), 2, none⟩ (.int .i64 s.call.part)).setCell ⟨(p + 1), 3, none⟩ (.int .i64 s.call.off)).setCell ⟨(p + 1), 4, none⟩ (.int .i64 s.call.max)).setCell ⟨(p + 1), 5, none⟩ (.string ⟨s.call.group.toArray⟩)).setCell ⟨(p + 1), 6, none⟩ (.slice ac lc cc)).setCell ⟨(p + 1), 7, none⟩ (.int .i64 s.client)).setCell ⟨(p + 1), 8, none⟩ (.int .i64 s.n)).setCell ⟨(p + 1), 9, none⟩ (.int .i64 0)).setCell ⟨(p + 1), 10, none⟩ (.int .i64 off)) ⟨(p + 1), 11, none⟩ (.int .i64 0) rfl)).trans (Keeps.setCell (fun j => j = (p + 1)) ((((((((((((w7.setCell ⟨(p + 1), 0, none⟩ (.int .i64 s.client)).setCell ⟨(p + 1), 1, none⟩ (.int .i64 1)).setCell ⟨(p + 1), 2, none⟩ (.int .i64 s.call.part)).setCell ⟨(p + 1), 3, none⟩ (.int .i64 s.call.off)).setCell ⟨(p + 1), 4, none⟩ (.int .i64 s.call.max)).setCell ⟨(p + 1), 5, none⟩ (.string ⟨s.call.group.toArray⟩)).setCell ⟨(p + 1), 6, none⟩ (.slice ac lc cc)).setCell ⟨(p + 1), 7, none⟩ (.int .i64 s.client)).setCell ⟨(p + 1), 8, none⟩ (.int .i64 s.n)).setCell ⟨(p + 1), 9, none⟩ (.int .i64 0)).setCell ⟨(p + 1), 10, none⟩ (.int .i64 off)).setCell ⟨(p + 1), 11, none⟩ (.int .i64 0)) ⟨(p + 1), 12, none⟩ (.int .i64 gen) rfl)).trans (Keeps.setCell (fun j => j = (p + 1)) (((((((((((((w7.setCell ⟨(p + 1), 0, none⟩ (.int .i64 s.client)).setCell ⟨(p + 1), 1, none⟩ (.int .i64 1)).setCell ⟨(p + 1), 2, none⟩ (.int .i64 s.call.part)).setCell ⟨(p + 1), 3, none⟩ (.int .i64 s.call.off)).setCell ⟨(p + 1), 4, none⟩ (.int .i64 s.call.max)).setCell ⟨(p + 1), 5, none⟩ (.string ⟨s.call.group.toArray⟩)).setCell ⟨(p + 1), 6, none⟩ (.slice ac lc cc)).setCell ⟨(p + 1), 7, none⟩ (.int .i64 s.client)).setCell ⟨(p + 1), 8, none⟩ (.int .i64 s.n)).setCell ⟨(p + 1), 9, none⟩ (.int .i64 0)).setCell ⟨(p + 1), 10, none⟩ (.int .i64 off)).setCell ⟨(p + 1), 11, none⟩ (.int .i64 0)).setCell ⟨(p + 1), 12, none⟩ (.int .i64 gen)) ⟨(p + 1), 13, none⟩ (.slice none 0 0) rfl)).trans (Keeps.setCell (fun j => j = (p + 1)) ((((((((((((((w7.setCell ⟨(p + 1), 0, none⟩ (.int .i64 s.client)).setCell ⟨(p + 1), 1, none⟩ (.int .i64 1)).setCell ⟨(p + 1), 2, none⟩ (.int .i64 s.call.part)).setCell ⟨(p + 1), 3, none⟩ (.int .i64 s.call.off)).setCell ⟨(p + 1), 4, none⟩ (.int .i64 s.call.max)).setCell ⟨(p + 1), 5, none⟩ (.string ⟨s.call.group.toArray⟩)).setCell ⟨(p + 1), 6, none⟩ (.slice ac lc cc)).setCell ⟨(p + 1), 7, none⟩ (.int .i64 s.client)).setCell ⟨(p + 1), 8, none⟩ (.int .i64 s.n)).setCell ⟨(p + 1), 9, none⟩ (.int .i64 0)).setCell ⟨(p + 1), 10, none⟩ (.int .i64 off)).setCell ⟨(p + 1), 11, none⟩ (.int .i64 0)).setCell ⟨(p + 1), 12, none⟩ (.int .i64 gen)).setCell ⟨(p + 1), 13, none⟩ (.slice none 0 0)) ⟨(p + 1), 14, none⟩ (.slice none 0 0) rfl)).trans (Keeps.drew _ _)⟩
    first | rw [hw8] | skip
    clear hw8 c0 c11 c12 c13 c14 c15 c16 r0 r1 r2 r3 r4 r5 r6 r7 z0 z1 z2 z3 z4 z5 z6 z7 z8 z9 z10 z11 z12 z13 z14 y0 y1 y2 y3 y4 y5 y6 y7 y8 y9 y10 y11 y12 y13 y14
    have hgm := HI.out.M.lt
    have hlp := HLE.out
    have A8 : Ag w8 g { s with busy := false, s1 := s.s1 + 1 } := Cl.keep A7.out K8.out hgp1
    have M8 := M7.out.kept K8.out (by omega)
    have KF : Keeps (fun j => j = g ∨ j = s.gens) w w8 := Keeps.fresh K7.out K8.out (fun j hj e => by omega)
    have HP : Hid (HeardPost w g s { s with busy := false, s1 := s.s1 + 1 } gl off gen (.returned (.tuple #[.agg #[.int .i64 s.client, .int .i64 1, .int .i64 s.call.part, .int .i64 s.call.off, .int .i64 s.call.max, .string ⟨s.call.group.toArray⟩, .slice ac lc cc, .int .i64 s.client, .int .i64 s.n, .int .i64 0, .int .i64 off, .int .i64 0, .int .i64 gen, .slice none 0 0, .slice none 0 0], .bool true])) w8) := by
      refine ⟨by unfold saidC; rw [hk, hcr], ?_, KF⟩
      exact { a := A8, rr := HI.out.rr.keep2 KF, cr := HI.out.cr.keep2 KF, M := M8, gg := HI.out.gg, cl := HI.out.cl, nd := HI.out.nd, cu := HI.out.cu, kd := HI.out.kd, nn := HI.out.nn, sq := ⟨HI.out.sq.1, HI.out.sq.2.1, by have := HI.out.sq; dsimp only; omega, by have := HI.out.sq; dsimp only; omega⟩, tk := HI.out.tk }
    clear A8 M8 KF A7 M7 K7 K8
    go_wp2
    refine bodyPost_ret (results_cl_tmp rfl _ _ _ _ _ _ rfl Z8.out Tryd.underlying49 rfl (by kernel_rfl)) rfl ?_
    exact HP.out

end Go.Proofs.YtkjbhkillkbcgaaDoor
